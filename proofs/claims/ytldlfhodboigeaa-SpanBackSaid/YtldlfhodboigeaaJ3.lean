/- A region whose order is open, from its obligations: the proof. Generic in the program. -/
import Derived.Test.YtldlfhodboigeaaJ2
set_option linter.unusedVariables false
set_option linter.unusedSimpArgs false
namespace Go.Proofs.Ytldlfhodboigeaa.K
open Go Go.RowKit

theorem mem_edges {o : Oper} {k : Nat} : k ∈ edgesOf o ↔ ∃ e ∈ o.after, Region.binds .any e = true ∧ e.on = k := by
  unfold edgesOf
  simp only [List.mem_filterMap, Array.mem_toList_iff]
  constructor
  · rintro ⟨e, he, h⟩
    split at h
    · rename_i hb; exact ⟨e, he, hb, by simpa using h⟩
    · cases h
  · rintro ⟨e, he, hb, rfl⟩
    exact ⟨e, he, by simp [hb]⟩

theorem length_ancL : ∀ (r : List Oper) (done : List (List Nat)), (ancL r done).length = done.length + r.length
  | [], done => by simp [ancL]
  | o :: r, done => by simp [ancL, length_ancL r]; omega
theorem ancL_take : ∀ (r : List Oper) (done : List (List Nat)), (ancL r done).take done.length = done
  | [], done => by simp [ancL]
  | o :: r, done => by
    have := ancL_take r (done ++ [ancOf done o])
    simp only [ancL]
    have h2 := congrArg (List.take done.length) this
    rw [List.take_take] at h2
    simp only [List.length_append, List.length_cons, List.length_nil] at h2
    rw [show min done.length (done.length + (0 + 1)) = done.length from by omega] at h2
    rw [h2]; simp
theorem ancL_get : ∀ (r : List Oper) (done : List (List Nat)) (i : Nat) (o : Oper), r[i]? = some o →
    (ancL r done)[done.length + i]? = some (ancOf ((ancL r done).take (done.length + i)) o)
  | [], _, i, o, h => by simp at h
  | o' :: r, done, 0, o, h => by
    simp only [List.getElem?_cons_zero, Option.some.injEq] at h
    subst h
    have ht : (ancL (o' :: r) done).take done.length = done := ancL_take _ _
    simp only [Nat.add_zero, ht]
    have h1 := ancL_take r (done ++ [ancOf done o'])
    simp only [ancL]
    have : ((ancL r (done ++ [ancOf done o'])).take (done ++ [ancOf done o']).length)[done.length]? = some (ancOf done o') := by rw [h1]; simp
    rw [List.getElem?_take] at this
    simpa using this
  | o' :: r, done, i + 1, o, h => by
    have := ancL_get r (done ++ [ancOf done o']) i o (by simpa using h)
    simp only [List.length_append, List.length_cons, List.length_nil] at this
    simp only [ancL]
    rw [show done.length + (i + 1) = done.length + (0 + 1) + i from by omega]
    exact this

def ancI (ops : List Oper) (i : Nat) : List Nat := (ancL ops []).getD i []
theorem ancI_mem {ops : List Oper} {i j : Nat} {o : Oper} (ho : ops[i]? = some o) : j ∈ ancI ops i ↔ j < i ∧ ∃ k ∈ edgesOf o, k = j ∨ (k < i ∧ j ∈ ancI ops k) := by
  have hl : (ancL ops []).length = ops.length := by simp [length_ancL]
  have hi : i < ops.length := (List.getElem?_eq_some_iff.1 ho).1
  have hg := ancL_get ops [] i o ho
  simp only [List.length_nil, Nat.zero_add] at hg
  unfold ancI
  rw [List.getD_eq_getElem?_getD, hg]
  simp only [Option.getD_some]
  unfold ancOf
  have htl : ((ancL ops []).take i).length = i := by simp; omega
  rw [htl]
  simp only [List.mem_filter, List.mem_range, List.any_eq_true, Bool.or_eq_true, and_congr_right_iff]
  intro hj
  constructor
  · rintro ⟨k, hk, h⟩
    refine ⟨k, hk, ?_⟩
    rcases h with h | h
    · exact .inl (Nat.eq_of_beq_eq_true h)
    · right
      rw [List.getD_eq_getElem?_getD] at h ⊢
      rw [List.getElem?_take] at h
      by_cases hki : k < i
      · rw [if_pos hki] at h; exact ⟨hki, by simpa [List.elem_eq_mem] using h⟩
      · rw [if_neg hki] at h; simp at h
  · rintro ⟨k, hk, h⟩
    refine ⟨k, hk, ?_⟩
    rcases h with rfl | ⟨hki, h⟩
    · left; simp
    · right
      rw [List.getD_eq_getElem?_getD] at h ⊢
      rw [List.getElem?_take, if_pos hki]
      simpa [List.elem_eq_mem] using h

structure Shape (hd tl : List Oper) : Prop where
  nosel : ∀ (i : Nat) (o : Oper), (hd ++ tl)[i]? = some o → noSel o = true
  back : ∀ (i : Nat) (o : Oper), (hd ++ tl)[i]? = some o → ∀ k ∈ edgesOf o, k < i
  uniq : ∀ (i j : Nat) (o p : Oper), (hd ++ tl)[i]? = some o → (hd ++ tl)[j]? = some p → i ≠ j → ∀ t, o.dst = some t → p.dst ≠ some t
  read : ∀ (i j : Nat) (o p : Oper), (hd ++ tl)[i]? = some o → (hd ++ tl)[j]? = some p → i ≠ j → ∀ b, p.dst = some b → b ∈ slots (hd ++ tl) o → j ∈ ancI (hd ++ tl) i ∨ i ∈ ancI (hd ++ tl) j
  tail : ∀ (i : Nat), hd.length ≤ i → i < (hd ++ tl).length → ∀ j, j < i → j ∈ ancI (hd ++ tl) i
theorem shape_of {hd tl : List Oper} (h : shapeOk hd tl = true) : Shape hd tl := by
  unfold shapeOk at h
  simp only [Bool.and_eq_true, List.all_eq_true] at h
  obtain ⟨h1, h2⟩ := h
  have hrow : ∀ (i : Nat) (o : Oper), (hd ++ tl)[i]? = some o →
      (∀ k ∈ edgesOf o, Nat.blt k i = true) ∧
      (∀ (j : Nat) (p : Oper), (hd ++ tl)[j]? = some p → i ≠ j → (∀ t, o.dst = some t → p.dst ≠ some t) ∧
        (∀ b, p.dst = some b → b ∈ slots (hd ++ tl) o → j ∈ ancI (hd ++ tl) i ∨ i ∈ ancI (hd ++ tl) j)) ∧
      (hd.length ≤ i → ∀ j, j < i → j ∈ ancI (hd ++ tl) i) := fun i o ho => by
    have h3 := h2 i (List.mem_range.2 (List.getElem?_eq_some_iff.1 ho).1)
    rw [ho] at h3
    simp only [Bool.and_eq_true, List.all_eq_true] at h3
    obtain ⟨⟨ha, hb⟩, hc⟩ := h3
    refine ⟨ha, fun j p hp hne => ?_, fun hi j hj => ?_⟩
    · have h4 := hb j (List.mem_range.2 (List.getElem?_eq_some_iff.1 hp).1)
      rw [hp] at h4
      simp only [beq_false hne, Bool.false_or, Bool.and_eq_true] at h4
      refine ⟨fun t ht hpt => ?_, fun b hb' hs => ?_⟩
      · have h5 := h4.1
        rw [ht, hpt] at h5
        simp at h5
      · have h5 := h4.2
        rw [hb'] at h5
        simp only [Bool.or_eq_true, Bool.not_eq_true', List.elem_eq_mem, decide_eq_true_eq, decide_eq_false_iff_not] at h5
        unfold ancI
        rcases h5 with (h | h) | h
        · exact absurd hs h
        · exact .inl h
        · exact .inr h
    · have hb : Nat.blt i hd.length = false := by
        cases hb : Nat.blt i hd.length with
        | false => rfl
        | true => rw [Nat.blt_eq] at hb; omega
      rw [hb] at hc
      simp only [Bool.false_or, List.all_eq_true, List.mem_range, List.elem_eq_mem, decide_eq_true_eq] at hc
      exact hc j hj
  exact ⟨fun i o ho => h1 o (List.mem_of_getElem? ho), fun i o ho k hk => by simpa [Nat.blt_eq] using (hrow i o ho).1 k hk,
    fun i j o p ho hp hne => ((hrow i o ho).2.1 j p hp hne).1, fun i j o p ho hp hne => ((hrow i o ho).2.1 j p hp hne).2,
    fun i hi hn => (hrow i _ (List.getElem?_eq_getElem hn)).2.2 hi⟩

/-! ### which are listed -/
def Ls (L : Array Bool) (i : Nat) : Prop := L.getD i false = true
structure Down (ops : List Oper) (L : Array Bool) : Prop where
  size : L.size = ops.length
  down : ∀ (i : Nat) (o : Oper), ops[i]? = some o → Ls L i → ∀ k ∈ edgesOf o, Ls L k
theorem Ls.lt {L : Array Bool} {i : Nat} (h : Ls L i) : i < L.size := by
  unfold Ls at h
  rcases Nat.lt_or_ge i L.size with h' | h'
  · exact h'
  · simp [Array.getD_eq_getD_getElem?, Array.getElem?_eq_none h'] at h
theorem ready_iff {ops : List Oper} {L : Array Bool} (hs : L.size = ops.length) {i : Nat} : i ∈ Region.ready .any ops.toArray L ↔ ¬ Ls L i ∧ ∃ o, ops[i]? = some o ∧ ∀ k ∈ edgesOf o, Ls L k := by
  rw [mem_ready]
  simp only [List.getElem?_toArray]
  constructor
  · rintro ⟨h0, o, ho, h⟩
    refine ⟨fun hl => ?_, o, ho, fun k hk => ?_⟩
    · have := hl.lt
      unfold Ls at hl
      simp only [Array.getD_eq_getD_getElem?, Array.getElem?_eq_getElem this, Option.getD_some] at h0 hl
      rw [h0] at hl; cases hl
    · obtain ⟨e, he, hb, rfl⟩ := mem_edges.1 hk
      exact h e he hb
  · rintro ⟨h0, o, ho, h⟩
    refine ⟨?_, o, ho, fun e he hb => h _ (mem_edges.2 ⟨e, he, hb, rfl⟩)⟩
    have hi : i < L.size := by rw [hs]; exact (List.getElem?_eq_some_iff.1 ho).1
    unfold Ls at h0
    simp only [Array.getD_eq_getD_getElem?, Array.getElem?_eq_getElem hi, Option.getD_some] at h0 ⊢
    simpa using h0
theorem Ls_set {L : Array Bool} {i j : Nat} (hi : i < L.size) : Ls (L.setIfInBounds i true) j ↔ j = i ∨ Ls L j := by
  unfold Ls
  by_cases h : j = i
  · subst h; simp [Array.getD_eq_getD_getElem?, hi]
  · simp only [h, false_or]
    rw [getD_set_ne false (Ne.symm h)]
theorem anc_listed {ops : List Oper} {L : Array Bool} (hd : Down ops L) : ∀ (i : Nat) (o : Oper), ops[i]? = some o → (∀ k ∈ edgesOf o, Ls L k) → ∀ j ∈ ancI ops i, Ls L j := by
  intro i
  induction i using Nat.strongRecOn with
  | _ i ih =>
    intro o ho hk j hj
    obtain ⟨_, k, hke, h⟩ := (ancI_mem ho).1 hj
    rcases h with rfl | ⟨hki, hjk⟩
    · exact hk _ hke
    · have hlk := hk k hke
      have hlt : k < ops.length := by have := hlk.lt; rw [hd.size] at this; exact this
      exact ih k hki _ (List.getElem?_eq_getElem hlt) (hd.down k _ (List.getElem?_eq_getElem hlt) hlk) j hjk
theorem Down.set {ops : List Oper} {L : Array Bool} (h : Down ops L) {i : Nat} {o : Oper} (ho : ops[i]? = some o) (hk : ∀ k ∈ edgesOf o, Ls L k) : Down ops (L.setIfInBounds i true) := by
  have hi : i < L.size := by rw [h.size]; exact (List.getElem?_eq_some_iff.1 ho).1
  refine ⟨by simp [h.size], fun j p hp hl k hk' => ?_⟩
  rw [Ls_set hi] at hl ⊢
  rcases hl with rfl | hl
  · rw [ho] at hp; cases hp; exact .inr (hk k hk')
  · exact .inr (h.down j p hp hl k hk')
/-- How many are not listed. -/
def left (L : Array Bool) : Nat := L.toList.countP (!·)
theorem left_set {L : Array Bool} {i : Nat} (hi : i < L.size) (h : ¬ Ls L i) : left (L.setIfInBounds i true) + 1 = left L := by
  have hf : L[i] = false := by
    unfold Ls at h
    simp only [Array.getD_eq_getD_getElem?, Array.getElem?_eq_getElem hi, Option.getD_some] at h
    simpa using h
  unfold left
  have hl : i < L.toList.length := by simpa using hi
  have : (L.setIfInBounds i true).toList = L.toList.set i true := by simp
  have hx : L.toList[i] = false := by simpa using hf
  have hpos : 0 < L.toList.countP (!·) := List.countP_pos_iff.2 ⟨false, by rw [← hx]; exact List.getElem_mem hl, rfl⟩
  rw [this, List.countP_set hl, hx]
  simp only [Bool.not_false, if_true, Bool.not_true, Bool.false_eq_true, if_false]
  omega
/-- Where none is ready all are listed. -/
theorem all_listed {ops : List Oper} {L : Array Bool} (hs : L.size = ops.length) (hb : ∀ (i : Nat) (o : Oper), ops[i]? = some o → ∀ k ∈ edgesOf o, k < i)
    (hr : Region.ready .any ops.toArray L = []) : ∀ i, i < ops.length → Ls L i := by
  intro i
  induction i using Nat.strongRecOn with
  | _ i ih =>
    intro hi
    by_cases hl : Ls L i
    · exact hl
    · have : i ∈ Region.ready .any ops.toArray L := (ready_iff hs).2 ⟨hl, _, List.getElem?_eq_getElem hi, fun k hk => by
        have hki := hb i _ (List.getElem?_eq_getElem hi) k hk
        exact ih k hki (by omega)⟩
      rw [hr] at this; cases this

/-- A region's operations in every order that its edges allow. -/
def AnyE (P : Program) (ops : Array Oper) (Q : Ex → Env → World → Prop) : Nat → Array Bool → Env → World → Prop
  | 0, L, e, w => Region.ready .any ops L = [] ∧ Q .normal e w
  | f + 1, L, e, w => (Region.ready .any ops L = [] → Q .normal e w) ∧
    ∀ i ∈ Region.ready .any ops L, ∀ o, ops[i]? = some o → OpG P ops o e w fun v w' => AnyE P ops Q f (L.setIfInBounds i true) (e.put o.dst v) w'
theorem AnyE_sound {P : Program} {ops : Array Oper} {Q : Ex → Env → World → Prop} : ∀ (fuel t : Nat) (L : Array Bool) (e : Env) (w : World), AnyE P ops Q fuel L e w →
    OpsE P ops Q (Region.linearise.go .any ops fuel t L []) e w := by
  intro fuel
  induction fuel with
  | zero => intro t L e w h; simpa [Region.linearise.go, OpsE] using h.2
  | succ fuel ih =>
    intro t L e w h
    obtain ⟨h0, h1⟩ := h
    simp only [Region.linearise.go]
    change OpsE P ops Q (match (Region.ready .any ops L)[t % (Region.ready .any ops L).length]? with
      | some i => Region.linearise.go .any ops fuel (t / (Region.ready .any ops L).length) (L.setIfInBounds i true) [i]
      | none => [].reverse) e w
    cases hi : (Region.ready .any ops L)[t % (Region.ready .any ops L).length]? with
    | none =>
      have hnil : Region.ready .any ops L = [] := by
        cases hr : Region.ready .any ops L with
        | nil => rfl
        | cons x xs =>
          rw [hr] at hi
          have hlt : t % (x :: xs).length < (x :: xs).length := Nat.mod_lt _ (by simp)
          simp at hi
          simp at hlt
          omega
      simpa [OpsE] using h0 hnil
    | some i =>
      simp only []
      rw [linearise_go_acc, List.reverse_singleton, List.singleton_append]
      have hm := List.mem_of_getElem? hi
      simp only [OpsE]
      cases ho : ops[i]? with
      | none =>
        obtain ⟨_, o, ho', _⟩ := mem_ready.1 hm
        rw [ho] at ho'; cases ho'
      | some o => exact (h1 i hm o ho).mono fun v w' hv => ih _ _ _ w' hv

theorem put_ms (e : Env) (d : Option Nat) (v : Value) : (e.put d v).ms = e.ms := by cases d <;> rfl
theorem put_ro (e : Env) (d : Option Nat) (v : Value) : (e.put d v).ro = e.ro := by cases d <;> rfl
section main
variable {P : Program} {N : Nat} {hd tl : List Oper} {Q : Ex → Env → World → Prop}

theorem phase2 (sh : Shape hd tl) : ∀ (fuel : Nat) (k : Nat) (L : Array Bool) (E : Env) (w : World),
    Down (hd ++ tl) L → (∀ i, Ls L i ↔ i < k) → hd.length ≤ k → k ≤ (hd ++ tl).length → left L ≤ fuel →
    WL P (hd ++ tl).toArray Q ((hd ++ tl).drop k) E w → AnyE P (hd ++ tl).toArray Q fuel L E w := by
  intro fuel
  induction fuel with
  | zero =>
    intro k L E w hdn hL hk hkn hf h
    have hnone : ∀ i, i < L.size → Ls L i := by
      intro i hi
      by_cases hl : Ls L i
      · exact hl
      · have := left_set hi hl; omega
    have hke : k = (hd ++ tl).length := by
      rcases Nat.lt_or_ge k (hd ++ tl).length with hlt | hge
      · have := (hL k).1 (hnone k (by rw [hdn.size]; exact hlt)); omega
      · omega
    subst hke
    rw [List.drop_length] at h
    refine ⟨?_, h⟩
    rw [List.eq_nil_iff_forall_not_mem]
    intro i hi
    obtain ⟨hn, o, ho, _⟩ := (ready_iff hdn.size).1 hi
    exact hn (hnone i (by rw [hdn.size]; exact (List.getElem?_eq_some_iff.1 ho).1))
  | succ fuel ih =>
    intro k L E w hdn hL hk hkn hf h
    refine ⟨fun hr => ?_, fun i hi o' ho' => ?_⟩
    · have hke : k = (hd ++ tl).length := by
        rcases Nat.lt_or_ge k (hd ++ tl).length with hlt | hge
        · have := (hL k).1 (all_listed hdn.size sh.back hr k hlt); omega
        · omega
      subst hke
      rw [List.drop_length] at h
      exact h
    · obtain ⟨hn, o, ho, hedge⟩ := (ready_iff hdn.size).1 hi
      have hin : i < (hd ++ tl).length := (List.getElem?_eq_some_iff.1 ho).1
      have hik : k ≤ i := by
        rcases Nat.lt_or_ge i k with h' | h'
        · exact absurd ((hL i).2 h') hn
        · exact h'
      have hanc := anc_listed hdn i o ho hedge
      have hki : i = k := by
        rcases Nat.lt_or_ge k i with h' | h'
        · have := hanc k (sh.tail i (by omega) hin k h')
          have := (hL k).1 this; omega
        · omega
      subst hki
      have hi' : i < L.size := by rw [hdn.size]; exact hin
      rw [List.drop_eq_getElem_cons hin] at h
      have hoi : (hd ++ tl)[i] = o := by rw [List.getElem?_eq_getElem hin] at ho; exact Option.some.inj ho
      rw [hoi] at h
      have hoo : o = o' := by rw [List.getElem?_toArray, ho] at ho'; exact Option.some.inj ho'
      subst hoo
      refine OpG.mono ?_ h
      intro v w' hw
      refine ih (i + 1) _ _ w' (hdn.set ho hedge) (fun j => ?_) (by omega) (by omega) (by have := left_set hi' hn; omega) ?_
      · rw [Ls_set hi', hL j]; omega
      · exact hw

theorem Fin_inst {G : Env → World → Prop} {w : World} (E : Env) : ∀ (D : List Dn) (e : Env), Fin G D e w →
    (∀ d ∈ D, ∃ v, d.s.holds w v ∧ ∀ t, d.o.dst = some t → E t = v) →
    ∃ e', G e' w ∧ (e'.ms = e.ms ∧ e'.ro = e.ro) ∧ ∀ u, ((∃ d ∈ D, d.o.dst = some u) → e' u = E u) ∧ ((∀ d ∈ D, d.o.dst ≠ some u) → e' u = e u)
  | [], e, h, _ => ⟨e, h, ⟨rfl, rfl⟩, fun u => ⟨fun ⟨_, hp, _⟩ => by simp at hp, fun _ => rfl⟩⟩
  | ⟨o, s, an⟩ :: r, e, h, hl => by
    obtain ⟨v, hv, hE⟩ := hl ⟨o, s, an⟩ (by simp)
    have hr : ∃ e', G e' w ∧ (e'.ms = (e.put o.dst v).ms ∧ e'.ro = (e.put o.dst v).ro) ∧ ∀ u, ((∃ d ∈ r, d.o.dst = some u) → e' u = E u) ∧ ((∀ d ∈ r, d.o.dst ≠ some u) → e' u = (e.put o.dst v) u) := by
      refine Fin_inst E r (e.put o.dst v) ?_ (fun p hp => hl p (by simp [hp]))
      cases s with
      | ex x => simp only [Sp.holds] at hv; subst hv; exact h
      | so F => exact h v hv
    obtain ⟨e', hG, hmr, hu⟩ := hr
    refine ⟨e', hG, ⟨by rw [hmr.1, put_ms], by rw [hmr.2, put_ro]⟩, fun u => ⟨?_, ?_⟩⟩
    · rintro ⟨p, hp, hpu⟩
      by_cases hin : ∃ p ∈ r, p.o.dst = some u
      · exact (hu u).1 hin
      · rw [(hu u).2 (fun q hq he => hin ⟨q, hq, he⟩)]
        have : p = ⟨o, s, an⟩ := by
          rcases List.mem_cons.1 hp with h' | h'
          · exact h'
          · exact absurd ⟨p, h', hpu⟩ hin
        subst this
        simp only at hpu hE
        rw [hpu]
        simp only [Env.put, set_same]
        exact (hE u hpu).symm
    · intro hn
      rw [(hu u).2 (fun p hp => hn p (by simp [hp]))]
      have hne := hn ⟨o, s, an⟩ (by simp)
      simp only at hne
      cases hod : o.dst with
      | none => rfl
      | some t => exact set_ne _ _ (fun hut => hne (by rw [hod, hut]))

structure Inv (P : Program) (hd tl : List Oper) (D : List Dn) (w0 : World) (e : Env) (L : Array Bool) (E : Env) (w : World) : Prop where
  msro : E.ms = e.ms ∧ E.ro = e.ro
  down : Down (hd ++ tl) L
  head : ∀ i, Ls L i → i < hd.length
  grow : Grow w0 w
  got : ∀ (i : Nat) (d : Dn), D[i]? = some d → Ls L i → ∃ v, d.s.holds w v ∧ ∀ t, d.o.dst = some t → E t = v
  off : ∀ u, (∀ (i : Nat) (o : Oper), (hd ++ tl)[i]? = some o → Ls L i → o.dst ≠ some u) → E u = e u

theorem ancs_eq (sh : Shape hd tl) {D : List Dn} (hm : D.length = hd.length) (hA : D.map Dn.anc = ancB (hd ++ tl) hd.length) :
    ∀ (i : Nat) (d : Dn), D[i]? = some d → selB (D.take i).reverse d.anc = sel (D.take i) (ancI (hd ++ tl) i) := by
  intro i d hd'
  have hi : i < D.length := (List.getElem?_eq_some_iff.1 hd').1
  have h1 : (D.map Dn.anc)[i]? = some d.anc := by simp [hd']
  have hlt : i < (ancL (hd ++ tl) []).length := by simp [length_ancL]; omega
  rw [hA] at h1
  unfold ancB at h1
  rw [List.getElem?_map, List.getElem?_zipIdx, List.getElem?_take, if_pos (by omega), List.getElem?_eq_getElem hlt] at h1
  simp only [Option.map_some, Option.some.injEq, Nat.zero_add] at h1
  have hanc : (ancL (hd ++ tl) [])[i] = ancI (hd ++ tl) i := by
    unfold ancI
    rw [List.getD_eq_getElem?_getD, List.getElem?_eq_getElem hlt]; rfl
  rw [hanc] at h1
  have hin : i < (hd ++ tl).length := by simp; omega
  have hlen : (D.take i).length = i := by simp; omega
  have := selB_eq (D.take i) (ancI (hd ++ tl) i) (fun j hj => by rw [hlen]; exact ((ancI_mem (List.getElem?_eq_getElem hin)).1 hj).1)
  rw [hlen] at this
  rw [← h1, this]

theorem phase1 (sh : Shape hd tl) {D : List Dn} {w0 : World} {e : Env} (hD : D.map Dn.o = hd) (hA : D.map Dn.anc = ancB (hd ++ tl) hd.length) (hg : Good P (hd ++ tl).toArray w0 e D)
    (hfin : ∀ w, Grow w0 w → Fin (fun e w => WL P (hd ++ tl).toArray Q tl e w) D e w) : ∀ (fuel : Nat) (L : Array Bool) (E : Env) (w : World),
    Inv P hd tl D w0 e L E w → left L ≤ fuel → AnyE P (hd ++ tl).toArray Q fuel L E w := by
  have hlen : D.length = hd.length := by rw [← hD]; simp
  have hDo : ∀ (i : Nat) (d : Dn), D[i]? = some d → (hd ++ tl)[i]? = some d.o := fun i d h => by
    have hi : i < D.length := (List.getElem?_eq_some_iff.1 h).1
    rw [List.getElem?_append_left (by omega), ← hD]; simp [h]
  have hanc := ancs_eq sh hlen hA
  -- with all of the head listed, what follows stands
  have fin : ∀ (L : Array Bool) (E : Env) (w : World), Inv P hd tl D w0 e L E w → (∀ i, i < hd.length → Ls L i) → WL P (hd ++ tl).toArray Q tl E w := by
    intro L E w inv hall
    obtain ⟨e', hG, hmr, hu⟩ := Fin_inst E D e (hfin w inv.grow) (fun d hd' => by
      obtain ⟨i, hi, rfl⟩ := List.getElem_of_mem hd'
      exact inv.got i _ (List.getElem?_eq_getElem hi) (hall i (by omega)))
    have : e' = E := by
      refine Env.ext' (fun u => ?_) (by rw [hmr.1, inv.msro.1]) (by rw [hmr.2, inv.msro.2])
      by_cases hin : ∃ d ∈ D, d.o.dst = some u
      · exact (hu u).1 hin
      · rw [(hu u).2 (fun d hd' he => hin ⟨d, hd', he⟩)]
        refine (inv.off u fun i o ho hl hou => hin ?_).symm
        have hi := inv.head i hl
        have hiD : i < D.length := by omega
        have := hDo i _ (List.getElem?_eq_getElem hiD)
        rw [ho] at this
        exact ⟨D[i], List.getElem_mem hiD, by rw [← Option.some.inj this]; exact hou⟩
    rw [← this]; exact hG
  -- and so the rest of the region
  have rest : ∀ (fuel : Nat) (L : Array Bool) (E : Env) (w : World), Inv P hd tl D w0 e L E w → (∀ i, i < hd.length → Ls L i) → left L ≤ fuel →
      AnyE P (hd ++ tl).toArray Q fuel L E w := by
    intro fuel L E w inv hall hf
    refine phase2 sh fuel hd.length L E w inv.down (fun i => ⟨inv.head i, hall i⟩) (Nat.le_refl _) (by simp) hf ?_
    rw [List.drop_left]
    exact fin L E w inv hall
  intro fuel
  induction fuel with
  | zero =>
    intro L E w inv hf
    refine rest 0 L E w inv (fun i hi => ?_) hf
    by_cases hl : Ls L i
    · exact hl
    · have := left_set (L := L) (i := i) (by rw [inv.down.size]; simp; omega) hl; omega
  | succ fuel ih =>
    intro L E w inv hf
    by_cases hall : ∀ i, i < hd.length → Ls L i
    · exact rest _ L E w inv hall hf
    refine ⟨fun hr => absurd (fun i hi => all_listed inv.down.size sh.back hr i (by simp; omega)) hall, fun i hi o' ho' => ?_⟩
    obtain ⟨hn, o, ho, hedge⟩ := (ready_iff inv.down.size).1 hi
    have hin : i < (hd ++ tl).length := (List.getElem?_eq_some_iff.1 ho).1
    have hal := anc_listed inv.down i o ho hedge
    have hih : i < hd.length := by
      rcases Nat.lt_or_ge i hd.length with h' | h'
      · exact h'
      · exact absurd (fun j hj => hal j (sh.tail i h' hin j (by omega))) hall
    have hi' : i < L.size := by rw [inv.down.size]; exact hin
    have hiD : i < D.length := by omega
    have hd' := List.getElem?_eq_getElem hiD
    generalize hdd : D[i] = d at hd'
    have hod : d.o = o := by have := hDo i d hd'; rw [ho] at this; exact (Option.some.inj this).symm
    obtain ⟨hst, hob⟩ := hg i d hd'
    have ha := hanc i d hd'
    rw [ha] at hob
    -- the obligation, at the frame that is there
    obtain ⟨e', hG, hu⟩ := OblEnv_inst E _ e (by
      intro p hp
      unfold sel at hp
      rw [List.mem_filterMap] at hp
      obtain ⟨j, hj, hp⟩ := hp
      rw [List.getElem?_take] at hp
      split at hp
      · cases hdj : D[j]? with
        | none => rw [hdj] at hp; simp at hp
        | some dj =>
          rw [hdj] at hp
          simp only [Option.map_some, Option.some.injEq] at hp
          subst hp
          exact inv.got j dj hdj (hal j hj)
      · simp at hp) (hob w inv.grow)
    have hmem : ∀ u, (∃ p ∈ sel (D.take i) (ancI (hd ++ tl) i), p.1 = some u) ↔ ∃ j ∈ ancI (hd ++ tl) i, ∃ dj, D[j]? = some dj ∧ dj.o.dst = some u := by
      intro u
      unfold sel
      constructor
      · rintro ⟨p, hp, hpu⟩
        rw [List.mem_filterMap] at hp
        obtain ⟨j, hj, hp⟩ := hp
        rw [List.getElem?_take] at hp
        split at hp
        · cases hdj : D[j]? with
          | none => rw [hdj] at hp; simp at hp
          | some dj =>
            rw [hdj] at hp
            simp only [Option.map_some, Option.some.injEq] at hp
            subst hp
            exact ⟨j, hj, dj, hdj, hpu⟩
        · simp at hp
      · rintro ⟨j, hj, dj, hdj, hdu⟩
        refine ⟨(dj.o.dst, dj.s), ?_, hdu⟩
        rw [List.mem_filterMap]
        refine ⟨j, hj, ?_⟩
        rw [List.getElem?_take, if_pos ((ancI_mem ho).1 hj).1, hdj]
        rfl
    have hG2 : OpG P (hd ++ tl).toArray o E w fun v w' => Grow w w' ∧ d.s.holds w' v := by
      rw [hod] at hG
      refine OpG_congr (sh.nosel i o ho) (fun u hu' => ?_) hG
      by_cases hin' : ∃ p ∈ sel (D.take i) (ancI (hd ++ tl) i), p.1 = some u
      · exact (hu u).1 hin'
      · rw [(hu u).2 (fun p hp he => hin' ⟨p, hp, he⟩)]
        refine (inv.off u fun k p hp hl hpu => ?_).symm
        have hki : i ≠ k := fun h => hn (h ▸ hl)
        rcases sh.read i k o p ho hp hki u hpu hu' with h | h
        · refine hin' ((hmem u).2 ⟨k, h, ?_⟩)
          have hk := inv.head k hl
          have hkD : k < D.length := by omega
          have := hDo k _ (List.getElem?_eq_getElem hkD)
          rw [hp] at this
          exact ⟨_, List.getElem?_eq_getElem hkD, by rw [← Option.some.inj this]; exact hpu⟩
        · exact hn (anc_listed inv.down k p hp (inv.down.down k p hp hl) i h)
    have hoo : o = o' := by rw [List.getElem?_toArray, ho] at ho'; exact Option.some.inj ho'
    subst hoo
    refine OpG.mono ?_ hG2
    rintro v w' ⟨hgr, hv⟩
    refine ih _ _ w' ⟨⟨by rw [put_ms]; exact inv.msro.1, by rw [put_ro]; exact inv.msro.2⟩, inv.down.set ho hedge, fun j hj => ?_, inv.grow.tr hgr, fun j dj hdj hl => ?_, fun u hu' => ?_⟩ (by have := left_set hi' hn; omega)
    · rw [Ls_set hi'] at hj
      rcases hj with rfl | hj
      · exact hih
      · exact inv.head j hj
    · rw [Ls_set hi'] at hl
      by_cases hji : j = i
      · subst hji
        rw [hd'] at hdj
        cases hdj
        refine ⟨v, hv, fun t ht => ?_⟩
        rw [hod] at ht
        rw [ht]; exact set_same _ _ _
      · have hlj := hl.resolve_left hji
        obtain ⟨vj, hvj, htj⟩ := inv.got j dj hdj hlj
        refine ⟨vj, Sp.keep (hg j dj hdj).1 hgr hvj, fun t ht => ?_⟩
        rw [← htj t ht]
        cases hdst' : o.dst with
        | none => rfl
        | some t' =>
          refine set_ne _ _ fun htt => ?_
          exact sh.uniq i j o dj.o ho (hDo j dj hdj) (Ne.symm hji) t' hdst' (by rw [ht, htt])
    · have hne : o.dst ≠ some u := hu' i o ho ((Ls_set hi').2 (.inl rfl))
      have : E.put o.dst v u = E u := by
        cases hdst' : o.dst with
        | none => rfl
        | some t' => exact set_ne _ _ fun htt => hne (by rw [hdst', htt])
      rw [this]
      exact inv.off u fun k p hp hl => hu' k p hp ((Ls_set hi').2 (.inr hl))

/-- A region whose order is open: the head's operations one by one, in any order; then the tail's, as they stand. -/
theorem W_any {id : Nat} {e : Env} {w : World} {l : List Oper} (m : Nat) (an : List (List Nat)) (hm : P.follows .mixedOrders = true) (hsh : shapeOk (l.take m) (l.drop m) = true)
    (han : ancB l (l.take m).length = an) (hdst : dstOk N l = true)
    (h : ∀ w0, Grow w w0 → AO P l.toArray w0 e (fun D => ∀ w', Grow w0 w' → Fin (fun e w => WL P l.toArray Q (l.drop m) e w) D e w') (l.take m) an []) :
    W P N (.region id l.toArray true) Q e w := by
  have hl := List.take_append_drop m l
  generalize hhd : l.take m = hd at *
  generalize htl : l.drop m = tl at *
  subst hl
  have h := h { w with drawn := w.drawn + 1 } (Grow.drew' w)
  intro b a k cs hs he
  subst he
  have sh := shape_of hsh
  obtain ⟨D, hK, hG, hDo, hDa⟩ := AO_out _ _ _ (by rw [← han]; simp [ancB, length_ancL]) h (fun i d hd' => by simp at hd')
  have hDo' : D.map Dn.o = hd := by simpa using hDo
  have hDa' : D.map Dn.anc = ancB (hd ++ tl) hd.length := by rw [hDa, han]; simp
  have hany : AnyE P (hd ++ tl).toArray Q (hd ++ tl).toArray.size (Array.replicate (hd ++ tl).toArray.size false) (env b.roundOf a) { w with drawn := w.drawn + 1 } := by
    refine phase1 sh hDo' hDa' hG hK _ _ _ _ ⟨⟨rfl, rfl⟩, ⟨by simp, fun i o ho hl => ?_⟩, fun i hl => ?_, Grow.rfl' _, fun i d hd' hl => ?_, fun u _ => rfl⟩ ?_
    · exact absurd hl (by simp [Ls, Array.getD_eq_getD_getElem?, Array.getElem?_replicate]; split <;> simp)
    · exact absurd hl (by simp [Ls, Array.getD_eq_getD_getElem?, Array.getElem?_replicate]; split <;> simp)
    · exact absurd hl (by simp [Ls, Array.getD_eq_getD_getElem?, Array.getElem?_replicate]; split <;> simp)
    · unfold Go.Proofs.Ytldlfhodboigeaa.K.left
      have := List.countP_le_length (p := (!·)) (l := (Array.replicate (hd ++ tl).toArray.size false).toList)
      simpa using this
  have hs2 := AnyE_sound _ ((w.tape w.drawn (.order b.fn id))) _ _ _ hany
  obtain ⟨x, a', w', h1, h2, h3⟩ := ops_sound hdst (k := k) (cs := cs) _ a _ hs hs2
  refine ⟨x, a', w', h1, h2, .of (.one stepR_region_draw) ?_⟩
  simp only [Region.schedule, hm, Bool.true_or, if_true]
  exact h3
end main
end Go.Proofs.Ytldlfhodboigeaa.K
