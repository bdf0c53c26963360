/- Arenas whose rows are one's own. No program here. -/
import Derived.Test.YtldlfhodboigeaaL08
import Derived.Test.YtldlfhodboigeaaJ11
set_option linter.unusedVariables false
set_option linter.unusedSimpArgs false
namespace Go.Proofs.Ytldlfhodboigeaa.K
open Go Go.RowKit

/-- A cell of one's own row is written. -/
theorem own_setcell {w w' : World} {base g n c i : Nat} {T : TypeId} {xs : List Value} {x : Value} {cur cur' : Array Value} (h : w.ownsRow base T 1 (.slice (some ⟨g, 0, none⟩) n c) n xs) (hb : w.heap[g]? = some (.cells cur T (0, 0)))
    (hb' : w'.heap[g]? = some (.cells cur' T (0, 0))) (hs : cur'.toList = cur.toList.set i x) : w'.ownsRow base T 1 (.slice (some ⟨g, 0, none⟩) n c) n (xs.set i x) := by
  obtain ⟨h1, h2⟩ := h
  refine ⟨by rw [List.length_set]; exact h1, .inr ?_⟩
  rcases h2 with ⟨h0, _⟩ | ⟨q, cap, cur0, hv, hq, hg, h3, h4, h5, h6⟩
  · cases h0
  · simp only [Value.slice.injEq, Option.some.injEq, Addr.mk.injEq, and_true, true_and] at hv
    obtain ⟨rfl, rfl⟩ := hv
    rw [hb] at hg
    simp only [Option.some.injEq, Obj.cells.injEq, and_true] at hg
    subst hg
    refine ⟨g, c, cur', rfl, hq, hb', h3, h4, ?_, ?_⟩
    · rw [← Array.length_toList, hs, List.length_set, Array.length_toList, h5]
    · rw [hs, List.take_set, h6]
/-- A row of segments, all of it one's own. -/
structure OwnA (TO TW : TypeId) (w : World) (base : Nat) (so : Value) (segs : List Value) (A : List (List Int)) : Prop where
  out : w.ownsRow base TO 1 so A.length segs
  seg : ∀ (i : Nat) (v : Value) (ws : List Int), segs[i]? = some v → A[i]? = some ws → w.ownsRow base TW 1 v ws.length (wordsV ws)
  dis : ∀ (i j : Nat) (v u : Value) (b : Nat), segs[i]? = some v → segs[j]? = some u → v.ownBlock = some b → u.ownBlock = some b → i = j
section
variable {TO TW : TypeId} {w w' : World} {base : Nat} {so so' : Value} {segs : List Value} {A : List (List Int)}
theorem OwnA.len (h : OwnA TO TW w base so segs A) : segs.length = A.length := by rw [h.out.1, Nat.mul_one]
theorem OwnA.at_ (h : OwnA TO TW w base so segs A) {i : Nat} (hi : i < A.length) : ∃ v, segs[i]? = some v ∧ w.ownsRow base TW 1 v A[i].length (wordsV A[i]) :=
  ⟨segs[i]'(by rw [h.len]; exact hi), List.getElem?_eq_getElem _, h.seg i _ _ (List.getElem?_eq_getElem _) (List.getElem?_eq_getElem hi)⟩
theorem OwnA.grow (h : OwnA TO TW w base so segs A) (g : Grow w w') : OwnA TO TW w' base so segs A :=
  ⟨own_grow h.out g, fun i v ws hv hw => own_grow (h.seg i v ws hv hw) g, h.dis⟩
theorem OwnA.lower {base' : Nat} (h : OwnA TO TW w base so segs A) (hb : base' ≤ base) : OwnA TO TW w base' so segs A :=
  ⟨own_base h.out hb, fun i v ws hv hw => own_base (h.seg i v ws hv hw) hb, h.dis⟩
theorem OwnA.arena (h : OwnA TO TW w base so segs A) (hA : A.length ≤ 1000) (hs : ∀ s ∈ A, s.length ≤ 100000) : ArenaR w so A := by
  refine ⟨segs, own_row h.out (by omega), fun i s hi => ?_⟩
  have hl : i < A.length := (List.getElem?_eq_some_iff.1 hi).1
  obtain ⟨v, hv, ho⟩ := h.at_ hl
  have he : A[i] = s := by rw [List.getElem?_eq_getElem hl] at hi; exact Option.some.inj hi
  rw [he] at ho
  exact ⟨v, hv, own_row ho (by have := hs s (List.mem_of_getElem? hi); omega)⟩
/-- A row of segments is copied (with an empty one behind it, or not), and one of them is another row, just made. -/
def growV (segs : List Value) (q : Nat) : List Value := if q = segs.length then segs ++ [.slice none 0 0] else segs
theorem growV_at {q i : Nat} {v : Value} (h : (growV segs q)[i]? = some v) : segs[i]? = some v ∨ (i = segs.length ∧ v = .slice none 0 0) := by
  unfold growV at h
  split at h
  · rcases Nat.lt_or_ge i segs.length with hi | hi
    · rw [List.getElem?_append_left hi] at h; exact .inl h
    · rw [List.getElem?_append_right hi] at h
      have h2 := List.getElem?_eq_some_iff.1 h
      simp at h2
      obtain ⟨h3, h4⟩ := h2
      exact .inr ⟨by omega, h4.symm⟩
  · exact .inl h
theorem OwnA.copy {q : Nat} {u : Value} {ws : List Int} (h : OwnA TO TW w base so segs A) (hbw : base ≤ w.heap.size) (g : Grow w w') (hq : q ≤ A.length) (hu : w'.ownsRow w.heap.size TW 1 u ws.length (wordsV ws)) (ho : w'.ownsRow base TO 1 so' (growB A q).length ((growV segs q).set q u)) :
    OwnA TO TW w' base so' ((growV segs q).set q u) ((growB A q).set q ws) := by
  have hlen : (growV segs q).length = (growB A q).length := by unfold growV growB; rw [h.len]; split <;> simp [h.len]
  have hqB := (growB_len hq).1
  have old : ∀ (i : Nat) (v : Value), (growV segs q)[i]? = some v → ∀ b, v.ownBlock = some b → b < w.heap.size := by
    intro i v hv b hb
    rcases growV_at hv with hv | ⟨_, rfl⟩
    · have hi : i < A.length := by rw [← h.len]; exact (List.getElem?_eq_some_iff.1 hv).1
      exact ((h.seg i v _ hv (List.getElem?_eq_getElem hi)).lt b hb).2
    · simp [Value.ownBlock] at hb
  refine ⟨by rw [List.length_set]; exact ho, fun i v s hv hs => ?_, fun i j v x b hv hx h1 h2 => ?_⟩
  · by_cases hi : i = q
    · subst hi
      rw [List.getElem?_set_self (by rw [hlen]; exact hqB)] at hv
      rw [List.getElem?_set_self hqB] at hs
      obtain rfl := Option.some.inj hv
      obtain rfl := Option.some.inj hs
      exact own_base hu hbw
    · rw [List.getElem?_set_ne (Ne.symm hi)] at hv hs
      have hil : i < A.length := by
        have := (List.getElem?_eq_some_iff.1 hs).1
        have hg := growB_length A q
        split at hg <;> omega
      have hs' : A[i]? = some s := by
        unfold growB at hs; split at hs
        · rwa [List.getElem?_append_left hil] at hs
        · exact hs
      rcases growV_at hv with hv | ⟨hi2, rfl⟩
      · exact own_grow (h.seg i v s hv hs') g
      · rw [h.len] at hi2; omega
  · by_cases hi : i = q
    · by_cases hj : j = q
      · rw [hi, hj]
      · subst hi
        rw [List.getElem?_set_self (by rw [hlen]; exact hqB)] at hv
        rw [List.getElem?_set_ne (Ne.symm hj)] at hx
        obtain rfl := Option.some.inj hv
        have := (hu.lt b h1).1
        have := old j x hx b h2
        omega
    · rw [List.getElem?_set_ne (Ne.symm hi)] at hv
      by_cases hj : j = q
      · subst hj
        rw [List.getElem?_set_self (by rw [hlen]; exact hqB)] at hx
        obtain rfl := Option.some.inj hx
        have := (hu.lt b h2).1
        have := old i v hv b h1
        omega
      · rw [List.getElem?_set_ne (Ne.symm hj)] at hx
        rcases growV_at hv with hv | ⟨_, rfl⟩
        · rcases growV_at hx with hx | ⟨_, rfl⟩
          · exact h.dis i j v x b hv hx h1 h2
          · simp [Value.ownBlock] at h2
        · simp [Value.ownBlock] at h1
/-- A word of a segment is written. -/
theorem OwnA.setw {q i g cap : Nat} {ws : List Int} {x : Int} {cur cur' : Array Value} (hOW : TO ≠ TW) (h : OwnA TO TW w base so segs A) (hA : A[q]? = some ws) (hs : segs[q]? = some (.slice (some ⟨g, 0, none⟩) ws.length cap))
    (hcur : w.heap[g]? = some (.cells cur TW (0, 0))) (hcur' : w'.heap[g]? = some (.cells cur' TW (0, 0))) (hset : cur'.toList = cur.toList.set i (.int .u64 x)) (u : Upd g w w') :
    OwnA TO TW w' base so segs (A.set q (ws.set i x)) := by
  have hqA : q < A.length := (List.getElem?_eq_some_iff.1 hA).1
  refine ⟨by rw [List.length_set]; exact own_upd h.out u (own_ne h.out hcur hOW), fun j v wj hv hw => ?_, h.dis⟩
  by_cases hj : j = q
  · subst hj
    rw [List.getElem?_set_self hqA] at hw
    rw [hs] at hv
    obtain rfl := Option.some.inj hv
    obtain rfl := Option.some.inj hw
    have := own_setcell (h.seg j _ ws hs hA) hcur hcur' hset
    rw [List.length_set, wordsV, List.map_set]
    exact this
  · rw [List.getElem?_set_ne (Ne.symm hj)] at hw
    have hsj := h.seg j v wj hv hw
    exact own_upd hsj u fun he => hj (h.dis j q v _ g hv hs he rfl)
end
theorem own_shape {w : World} {base n sz : Nat} {T : TypeId} {v : Value} {xs : List Value} (h : w.ownsRow base T sz v n xs) : ∃ ad c, v = .slice ad n c ∧ n ≤ c := by
  rcases h.2 with ⟨rfl, rfl⟩ | ⟨q, cap, cur, rfl, _, _, hn, _⟩
  · exact ⟨_, _, rfl, Nat.le_refl _⟩
  · exact ⟨_, _, rfl, hn⟩
theorem choose_slices {n : Nat} {segs : List Value} {len : Nat → Nat} (h : ∀ i, i < n → ∃ ad c, segs[i]? = some (.slice ad (len i) c)) : ∃ (sa : Nat → Option Addr) (sc : Nat → Nat), ∀ i, i < n → segs[i]? = some (.slice (sa i) (len i) (sc i)) := by
  have h2 : ∀ i, ∃ p : Option Addr × Nat, i < n → segs[i]? = some (.slice p.1 (len i) p.2) := fun i => by
    by_cases hi : i < n
    · obtain ⟨ad, c, h⟩ := h i hi; exact ⟨(ad, c), fun _ => h⟩
    · exact ⟨(none, 0), fun h => absurd h hi⟩
  obtain ⟨f, hf⟩ := Classical.axiomOfChoice h2
  exact ⟨fun i => (f i).1, fun i => (f i).2, hf⟩
section
variable {TB TO TW : TypeId} {w w' : World} {bB : Nat} {so : Value} {segs : List Value} {A : List (List Int)} {size all : Int}
theorem BldAt.fn (h : BldAt TB TO TW w bB so segs A size all) (hA : A.length ≤ 1000) : ∃ (ado : Option Addr) (co : Nat) (sa : Nat → Option Addr) (sc : Nat → Nat), so = .slice ado A.length co ∧ A.length ≤ co ∧ RowAt w 1 ado A.length segs ∧ ∀ i, i < A.length → segs[i]? = some (.slice (sa i) (len2 A i) (sc i)) := by
  obtain ⟨ado, co, h1, h2, _, h3⟩ := own_row h.out (by omega)
  obtain ⟨sa, sc, h4⟩ := choose_slices (n := A.length) (segs := segs) (len := len2 A) fun i hi => by
    obtain ⟨v, hv, ho⟩ := h.at_ hi
    obtain ⟨ad, c, rfl, _⟩ := own_shape ho
    exact ⟨ad, c, by rw [len2, getD_at hi]; exact hv⟩
  exact ⟨ado, co, sa, sc, h1, h2, h3, h4⟩
/-- The same where memory has grown besides. -/
theorem BldAt.setwK {q i g cap : Nat} {sv : Value} {ws : List Int} {x : Int} {cur cur' : Array Value} (hWB : TW ≠ TB) (hOW : TO ≠ TW) (h : BldAt TB TO TW w bB so segs A size all) (hA : A[q]? = some ws) (hs : segs[q]? = some sv)
    (hsv : sv = .slice (some ⟨g, 0, none⟩) ws.length cap) (hcur : w.heap[g]? = some (.cells cur TW (0, 0))) (hcur' : w'.heap[g]? = some (.cells cur' TW (0, 0))) (hset : cur'.toList = cur.toList.set i (.int .u64 x)) (u : Kp [g] w w') :
    BldAt TB TO TW w' bB so segs (A.set q (ws.set i x)) size all := by
  have hqA : q < A.length := (List.getElem?_eq_some_iff.1 hA).1
  have hgB : bB ≠ g := by intro he; subst he; have := hcur.symm.trans h.box; simp only [Option.some.injEq, Obj.cells.injEq] at this; exact hWB this.2.1
  have hbs : sv.ownBlock = some g := by rw [hsv]; rfl
  have keep : ∀ {n sz : Nat} {T : TypeId} {v : Value} {xs : List Value}, w.ownsRow 0 T sz v n xs → v.ownBlock ≠ some g → w'.ownsRow 0 T sz v n xs := fun ho hne => own_keepB ho u fun k hk hm => by
    simp only [List.mem_singleton] at hm; subst hm; exact hne hk
  refine ⟨u.heap h.box (by simpa using hgB), by rw [List.length_set]; exact keep h.out (own_ne h.out hcur hOW), fun j v wj hv hw => ?_, h.dis⟩
  by_cases hj : j = q
  · subst hj
    rw [List.getElem?_set_self hqA] at hw
    rw [hs] at hv
    obtain rfl := Option.some.inj hv
    obtain rfl := Option.some.inj hw
    subst hsv
    have := own_setcell (h.seg j _ ws hs hA) hcur hcur' hset
    rw [List.length_set, wordsV, List.map_set]
    exact this
  · rw [List.getElem?_set_ne (Ne.symm hj)] at hw
    have hsj := h.seg j v wj hv hw
    exact keep hsj fun he => hj (h.dis j q v sv g hv hs he hbs)
/-- A word is written: where, and what stands behind. -/
theorem BldAt.put {s i : Nat} (hWB : TW ≠ TB) (hOW : TO ≠ TW) (h : BldAt TB TO TW w bB so segs A size all) (hs : s < A.length) (hi : i < len2 A s) :
    ∃ g cap cur, segs[s]? = some (.slice (some ⟨g, 0, none⟩) (len2 A s) cap) ∧ w.heap[g]? = some (.cells cur TW (0, 0)) ∧ i < cur.size ∧ g ∈ blks bB so segs ∧ so.ownBlock ≠ some g ∧ bB ≠ g ∧
      ∀ (w' : World) (cur' : Array Value) (x : Int), w'.heap[g]? = some (.cells cur' TW (0, 0)) → cur'.toList = cur.toList.set i (.int .u64 x) → Kp [g] w w' → BldAt TB TO TW w' bB so segs (setP A s i x) size all := by
  have hl : len2 A s = A[s].length := by rw [len2, getD_at hs]
  obtain ⟨v, hv, ho⟩ := h.at_ hs
  rcases ho.2 with ⟨rfl, h0⟩ | ⟨g, cap, cur, rfl, _, hg, h1, h2, h3, h4⟩
  · omega
  · refine ⟨g, cap, cur, by rw [hl]; exact hv, hg, by omega, mem_blks.2 (.inr (.inr ⟨s, _, hv, rfl⟩)), own_ne h.out hg hOW, fun he => ?_, fun w' cur' x hc hset u => ?_⟩
    · subst he; have := hg.symm.trans h.box; simp only [Option.some.injEq, Obj.cells.injEq] at this; exact hWB this.2.1
    · have := h.setwK (i := i) hWB hOW (List.getElem?_eq_getElem hs) hv rfl hg hc hset u
      rw [setP, getD_at hs]
      exact this
theorem slice_inj {a b : Option Addr} {n m c d : Nat} (h : some (Value.slice a n c) = some (Value.slice b m d)) : a = b := by
  simp only [Option.some.injEq, Value.slice.injEq] at h; exact h.1
theorem RowAt.keep1 {w w' : World} {g sz n : Nat} {ad : Option Addr} {xs : List Value} (h : RowAt w sz ad n xs) (k : Kp [g] w w') (hn : ∀ b o, ad = some ⟨b, o, none⟩ → b ≠ g) : RowAt w' sz ad n xs :=
  ⟨h.len, h.lim, fun hp => by
    obtain ⟨b, o, cs, T, fr, rfl, hb, hx⟩ := h.at_ hp
    exact ⟨b, o, cs, T, fr, rfl, k.heap hb (by simpa using hn b o rfl), hx⟩⟩
theorem Grow.kp1 {g : Nat} {w0 w w' : World} (h : Grow w0 w) (k : Kp [g] w w') (hg : w0.heap.size ≤ g) : Grow w0 w' := h.trK k fun x hx => by simp only [List.mem_singleton] at hx; subst hx; exact hg
theorem own_addr {w : World} {base n sz : Nat} {T : TypeId} {ad : Option Addr} {c b o : Nat} {xs : List Value} (h : w.ownsRow base T sz (.slice ad n c) n xs) (ha : ad = some ⟨b, o, none⟩) : (Value.slice ad n c).ownBlock = some b := by rw [ha]; rfl
end
theorem Fit.small {size : Int} {A : List (List Int)} (h : Fit size A) (hs : size ≤ 4096) : A.length ≤ 1000 ∧ ∀ s ∈ A, s.length ≤ 100000 := by
  refine ⟨by have := h.most; omega, fun s hm => ?_⟩
  obtain ⟨i, hi, rfl⟩ := List.getElem_of_mem hm
  have := h.seg i
  rw [len2, getD_at hi] at this
  omega
theorem full_more {size : Int} {A : List (List Int)} {q : Nat} {l : List Int} (hq : q ≤ A.length) : (decide (((growA A q l).length : Int) ≤ 16) && (decide ((((growA A q l).getD q []).length : Int) ≤ size) && decide (totalP A + l.length ≤ 4096))) = !(moreP size ⟨A, false⟩ q l).full := by
  rw [← totalP_growA A q l hq]
  simp only [moreP, fullP, Bool.false_or, Bool.not_not, len2]
theorem lastP_lt {A : List (List Int)} (h : 1 ≤ A.length) : lastP A < A.length ∧ ((A.length : Int) - 1) = (lastP A : Int) := by unfold lastP; omega
/-- A tree that may be, so deep. -/
def Nd.fine (t : Nd) : Prop := ∃ l, t.right l = true
theorem Nd.fine_own {t : Nd} (h : t.fine) : t.own = true := by
  obtain ⟨l, h⟩ := h
  obtain ⟨k, s, w, b, ks⟩ := t
  simp only [Nd.right, Bool.and_eq_true] at h
  exact h.1.1
theorem rights_at {left : Nat} : ∀ {ks : List Nd} {k : Nat} (h : k < ks.length), Nd.rights ks left = true → ks[k].right left = true
  | t :: ts, 0, _, h => by simp only [Nd.rights, Bool.and_eq_true] at h; exact h.1
  | t :: ts, k + 1, hk, h => by
    simp only [Nd.rights, Bool.and_eq_true] at h
    have := rights_at (ks := ts) (k := k) (by simpa using hk) h.2
    simpa using this
theorem Nd.fine_kid {k s : Int} {w b : List Int} {ks : List Nd} {j : Nat} (h : (Nd.mk k s w b ks).fine) (hj : j < ks.length) : ks[j].fine := by
  obtain ⟨l, h⟩ := h
  simp only [Nd.right, Bool.and_eq_true] at h
  exact ⟨_, rights_at hj h.2⟩
structure OwnB (k : Int) (w b : List Int) (ks : List Nd) (need : Int) : Prop where
  kd : k = 0 ∨ k = 1 ∨ k = 2
  lw : w.length ≤ 4096
  lb : b.length ≤ 4096
  lk : ks.length ≤ 4096
  nn : 0 ≤ need
  most : need ≤ 5000
  kids : k ≠ 0 → (ks.length : Int) ≤ need
  b1 : k = 1 → b = []
theorem Nd.own_b {k s : Int} {w b : List Int} {ks : List Nd} (h : (Nd.mk k s w b ks).own = true) : OwnB k w b ks (Nd.mk k s w b ks).need := by
  simp only [Nd.own] at h
  split at h
  · rename_i h0
    simp only [Bool.and_eq_true, decide_eq_true_eq] at h
    exact ⟨.inl h0, by omega, by omega, by omega, by simp [Nd.need, h0], by simp [Nd.need, h0], fun h => absurd h0 h, fun h => by omega⟩
  · rename_i h0
    split at h
    · rename_i h1
      simp only [Bool.and_eq_true, decide_eq_true_eq] at h
      obtain ⟨_, h2, h3⟩ := h
      have : w.length ≤ 100 ∧ ks.length ≤ 100 := by split at h3 <;> omega
      refine ⟨.inr (.inl h1), by omega, by omega, by omega, ?_, ?_, fun _ => ?_, fun _ => List.eq_nil_of_length_eq_zero (by omega)⟩ <;> simp only [Nd.need, if_pos h1] <;> omega
    · rename_i h1
      split at h
      · rename_i h2
        have : w.length ≤ 4096 ∧ b.length ≤ 4096 ∧ ks.length ≤ 4096 ∧ (w.length + ks.length = 0 ∨ (b.length = 0 ∧ (w.length = 0 ∨ ks.length = 0))) := by
          split at h
          · simp only [Bool.and_eq_true, decide_eq_true_eq] at h; omega
          · split at h
            · simp only [Bool.and_eq_true, decide_eq_true_eq] at h; omega
            · split at h
              · simp only [Bool.and_eq_true, decide_eq_true_eq] at h; omega
              · cases h
        refine ⟨.inr (.inr h2), by omega, by omega, by omega, ?_, ?_, fun _ => ?_, fun h => absurd h h1⟩ <;> simp only [Nd.need, if_neg h1, if_pos h2] <;> omega
      · cases h
theorem Lay.eta {X : Lay} (h : X.full = false) : (⟨X.A, false⟩ : Lay) = X := by
  cases X; simp only at h; rw [h]
theorem NodeR.cells {w : World} {c : List Value} {t : Nd} (h : NodeR w c t) : ∃ k s a n cp a2 n2 c2 a3 n3 c3, c = [.int .i64 k, .int .i64 s, .slice a n cp, .slice a2 n2 c2, .slice a3 n3 c3] := by
  obtain @⟨kind, size, words, bytes, kids, ws, bs, ks, kc, hk, hs, hW, hwr, hB, hbr, hK, hKs⟩ := h
  obtain ⟨aw, cw, rfl, -⟩ := hW
  obtain ⟨ab, cb, rfl, -⟩ := hB
  obtain ⟨ak, ck, rfl, -⟩ := hK
  exact ⟨_, _, _, _, _, _, _, _, _, _, _, rfl⟩
theorem own_raise {w : World} {base base' n sz : Nat} {T : TypeId} {v : Value} {xs : List Value} (h : w.ownsRow base T sz v n xs) (hb : ∀ k, v.ownBlock = some k → base' ≤ k) : w.ownsRow base' T sz v n xs := by
  refine ⟨h.1, ?_⟩
  rcases h.2 with hn | ⟨q, cap, cur, rfl, _, rest⟩
  · exact .inl hn
  · exact .inr ⟨q, cap, cur, rfl, hb q rfl, rest⟩
theorem BldAt.owns {TB TO TW : TypeId} {w : World} {bB base : Nat} {so : Value} {segs : List Value} {A : List (List Int)} {size all : Int} (h : BldAt TB TO TW w bB so segs A size all) (hb : ∀ k ∈ blks bB so segs, base ≤ k) : OwnA TO TW w base so segs A :=
  ⟨own_raise h.out fun k hk => hb k (mem_blks.2 (.inr (.inl hk))), fun i v ws hv hw => own_raise (h.seg i v ws hv hw) fun k hk => hb k (mem_blks.2 (.inr (.inr ⟨i, v, hv, hk⟩))), h.dis⟩
theorem BldAt.rows {TB TO TW : TypeId} {w : World} {bB : Nat} {so : Value} {segs : List Value} {A : List (List Int)} {size all : Int} (h : BldAt TB TO TW w bB so segs A size all) (hs : ∀ s ∈ A, s.length ≤ 100000) : ∀ (i : Nat) (s : List Int), A[i]? = some s → ∃ v, segs[i]? = some v ∧ Row w 1 v s.length (wordsV s) := by
  intro i s hi
  have hl : i < A.length := (List.getElem?_eq_some_iff.1 hi).1
  obtain ⟨v, hv, ho⟩ := h.at_ hl
  have he : A[i] = s := by rw [List.getElem?_eq_getElem hl] at hi; exact Option.some.inj hi
  rw [he] at ho
  exact ⟨v, hv, own_row ho (by have := hs s (List.mem_of_getElem? hi); omega)⟩
theorem BldAt.init {TB TO TW : TypeId} {w : World} {bB b1 b2 : Nat} {size : Int} (hb : w.heap[bB]? = some (.cells #[.slice (some ⟨b2, 0, none⟩) 1 1, .int .i64 size, .int .i64 1] TB (0, 0))) (ho : w.heap[b2]? = some (.cells #[.slice (some ⟨b1, 0, none⟩) 1 1] TO (0, 0))) (hw : w.heap[b1]? = some (.cells #[.int .u64 0] TW (0, 0))) :
    BldAt TB TO TW w bB (.slice (some ⟨b2, 0, none⟩) 1 1) [.slice (some ⟨b1, 0, none⟩) 1 1] [[0]] size (totalP [[0]]) := by
  refine ⟨hb, own_lit ho (Nat.zero_le _) rfl (by decide), fun i v ws hv hw2 => ?_, fun i j v u b hv hu _ _ => ?_⟩
  · match i, hv, hw2 with
    | 0, hv, hw2 =>
      simp only [List.getElem?_cons_zero, Option.some.injEq] at hv hw2
      subst hv; subst hw2
      exact own_lit hw (Nat.zero_le _) rfl (by decide)
    | i + 1, hv, _ => simp at hv
  · have h1 := (List.getElem?_eq_some_iff.1 hv).1
    have h2 := (List.getElem?_eq_some_iff.1 hu).1
    simp at h1 h2; omega
theorem Fit.init {size : Int} (h : 1 ≤ size) : Fit size [[0]] := ⟨by simp, by simp, fun j => by
  match j with
  | 0 => simp [len2]; exact h
  | j + 1 => simp [len2]; omega, by simp [totalP]⟩
theorem OwnA.nil (TO TW : TypeId) (w : World) (base : Nat) : OwnA TO TW w base (.slice none 0 0) [] [] :=
  ⟨⟨by simp, .inl ⟨rfl, rfl⟩⟩, fun i v ws hv _ => by simp at hv, fun i j v u b hv _ _ _ => by simp at hv⟩
theorem OwnA.fn {TO TW : TypeId} {w : World} {base : Nat} {so : Value} {segs : List Value} {A : List (List Int)} (h : OwnA TO TW w base so segs A) (hA : A.length ≤ 1000) : ∃ (ado : Option Addr) (co : Nat) (sa : Nat → Option Addr) (sc : Nat → Nat), so = .slice ado A.length co ∧ A.length ≤ co ∧ co ≤ maxLen ∧ RowAt w 1 ado A.length segs ∧ ∀ i, i < A.length → segs[i]? = some (.slice (sa i) (len2 A i) (sc i)) ∧ w.ownsRow base TW 1 (.slice (sa i) (len2 A i) (sc i)) (len2 A i) (wordsV (A.getD i [])) := by
  obtain ⟨ado, co, h1, h2, h2', h3⟩ := own_row h.out (by omega)
  obtain ⟨sa, sc, h4⟩ := choose_slices (n := A.length) (segs := segs) (len := len2 A) fun i hi => by
    obtain ⟨v, hv, ho⟩ := h.at_ hi
    obtain ⟨ad, c, rfl, _⟩ := own_shape ho
    exact ⟨ad, c, by rw [len2, getD_at hi]; exact hv⟩
  refine ⟨ado, co, sa, sc, h1, h2, h2', h3, fun i hi => ⟨h4 i hi, ?_⟩⟩
  have := h.seg i _ _ (h4 i hi) (List.getElem?_eq_getElem hi)
  rw [len2, getD_at hi] at *
  exact this
theorem OwnA.one {TO TW : TypeId} {w : World} {base : Nat} {so : Value} {segs : List Value} {A : List (List Int)} (h : OwnA TO TW w base so segs A) : ∀ q ∈ segs, q.oneCell' = true := by
  intro q hq
  obtain ⟨i, hi, rfl⟩ := List.getElem_of_mem hq
  have hl : i < A.length := by rw [← h.len]; exact hi
  obtain ⟨v, hv, ho⟩ := h.at_ hl
  rw [List.getElem?_eq_getElem hi] at hv
  obtain rfl := Option.some.inj hv
  exact own_one ho
/-- The same, laid as a value. -/
def LayV (TO TW : TypeId) (w : World) (base : Nat) (lim : Int) (v : Value) (S : Lay) : Prop := ∃ so segs, v = .agg #[so, .int .i64 lim, .bool S.full] ∧ OwnA TO TW w base so segs S.A
theorem LayV.grow {TO TW : TypeId} {w w' : World} {base : Nat} {lim : Int} {v : Value} {S : Lay} (h : LayV TO TW w base lim v S) (g : Grow w w') : LayV TO TW w' base lim v S := by
  obtain ⟨so, segs, h1, h2⟩ := h; exact ⟨so, segs, h1, h2.grow g⟩
structure Sml (A : List (List Int)) : Prop where
  len : A.length ≤ 900
  seg : ∀ j, len2 A j ≤ 50000
theorem Sml.all {A : List (List Int)} (h : Sml A) : ∀ s ∈ A, s.length ≤ 100000 := by
  intro s hm
  obtain ⟨i, hi, rfl⟩ := List.getElem_of_mem hm
  have := h.seg i
  rw [len2, getD_at hi] at this
  omega
theorem Fit.sml {size : Int} {A : List (List Int)} (h : Fit size A) (hs : size ≤ 4096) : Sml A := ⟨by have := h.most; omega, fun j => by have := h.seg j; omega⟩
/-- Not much more. -/
structure Near (a b : Nat) (A B : List (List Int)) : Prop where
  len : B.length ≤ A.length + a
  seg : ∀ j, len2 B j ≤ len2 A j + b
theorem Near.set (A : List (List Int)) (s i : Nat) (x : Int) : Near 0 0 A (setP A s i x) := ⟨by rw [setP_length]; omega, fun j => by rw [setP_len2]; omega⟩
theorem Near.more (A : List (List Int)) (q : Nat) (l : List Int) (hq : q ≤ A.length) : Near 1 l.length A (growA A q l) := ⟨by rw [growA_length]; split <;> omega, fun j => by
  simp only [len2]; rw [growA_getD A q j l hq]; split
  · subst_vars; rw [List.length_append]; exact Nat.le_refl _
  · omega⟩
theorem Near.trans {a b c d : Nat} {A B C : List (List Int)} (h : Near a b A B) (k : Near c d B C) : Near (a + c) (b + d) A C := ⟨by have := h.len; have := k.len; omega, fun j => by have := h.seg j; have := k.seg j; omega⟩
theorem placeP_near (size : Int) (t : Nd) (S : Lay) (s i : Nat) (h1 : 1 ≤ S.A.length) : Near 1 1 S.A (placeP size t S s i).S.A := by
  unfold placeP
  split
  · have := Near.set S.A s i (t.near ((len2 S.A (lastP S.A) : Int) - i - 1)); exact ⟨Nat.le_trans this.len (Nat.le_succ _), fun j => Nat.le_trans (this.seg j) (Nat.le_succ _)⟩
  · split
    · exact (Near.set _ _ _ _).trans (Near.more _ _ [t.near 0] (by rw [setP_length]; unfold lastP; omega))
    · exact (Near.set _ _ _ _).trans (Near.more _ _ [t.near 0] (by rw [setP_length]; unfold lastP; omega))
theorem OwnA.upd {TO TW T : TypeId} {w w' : World} {base b : Nat} {so : Value} {segs : List Value} {A : List (List Int)} {cs : Array Value} {fr : Nat × Nat} (h : OwnA TO TW w base so segs A) (u : Upd b w w') (hb : w.heap[b]? = some (.cells cs T fr)) (hO : TO ≠ T) (hW : TW ≠ T) : OwnA TO TW w' base so segs A :=
  ⟨own_upd h.out u (own_ne h.out hb hO), fun i v ws hv hw => own_upd (h.seg i v ws hv hw) u (own_ne (h.seg i v ws hv hw) hb hW), h.dis⟩
theorem OwnA.rows {TO TW : TypeId} {w : World} {base : Nat} {so : Value} {segs : List Value} {A : List (List Int)} (h : OwnA TO TW w base so segs A) (hs : ∀ s ∈ A, s.length ≤ 100000) : ∀ (i : Nat) (s : List Int), A[i]? = some s → ∃ v, segs[i]? = some v ∧ Row w 1 v s.length (wordsV s) := by
  intro i s hi
  have hl : i < A.length := (List.getElem?_eq_some_iff.1 hi).1
  obtain ⟨v, hv, ho⟩ := h.at_ hl
  have he : A[i] = s := by rw [List.getElem?_eq_getElem hl] at hi; exact Option.some.inj hi
  rw [he] at ho
  exact ⟨v, hv, own_row ho (by have := hs s (List.mem_of_getElem? hi); omega)⟩
theorem OwnA.growV {TO TW : TypeId} {w : World} {base q : Nat} {so : Value} {segs : List Value} {A : List (List Int)} (h : OwnA TO TW w base so segs A) (hq : q ≤ A.length) : ∃ ad c, (growV segs q)[q]? = some (.slice ad (len2 A q) c) ∧ w.ownsRow base TW 1 (.slice ad (len2 A q) c) (len2 A q) (wordsV (A.getD q [])) := by
  unfold K.growV
  by_cases he : q = segs.length
  · rw [if_pos he, List.getElem?_append_right (by omega)]
    have h0 : len2 A q = 0 := len2_none (by rw [← h.len]; omega)
    have h1 : A.getD q [] = [] := List.eq_nil_of_length_eq_zero h0
    refine ⟨none, 0, by rw [h0]; simp [he], ?_⟩
    rw [h0, h1]; exact ⟨rfl, .inl ⟨rfl, rfl⟩⟩
  · have hl : q < A.length := by rw [h.len] at he; omega
    obtain ⟨v, hv, ho⟩ := h.at_ hl
    obtain ⟨ad, c, rfl, _⟩ := own_shape ho
    rw [if_neg he]
    have e : len2 A q = A[q].length := by rw [len2, getD_at hl]
    rw [e, getD_at hl]
    exact ⟨ad, c, hv, ho⟩
theorem growV_length {segs : List Value} {A : List (List Int)} {q : Nat} (h : segs.length = A.length) : (growV segs q).length = (growB A q).length := by
  unfold K.growV growB; rw [h]; split <;> simp [h]
theorem full_or (f : Bool) (a b c lim : Int) : (((f || decide (a > lim)) || decide (b > 16)) || decide (c > 4096)) = (f || !(decide (b ≤ 16) && (decide (a ≤ lim) && decide (c ≤ 4096)))) := by
  cases f
  · rw [Bool.eq_iff_iff]
    simp only [Bool.false_or, Bool.or_eq_true, decide_eq_true_eq, Bool.not_eq_true', Bool.and_eq_false_iff, decide_eq_false_iff_not]
    omega
  · simp
theorem OwnA.rowat {TO TW : TypeId} {w : World} {base n c : Nat} {ad : Option Addr} {segs : List Value} {A : List (List Int)} (h : OwnA TO TW w base (.slice ad n c) segs A) (hA : A.length ≤ 1000) : n = A.length ∧ RowAt w 1 ad n segs := by
  obtain ⟨a, b, h1, _, _, h2⟩ := own_row h.out (by omega)
  simp only [Value.slice.injEq] at h1
  obtain ⟨rfl, rfl, rfl⟩ := h1
  exact ⟨rfl, h2⟩
theorem Sml.set {A : List (List Int)} (h : Sml A) (s i : Nat) (x : Int) : Sml (setP A s i x) := ⟨by rw [setP_length]; exact h.len, fun j => by rw [setP_len2]; exact h.seg j⟩
theorem OwnA.init {TO TW : TypeId} {w : World} {base b1 b2 : Nat} (ho : w.heap[b2]? = some (.cells #[.slice (some ⟨b1, 0, none⟩) 1 1] TO (0, 0))) (hw : w.heap[b1]? = some (.cells #[.int .u64 0] TW (0, 0))) (h2 : base ≤ b2) (h1 : base ≤ b1) : OwnA TO TW w base (.slice (some ⟨b2, 0, none⟩) 1 1) [.slice (some ⟨b1, 0, none⟩) 1 1] [[0]] := by
  refine ⟨own_lit ho h2 rfl (by decide), fun i v ws hv hw2 => ?_, fun i j v u b hv hu _ _ => ?_⟩
  · match i, hv, hw2 with
    | 0, hv, hw2 =>
      simp only [List.getElem?_cons_zero, Option.some.injEq] at hv hw2
      subst hv; subst hw2
      exact own_lit hw h1 rfl (by decide)
    | i + 1, hv, _ => simp at hv
  · have h1 := (List.getElem?_eq_some_iff.1 hv).1
    have h2 := (List.getElem?_eq_some_iff.1 hu).1
    simp at h1 h2; omega
theorem ArenaR.fn {w : World} {v : Value} {A : List (List Int)} (h : ArenaR w v A) : ∃ (ad : Option Addr) (c : Nat) (segs : List Value) (sa : Nat → Option Addr) (sc : Nat → Nat), v = .slice ad A.length c ∧ A.length ≤ c ∧ c ≤ maxLen ∧ RowAt w 1 ad A.length segs ∧ (∀ i, i < A.length → segs[i]? = some (.slice (sa i) (len2 A i) (sc i))) ∧ ∀ i, i < A.length → len2 A i ≤ sc i ∧ sc i ≤ maxLen ∧ RowAt w 1 (sa i) (len2 A i) (wordsV (A.getD i [])) := by
  obtain ⟨segs, ⟨ad, c, h1, h2, h3, h4⟩, h5⟩ := h
  obtain ⟨sa, sc, h6⟩ := choose_slices (n := A.length) (segs := segs) (len := len2 A) fun i hi => by
    obtain ⟨u, hu, ad, c, rfl, _⟩ := h5 i _ (List.getElem?_eq_getElem hi)
    exact ⟨ad, c, by rw [len2, getD_at hi]; exact hu⟩
  refine ⟨ad, c, segs, sa, sc, h1, h2, h3, h4, h6, fun i hi => ?_⟩
  obtain ⟨u, hu, ad, c, rfl, h7, h8, h9⟩ := h5 i _ (List.getElem?_eq_getElem hi)
  have h10 := h6 i hi
  rw [hu] at h10
  simp only [Option.some.injEq, Value.slice.injEq] at h10
  obtain ⟨rfl, _, rfl⟩ := h10
  rw [len2, getD_at hi]
  exact ⟨h7, h8, h9⟩
theorem lists_eq {α : Type} {A B : List α} {d : α} (hl : A.length = B.length) (h : ∀ j, j < A.length → A.getD j d = B.getD j d) : A = B := by
  apply List.ext_getElem hl
  intro j h1 h2
  have := h j h1
  rwa [getD_at h1, getD_at h2] at this
theorem Nd.build_sml (t : Nd) (n : Int) : Sml (t.build n).1 := by
  unfold Nd.build
  split
  · exact ⟨by simp, fun j => by simp [len2]⟩
  · rename_i h
    split
    · exact ⟨by simp, fun j => by simp [len2]⟩
    · rename_i hf
      have hf : (t.lay n ⟨[[0]], false⟩ 0 0).full = false := by simpa using hf
      exact ((t.lay_ok n ⟨[[0]], false⟩ 0 0 (by simp)).fit (Fit.init (by omega)) hf).sml (by omega)
theorem Nd.build_err (t : Nd) (n : Int) : 0 ≤ (t.build n).2 ∧ (t.build n).2 ≤ 24 := by
  unfold Nd.build
  split
  · simp
  · split <;> simp
theorem ArenaR.slice {w : World} {v : Value} {A : List (List Int)} (h : ArenaR w v A) : ∃ ad n c, v = .slice ad n c := by
  obtain ⟨segs, ⟨ad, c, h1, _⟩, _⟩ := h; exact ⟨_, _, _, h1⟩
end Go.Proofs.Ytldlfhodboigeaa.K
