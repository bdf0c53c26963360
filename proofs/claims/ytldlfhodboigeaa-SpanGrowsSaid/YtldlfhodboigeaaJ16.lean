/- The same as J10, in which an operation that writes nothing may do more, or less, than make memory: what it may do is told. Generic in the program. -/
import Derived.Test.YtldlfhodboigeaaJ14
set_option linter.unusedVariables false
set_option linter.unusedSimpArgs false
namespace Go.Proofs.Ytldlfhodboigeaa.K
open Go Go.RowKit
structure KpQ where
  r : World → World → Prop
  g : World → World → Prop
  gdrew : ∀ w : World, g w { w with drawn := w.drawn + 1 }
  refl : ∀ w, r w w
  tr : ∀ {a b c : World}, r a b → r b c → r a c
  grow : ∀ {a b : World}, g a b → r a b
def Sp.StabQ (F : KpQ) : Sp → Prop
  | .ex _ => True
  | .so G => ∀ w w' v, F.r w w' → G w v → G w' v
theorem Sp.keepQ {F : KpQ} {s : Sp} (h : s.StabQ F) {w w' : World} {v : Value} (g : F.r w w') (hv : s.holds w v) : s.holds w' v := by
  cases s with
  | ex x => exact hv
  | so G => exact h w w' v g hv
/-- What is asked of one operation: a plain one, or the k-th of those that write. -/
def OblQ (P : Program) (ops : Array Oper) (F : KpQ) (S : Nat → World → Prop) (w0 : World) (e : Env) (o : Oper) (s : Sp) (l : List (Option Nat × Sp)) : Option Nat → Prop
  | none => ∀ w, F.r w0 w → OblEnv l e w fun e' => OpG P ops o e' w fun v w' => F.g w w' ∧ s.holds w' v
  | some k => ∀ w, F.r w0 w → S k w → OblEnv l e w fun e' => OpG P ops o e' w fun v w' => F.r w w' ∧ S (k + 1) w' ∧ s.holds w' v
def AOQ (P : Program) (ops : Array Oper) (F : KpQ) (S : Nat → World → Prop) (ms : List Nat) (w0 : World) (e : Env) (K : List Dn → Prop) : List Oper → List (List Nat) → List Dn → Prop
  | [], _, rdone => K rdone.reverse
  | o :: r, an, rdone => ∃ s : Sp, s.StabQ F ∧ OblQ P ops F S w0 e o s (selB rdone (an.headD [])) (mutNo ms 0 rdone.length) ∧
      AOQ P ops F S ms w0 e K r an.tail (⟨o, s, an.headD []⟩ :: rdone)
section
variable {P : Program} {ops : Array Oper} {F : KpQ} {S : Nat → World → Prop} {ms : List Nat} {w0 : World} {e : Env} {K : List Dn → Prop} {o : Oper} {r : List Oper} {a : List Nat} {an : List (List Nat)} {rdone : List Dn}
theorem AOQ_ex (x : Value) (hm : mutNo ms 0 rdone.length = none) (h : ∀ w, F.r w0 w → OblEnv (selB rdone a) e w fun e' => OpG P ops o e' w fun v w' => F.g w w' ∧ v = x)
    (next : AOQ P ops F S ms w0 e K r an (⟨o, .ex x, a⟩ :: rdone)) : AOQ P ops F S ms w0 e K (o :: r) (a :: an) rdone := ⟨.ex x, trivial, by rw [hm]; exact h, next⟩
theorem AOQ_so (G : World → Value → Prop) (hst : ∀ w w' v, F.r w w' → G w v → G w' v) (hm : mutNo ms 0 rdone.length = none) (h : ∀ w, F.r w0 w → OblEnv (selB rdone a) e w fun e' => OpG P ops o e' w fun v w' => F.g w w' ∧ G w' v)
    (next : AOQ P ops F S ms w0 e K r an (⟨o, .so G, a⟩ :: rdone)) : AOQ P ops F S ms w0 e K (o :: r) (a :: an) rdone := ⟨.so G, hst, by rw [hm]; exact h, next⟩
/-- One that writes, and comes to a value that is known. -/
theorem AOQ_mut (k : Nat) (x : Value) (hm : mutNo ms 0 rdone.length = some k) (h : ∀ w, F.r w0 w → S k w → OblEnv (selB rdone a) e w fun e' => OpG P ops o e' w fun v w' => F.r w w' ∧ S (k + 1) w' ∧ v = x)
    (next : AOQ P ops F S ms w0 e K r an (⟨o, .ex x, a⟩ :: rdone)) : AOQ P ops F S ms w0 e K (o :: r) (a :: an) rdone := ⟨.ex x, trivial, by rw [hm]; exact h, next⟩
theorem AOQ_nil {an : List (List Nat)} (h : K rdone.reverse) : AOQ P ops F S ms w0 e K [] an rdone := h
end
def GoodQ (P : Program) (ops : Array Oper) (F : KpQ) (S : Nat → World → Prop) (ms : List Nat) (w0 : World) (e : Env) (D : List Dn) : Prop :=
  ∀ i d, D[i]? = some d → d.s.StabQ F ∧ OblQ P ops F S w0 e d.o d.s (selB (D.take i).reverse d.anc) (mutNo ms 0 i)
theorem AOQ_out {P : Program} {ops : Array Oper} {F : KpQ} {S : Nat → World → Prop} {ms : List Nat} {w0 : World} {e : Env} {K : List Dn → Prop} : ∀ (r : List Oper) (an : List (List Nat)) (rdone : List Dn), r.length = an.length →
    AOQ P ops F S ms w0 e K r an rdone → GoodQ P ops F S ms w0 e rdone.reverse → ∃ D, K D ∧ GoodQ P ops F S ms w0 e D ∧ D.map Dn.o = rdone.reverse.map Dn.o ++ r ∧ D.map Dn.anc = rdone.reverse.map Dn.anc ++ an
  | [], [], rdone, _, h, hg => ⟨rdone.reverse, h, hg, by simp, by simp⟩
  | [], _ :: _, _, hl, _, _ => by simp at hl
  | _ :: _, [], _, hl, _, _ => by simp at hl
  | o :: r, a :: an, rdone, hl, ⟨s, hs, ho, hn⟩, hg => by
    simp only [List.headD_cons, List.tail_cons] at ho hn
    obtain ⟨D, hK, hG, hD, hA⟩ := AOQ_out r an (⟨o, s, a⟩ :: rdone) (by simpa using hl) hn (by
      intro i d hd
      simp only [List.reverse_cons] at hd ⊢
      rcases Nat.lt_or_ge i rdone.reverse.length with hi | hi
      · rw [List.getElem?_append_left hi] at hd
        rw [List.take_append_of_le_length (by omega)]
        exact hg i d hd
      · rw [List.getElem?_append_right hi] at hd
        have h0 : i - rdone.reverse.length = 0 := by
          rcases Nat.eq_zero_or_pos (i - rdone.reverse.length) with h | h
          · exact h
          · rw [List.getElem?_eq_none (by simp only [List.length_cons, List.length_nil]; omega)] at hd; cases hd
        rw [h0] at hd
        have hi' : i = rdone.reverse.length := by omega
        subst hi'
        simp only [List.getElem?_cons_zero, Option.some.injEq] at hd
        subst hd
        have ht : (rdone.reverse ++ [(⟨o, s, a⟩ : Dn)]).take rdone.reverse.length = rdone.reverse := by simp
        rw [ht, List.reverse_reverse]
        rw [List.length_reverse]
        exact ⟨hs, ho⟩)
    exact ⟨D, hK, hG, by rw [hD]; simp, by rw [hA]; simp⟩

section main
variable {P : Program} {N : Nat} {hd tl : List Oper} {Q : Ex → Env → World → Prop} {F : KpQ} {S : Nat → World → Prop} {ms : List Nat}

structure InvQ (F : KpQ) (S : Nat → World → Prop) (ms : List Nat) (P : Program) (hd tl : List Oper) (D : List Dn) (w0 : World) (e : Env) (L : Array Bool) (E : Env) (w : World) : Prop where
  msro : E.ms = e.ms ∧ E.ro = e.ro
  down : Down (hd ++ tl) L
  head : ∀ i, Ls L i → i < hd.length
  grow : F.r w0 w
  st : ∃ k, k ≤ ms.length ∧ S k w ∧ ∀ (j p : Nat), ms[j]? = some p → (Ls L p ↔ j < k)
  got : ∀ (i : Nat) (d : Dn), D[i]? = some d → Ls L i → ∃ v, d.s.holds w v ∧ ∀ t, d.o.dst = some t → E t = v
  off : ∀ u, (∀ (i : Nat) (o : Oper), (hd ++ tl)[i]? = some o → Ls L i → o.dst ≠ some u) → E u = e u

theorem phase1Q (sh : Shape hd tl) {D : List Dn} {w0 : World} {e : Env} (hD : D.map Dn.o = hd) (hA : D.map Dn.anc = ancB (hd ++ tl) hd.length) (hg : GoodQ P (hd ++ tl).toArray F S ms w0 e D)
    (hS : ∀ k w w', F.g w w' → S k w → S k w') (hmo : mutOk (ancL (hd ++ tl) []) [] ms = true) (hml : ∀ (j p : Nat), ms[j]? = some p → p < hd.length)
    (hfin : ∀ w, F.r w0 w → S ms.length w → Fin (fun e w => WL P (hd ++ tl).toArray Q tl e w) D e w) : ∀ (fuel : Nat) (L : Array Bool) (E : Env) (w : World),
    InvQ F S ms P hd tl D w0 e L E w → left L ≤ fuel → AnyE P (hd ++ tl).toArray Q fuel L E w := by
  have hlen : D.length = hd.length := by rw [← hD]; simp
  have hDo : ∀ (i : Nat) (d : Dn), D[i]? = some d → (hd ++ tl)[i]? = some d.o := fun i d h => by
    have hi : i < D.length := (List.getElem?_eq_some_iff.1 h).1
    rw [List.getElem?_append_left (by omega), ← hD]; simp [h]
  have hanc := ancs_eq sh hlen hA
  -- with all of the head listed, what follows stands
  have fin : ∀ (L : Array Bool) (E : Env) (w : World), InvQ F S ms P hd tl D w0 e L E w → (∀ i, i < hd.length → Ls L i) → WL P (hd ++ tl).toArray Q tl E w := by
    intro L E w inv hall
    have hSl : S ms.length w := by
      obtain ⟨k0, hk0, hSk, hch⟩ := inv.st
      rcases Nat.lt_or_ge k0 ms.length with hlt | hge
      · have hp := List.getElem?_eq_getElem hlt
        have := (hch k0 _ hp).1 (hall _ (hml k0 _ hp))
        omega
      · rw [show ms.length = k0 from by omega]; exact hSk
    obtain ⟨e', hG, hmr, hu⟩ := Fin_inst E D e (hfin w inv.grow hSl) (fun d hd' => by
      obtain ⟨i, hi, rfl⟩ := List.getElem_of_mem hd'
      exact inv.got i _ (List.getElem?_eq_getElem hi) (hall i (by omega)))
    have : e' = E := by
      refine Env.ext' (fun u => ?_) (by rw [hmr.1, inv.msro.1]) (by rw [hmr.2, inv.msro.2])
      by_cases hin : ∃ d ∈ D, d.o.dst = some u
      · exact (hu u).1 hin
      · rw [(hu u).2 (fun d hd' he => hin ⟨d, hd', he⟩)]
        refine (inv.off u fun i o ho hl hou => hin ?_).symm
        have hi := inv.head i hl
        have hiD : i < D.length := by omega
        have := hDo i _ (List.getElem?_eq_getElem hiD)
        rw [ho] at this
        exact ⟨D[i], List.getElem_mem hiD, by rw [← Option.some.inj this]; exact hou⟩
    rw [← this]; exact hG
  -- and so the rest of the region
  have rest : ∀ (fuel : Nat) (L : Array Bool) (E : Env) (w : World), InvQ F S ms P hd tl D w0 e L E w → (∀ i, i < hd.length → Ls L i) → left L ≤ fuel →
      AnyE P (hd ++ tl).toArray Q fuel L E w := by
    intro fuel L E w inv hall hf
    refine phase2 sh fuel hd.length L E w inv.down (fun i => ⟨inv.head i, hall i⟩) (Nat.le_refl _) (by simp) hf ?_
    rw [List.drop_left]
    exact fin L E w inv hall
  intro fuel
  induction fuel with
  | zero =>
    intro L E w inv hf
    refine rest 0 L E w inv (fun i hi => ?_) hf
    by_cases hl : Ls L i
    · exact hl
    · have := left_set (L := L) (i := i) (by rw [inv.down.size]; simp; omega) hl; omega
  | succ fuel ih =>
    intro L E w inv hf
    by_cases hall : ∀ i, i < hd.length → Ls L i
    · exact rest _ L E w inv hall hf
    refine ⟨fun hr => absurd (fun i hi => all_listed inv.down.size sh.back hr i (by simp; omega)) hall, fun i hi o' ho' => ?_⟩
    obtain ⟨hn, o, ho, hedge⟩ := (ready_iff inv.down.size).1 hi
    have hin : i < (hd ++ tl).length := (List.getElem?_eq_some_iff.1 ho).1
    have hal := anc_listed inv.down i o ho hedge
    have hih : i < hd.length := by
      rcases Nat.lt_or_ge i hd.length with h' | h'
      · exact h'
      · exact absurd (fun j hj => hal j (sh.tail i h' hin j (by omega))) hall
    have hi' : i < L.size := by rw [inv.down.size]; exact hin
    have hiD : i < D.length := by omega
    have hd' := List.getElem?_eq_getElem hiD
    generalize hdd : D[i] = d at hd'
    have hod : d.o = o := by have := hDo i d hd'; rw [ho] at this; exact (Option.some.inj this).symm
    obtain ⟨hst, hob⟩ := hg i d hd'
    have ha := hanc i d hd'
    rw [ha] at hob
    have hanI : (ancL (hd ++ tl) []).getD i [] = ancI (hd ++ tl) i := rfl
    have step : OblEnv (sel (D.take i) (ancI (hd ++ tl) i)) e w fun e' => OpG P (hd ++ tl).toArray d.o e' w fun v w' => F.r w w' ∧ (mutNo ms 0 i = none → F.g w w') ∧ (∃ k, k ≤ ms.length ∧ S k w' ∧ ∀ (j p : Nat), ms[j]? = some p → (Ls (L.setIfInBounds i true) p ↔ j < k)) ∧ d.s.holds w' v := by
      obtain ⟨k0, hk0, hSk, hch⟩ := inv.st
      cases hmu : mutNo ms 0 i with
      | none =>
        rw [hmu] at hob
        refine OblEnv_mono (fun e' h => h.mono fun v w' ⟨g, hv⟩ => ⟨F.grow g, fun _ => g, ⟨k0, hk0, hS _ _ _ g hSk, fun j p hj => ?_⟩, hv⟩) _ _ (hob w inv.grow)
        rw [Ls_set hi', ← hch j p hj]
        have : p ≠ i := fun h => mutNo_none hmu j (h ▸ hj)
        simp [this]
      | some k =>
        rw [hmu] at hob
        obtain ⟨_, hms⟩ := mutNo_some hmu
        rw [Nat.sub_zero] at hms
        have hkl : k < ms.length := (List.getElem?_eq_some_iff.1 hms).1
        have hkk : k0 = k := by
          have h1 : ¬ k < k0 := fun h => hn ((hch k i hms).2 h)
          rcases Nat.lt_or_ge k0 k with hlt | hge
          · have hq := List.getElem?_eq_getElem (show k0 < ms.length by omega)
            have h2 := (mutOk_at hmo k i hms).2 k0 _ hlt hq
            rw [hanI] at h2
            have := (hch k0 _ hq).1 (hal _ h2)
            omega
          · omega
        subst hkk
        refine OblEnv_mono (fun e' h => h.mono fun v w' ⟨g, hs', hv⟩ => ⟨g, nofun, ⟨k0 + 1, hkl, hs', fun j p hj => ?_⟩, hv⟩) _ _ (hob w inv.grow hSk)
        rw [Ls_set hi', hch j p hj]
        have anc_lt : ∀ q, q ∈ ancI (hd ++ tl) i → q < i := fun q hq => ((ancI_mem ho).1 hq).1
        constructor
        · rintro (rfl | h)
          · rcases Nat.lt_trichotomy j k0 with h | h | h
            · omega
            · omega
            · have h2 := (mutOk_at hmo j p hj).2 k0 p h hms
              exact absurd (anc_lt p h2) (by omega)
          · omega
        · intro h
          rcases Nat.lt_or_ge j k0 with h' | h'
          · exact .inr h'
          · have : j = k0 := by omega
            subst this
            rw [hms] at hj
            exact .inl (Option.some.inj hj).symm
    -- the obligation, at the frame that is there
    obtain ⟨e', hG, hu⟩ := OblEnv_inst E _ e (by
      intro p hp
      unfold sel at hp
      rw [List.mem_filterMap] at hp
      obtain ⟨j, hj, hp⟩ := hp
      rw [List.getElem?_take] at hp
      split at hp
      · cases hdj : D[j]? with
        | none => rw [hdj] at hp; simp at hp
        | some dj =>
          rw [hdj] at hp
          simp only [Option.map_some, Option.some.injEq] at hp
          subst hp
          exact inv.got j dj hdj (hal j hj)
      · simp at hp) step
    have hmem : ∀ u, (∃ p ∈ sel (D.take i) (ancI (hd ++ tl) i), p.1 = some u) ↔ ∃ j ∈ ancI (hd ++ tl) i, ∃ dj, D[j]? = some dj ∧ dj.o.dst = some u := by
      intro u
      unfold sel
      constructor
      · rintro ⟨p, hp, hpu⟩
        rw [List.mem_filterMap] at hp
        obtain ⟨j, hj, hp⟩ := hp
        rw [List.getElem?_take] at hp
        split at hp
        · cases hdj : D[j]? with
          | none => rw [hdj] at hp; simp at hp
          | some dj =>
            rw [hdj] at hp
            simp only [Option.map_some, Option.some.injEq] at hp
            subst hp
            exact ⟨j, hj, dj, hdj, hpu⟩
        · simp at hp
      · rintro ⟨j, hj, dj, hdj, hdu⟩
        refine ⟨(dj.o.dst, dj.s), ?_, hdu⟩
        rw [List.mem_filterMap]
        refine ⟨j, hj, ?_⟩
        rw [List.getElem?_take, if_pos ((ancI_mem ho).1 hj).1, hdj]
        rfl
    have hG2 : OpG P (hd ++ tl).toArray o E w fun v w' => F.r w w' ∧ (mutNo ms 0 i = none → F.g w w') ∧ (∃ k, k ≤ ms.length ∧ S k w' ∧ ∀ (j p : Nat), ms[j]? = some p → (Ls (L.setIfInBounds i true) p ↔ j < k)) ∧ d.s.holds w' v := by
      rw [hod] at hG
      refine OpG_congr (sh.nosel i o ho) (fun u hu' => ?_) hG
      by_cases hin' : ∃ p ∈ sel (D.take i) (ancI (hd ++ tl) i), p.1 = some u
      · exact (hu u).1 hin'
      · rw [(hu u).2 (fun p hp he => hin' ⟨p, hp, he⟩)]
        refine (inv.off u fun k p hp hl hpu => ?_).symm
        have hki : i ≠ k := fun h => hn (h ▸ hl)
        rcases sh.read i k o p ho hp hki u hpu hu' with h | h
        · refine hin' ((hmem u).2 ⟨k, h, ?_⟩)
          have hk := inv.head k hl
          have hkD : k < D.length := by omega
          have := hDo k _ (List.getElem?_eq_getElem hkD)
          rw [hp] at this
          exact ⟨_, List.getElem?_eq_getElem hkD, by rw [← Option.some.inj this]; exact hpu⟩
        · exact hn (anc_listed inv.down k p hp (inv.down.down k p hp hl) i h)
    have hoo : o = o' := by rw [List.getElem?_toArray, ho] at ho'; exact Option.some.inj ho'
    subst hoo
    refine OpG.mono ?_ hG2
    rintro v w' ⟨hgr, hgw, hst', hv⟩
    refine ih _ _ w' ⟨⟨by rw [put_ms]; exact inv.msro.1, by rw [put_ro]; exact inv.msro.2⟩, inv.down.set ho hedge, fun j hj => ?_, F.tr inv.grow hgr, hst', fun j dj hdj hl => ?_, fun u hu' => ?_⟩ (by have := left_set hi' hn; omega)
    · rw [Ls_set hi'] at hj
      rcases hj with rfl | hj
      · exact hih
      · exact inv.head j hj
    · rw [Ls_set hi'] at hl
      by_cases hji : j = i
      · subst hji
        rw [hd'] at hdj
        cases hdj
        refine ⟨v, hv, fun t ht => ?_⟩
        rw [hod] at ht
        rw [ht]; exact set_same _ _ _
      · have hlj := hl.resolve_left hji
        obtain ⟨vj, hvj, htj⟩ := inv.got j dj hdj hlj
        have hkeep : dj.s.holds w' vj := by
          have hsj := (hg j dj hdj).1
          exact Sp.keepQ hsj hgr hvj
        refine ⟨vj, hkeep, fun t ht => ?_⟩
        rw [← htj t ht]
        cases hdst' : o.dst with
        | none => rfl
        | some t' =>
          refine set_ne _ _ fun htt => ?_
          exact sh.uniq i j o dj.o ho (hDo j dj hdj) (Ne.symm hji) t' hdst' (by rw [ht, htt])
    · have hne : o.dst ≠ some u := hu' i o ho ((Ls_set hi').2 (.inl rfl))
      have : E.put o.dst v u = E u := by
        cases hdst' : o.dst with
        | none => rfl
        | some t' => exact set_ne _ _ fun htt => hne (by rw [hdst', htt])
      rw [this]
      exact inv.off u fun k p hp hl => hu' k p hp ((Ls_set hi').2 (.inr hl))

/-- A region whose order is open, some of whose operations write: the ms-th, one after another; F: what they may change; S k: what stands behind k of them. -/
theorem W_anyQ {id : Nat} {e : Env} {w : World} {l : List Oper} (m : Nat) (an : List (List Nat)) (ms : List Nat) (F : KpQ) (S : Nat → World → Prop) (hm : P.follows .mixedOrders = true) (hsh : shapeOk (l.take m) (l.drop m) = true)
    (han : ancB l (l.take m).length = an) (hdst : dstOk N l = true) (hmo : (mutOk (ancL l []) [] ms && ms.all fun p => Nat.blt p (l.take m).length) = true) (hS : ∀ k w w', F.g w w' → S k w → S k w') (h0 : ∀ w0, F.g w w0 → S 0 w0)
    (h : ∀ w0, F.g w w0 → AOQ P l.toArray F S ms w0 e (fun D => ∀ w', F.r w0 w' → S ms.length w' → Fin (fun e w => WL P l.toArray Q (l.drop m) e w) D e w') (l.take m) an []) :
    W P N (.region id l.toArray true) Q e w := by
  have hl := List.take_append_drop m l
  generalize hhd : l.take m = hd at *
  generalize htl : l.drop m = tl at *
  subst hl
  have h := h { w with drawn := w.drawn + 1 } (F.gdrew w)
  have h0 := h0 { w with drawn := w.drawn + 1 } (F.gdrew w)
  simp only [Bool.and_eq_true, List.all_eq_true] at hmo
  have hml : ∀ (j p : Nat), ms[j]? = some p → p < hd.length := fun j p hj => by
    have := hmo.2 p (List.mem_of_getElem? hj)
    simpa [Nat.blt_eq] using this
  intro b a k cs hs he
  subst he
  have sh := shape_of hsh
  obtain ⟨D, hK, hG, hDo, hDa⟩ := AOQ_out _ _ _ (by rw [← han]; simp [ancB, length_ancL]) h (fun i d hd' => by simp at hd')
  have hDo' : D.map Dn.o = hd := by simpa using hDo
  have hDa' : D.map Dn.anc = ancB (hd ++ tl) hd.length := by rw [hDa, han]; simp
  have hno : ∀ i, ¬ Ls (Array.replicate (hd ++ tl).toArray.size false) i := fun i => by simp [Ls, Array.getD_eq_getD_getElem?, Array.getElem?_replicate]; split <;> simp
  have hany : AnyE P (hd ++ tl).toArray Q (hd ++ tl).toArray.size (Array.replicate (hd ++ tl).toArray.size false) (env b.roundOf a) { w with drawn := w.drawn + 1 } := by
    refine phase1Q sh hDo' hDa' hG hS hmo.1 hml hK _ _ _ _ ⟨⟨rfl, rfl⟩, ⟨by simp, fun i o ho hl => absurd hl (hno i)⟩, fun i hl => absurd hl (hno i), F.refl _, ⟨0, Nat.zero_le _, h0, fun j p hj => ⟨fun hl => absurd hl (hno p), fun h => by omega⟩⟩, fun i d hd' hl => absurd hl (hno i), fun u _ => rfl⟩ ?_
    unfold Go.Proofs.Ytldlfhodboigeaa.K.left
    have := List.countP_le_length (p := (!·)) (l := (Array.replicate (hd ++ tl).toArray.size false).toList)
    simpa using this
  have hs2 := AnyE_sound _ ((w.tape w.drawn (.order b.fn id))) _ _ _ hany
  obtain ⟨x, a', w', h1, h2, h3⟩ := ops_sound hdst (k := k) (cs := cs) _ a _ hs hs2
  refine ⟨x, a', w', h1, h2, .of (.one stepR_region_draw) ?_⟩
  simp only [Region.schedule, hm, Bool.true_or, if_true]
  exact h3

end main
end Go.Proofs.Ytldlfhodboigeaa.K
