/- A region whose order is open: one obligation for each operation, which may lean on what it waits for alone; then every order is one. Generic in the program. -/
import Derived.Test.YtldlfhodboigeaaJ1
set_option linter.unusedVariables false
set_option linter.unusedSimpArgs false
namespace Go.Proofs.Ytldlfhodboigeaa.K
open Go Go.RowKit

/-- Blocks that were there are as they were. -/
abbrev Grow (w w' : World) : Prop := Below w.heap.size w w'
theorem Grow.rfl' (w : World) : Grow w w := Below.refl _ _
theorem Grow.tr {a b c : World} (h : Grow a b) (k : Grow b c) : Grow a c := Below.trans h (Below.mono k h.size)
theorem Grow.heap {w w' : World} (h : Grow w w') {b : Nat} {o : Obj} (hb : w.heap[b]? = some o) : w'.heap[b]? = some o := by
  rw [h.block b (Array.getElem?_eq_some_iff.1 hb).1]; exact hb
theorem Grow.drew' (w : World) : Grow w { w with drawn := w.drawn + 1 } := (Below.refl _ w).drew

/-- What is known of an operation's value: the value, or something that lasts. -/
inductive Sp where
  | ex (x : Value)
  | so (F : World → Value → Prop)
def Sp.holds : Sp → World → Value → Prop
  | .ex x, _, v => v = x
  | .so F, w, v => F w v
def Sp.Stab : Sp → Prop
  | .ex _ => True
  | .so F => ∀ w w' v, Grow w w' → F w v → F w' v
theorem Sp.keep {s : Sp} (h : s.Stab) {w w' : World} {v : Value} (g : Grow w w') (hv : s.holds w v) : s.holds w' v := by
  cases s with
  | ex x => exact hv
  | so F => exact h w w' v g hv

@[reducible] def OblEnv : List (Option Nat × Sp) → Env → World → (Env → Prop) → Prop
  | [], e, _, G => G e
  | (d, .ex x) :: r, e, w, G => OblEnv r (e.put d x) w G
  | (d, .so F) :: r, e, w, G => ∀ v, F w v → OblEnv r (e.put d v) w G

def edgesOf (o : Oper) : List Nat := o.after.toList.filterMap fun e => if Region.binds .any e then some e.on else none

structure Dn where
  o : Oper
  s : Sp
  anc : List Nat
def ancOf (done : List (List Nat)) (o : Oper) : List Nat :=
  (List.range done.length).filter fun j => (edgesOf o).any fun k => Nat.beq k j || (done.getD k []).elem j
def ancs (done : List Dn) : List (List Nat) := done.map Dn.anc
def sel (done : List Dn) (l : List Nat) : List (Option Nat × Sp) := l.filterMap fun j => (done[j]?).map fun d => (d.o.dst, d.s)
def ancL : List Oper → List (List Nat) → List (List Nat)
  | [], done => done
  | o :: r, done => ancL r (done ++ [ancOf done o])

/-- By how far back they lie. -/
def selB (rdone : List Dn) (l : List Nat) : List (Option Nat × Sp) := l.filterMap fun j => (rdone[j]?).map fun d => (d.o.dst, d.s)
/-- 'an': what each operation waits for, written out, by how far back it lies; 'rdone': what is done, the last first. -/
def AO (P : Program) (ops : Array Oper) (w0 : World) (e : Env) (K : List Dn → Prop) : List Oper → List (List Nat) → List Dn → Prop
  | [], _, rdone => K rdone.reverse
  | o :: r, an, rdone => ∃ s : Sp, s.Stab ∧
      (∀ w, Grow w0 w → OblEnv (selB rdone (an.headD [])) e w fun e' => OpG P ops o e' w fun v w' => Grow w w' ∧ s.holds w' v) ∧
      AO P ops w0 e K r an.tail (⟨o, s, an.headD []⟩ :: rdone)
theorem AO_ex {P : Program} {ops : Array Oper} {w0 : World} {e : Env} {K : List Dn → Prop} {o : Oper} {r : List Oper} {a : List Nat} {an : List (List Nat)} {rdone : List Dn} (x : Value)
    (h : ∀ w, Grow w0 w → OblEnv (selB rdone a) e w fun e' => OpG P ops o e' w fun v w' => Grow w w' ∧ v = x)
    (next : AO P ops w0 e K r an (⟨o, .ex x, a⟩ :: rdone)) : AO P ops w0 e K (o :: r) (a :: an) rdone := ⟨.ex x, trivial, h, next⟩
theorem AO_so {P : Program} {ops : Array Oper} {w0 : World} {e : Env} {K : List Dn → Prop} {o : Oper} {r : List Oper} {a : List Nat} {an : List (List Nat)} {rdone : List Dn} (F : World → Value → Prop)
    (hst : ∀ w w' v, Grow w w' → F w v → F w' v)
    (h : ∀ w, Grow w0 w → OblEnv (selB rdone a) e w fun e' => OpG P ops o e' w fun v w' => Grow w w' ∧ F w' v)
    (next : AO P ops w0 e K r an (⟨o, .so F, a⟩ :: rdone)) : AO P ops w0 e K (o :: r) (a :: an) rdone := ⟨.so F, hst, h, next⟩
theorem AO_nil {P : Program} {ops : Array Oper} {w0 : World} {e : Env} {K : List Dn → Prop} {an : List (List Nat)} {rdone : List Dn} (h : K rdone.reverse) : AO P ops w0 e K [] an rdone := h

/-- Behind the region: its values are there, whatever they are. -/
@[reducible] def Fin (G : Env → World → Prop) : List Dn → Env → World → Prop
  | [], e, w => G e w
  | ⟨o, .ex x, _⟩ :: r, e, w => Fin G r (e.put o.dst x) w
  | ⟨o, .so F, _⟩ :: r, e, w => ∀ v, F w v → Fin G r (e.put o.dst v) w

/-- The slots that an operation reads. -/
def slots (ops : List Oper) (o : Oper) : List Nat :=
  (o.op.operands.toList.filterMap fun | .tmp t => some t | _ => none) ++ (match o.guard with | some (j, _) => ((ops[j]?).bind (·.dst)).toList | none => [])
def noSel (o : Oper) : Bool := match o.op with | .select .. => false | _ => true

/-- What is asked of the region's shape: edges lead back; slots are written once; a slot that is read is written by what is waited for, or by what waits. -/
def shapeOk (hd tl : List Oper) : Bool :=
  let ops := hd ++ tl
  let n := ops.length
  let an := ancL ops []
  let anc (i j : Nat) : Bool := (an.getD i []).elem j
  (ops.all noSel) &&
  (List.range n).all fun i => match ops[i]? with
    | none => false
    | some o =>
      (edgesOf o).all (fun k => Nat.blt k i) &&
      ((List.range n).all fun j => match ops[j]? with
        | none => false
        | some p => Nat.beq i j || (
          (match o.dst, p.dst with | some a, some b => !(Nat.beq a b) | _, _ => true) &&
          (match p.dst with | some b => !((slots ops o).elem b) || anc i j || anc j i | none => true))) &&
      (Nat.blt i hd.length || (List.range i).all fun j => anc i j)

theorem OpG_congr {P : Program} {hd : List Oper} {o : Oper} {e e' : Env} {w : World} {K : Value → World → Prop} (hs : noSel o = true)
    (h : ∀ u ∈ slots hd o, e' u = e u) (hg : OpG P hd.toArray o e' w K) : OpG P hd.toArray o e w K := by
  have hop : execOp (ev e') o = execOp (ev e) o := by
    refine execOp_congr o (fun cs b hc => by simp [noSel, hc] at hs) fun x hx => ?_
    cases x with
    | tmp t =>
      refine h t ?_
      simp only [slots, List.mem_append, List.mem_filterMap]
      exact .inl ⟨.tmp t, by simpa using hx, rfl⟩
    | _ => rfl
  have hw : wantedE hd.toArray o e' = wantedE hd.toArray o e := by
    unfold wantedE
    cases hgd : o.guard with
    | none => rfl
    | some jb =>
      obtain ⟨j, b⟩ := jb
      simp only [List.getElem?_toArray]
      cases hdst : (hd[j]?).bind (·.dst) with
      | none => rfl
      | some d =>
        have := h d (by simp [slots, hgd, hdst])
        simp only [this]
  unfold OpG Run1 at *
  rw [hop, hw] at hg
  exact hg

theorem OblEnv_inst {w : World} {G : Env → Prop} (E : Env) : ∀ (l : List (Option Nat × Sp)) (e : Env),
    (∀ p ∈ l, ∃ v, p.2.holds w v ∧ ∀ t, p.1 = some t → E t = v) → OblEnv l e w G →
    ∃ e', G e' ∧ ∀ u, ((∃ p ∈ l, p.1 = some u) → e' u = E u) ∧ ((∀ p ∈ l, p.1 ≠ some u) → e' u = e u)
  | [], e, _, h => ⟨e, h, fun u => ⟨fun ⟨_, hp, _⟩ => by simp at hp, fun _ => rfl⟩⟩
  | (d, s) :: r, e, hl, h => by
    obtain ⟨v, hv, hE⟩ := hl (d, s) (by simp)
    have hr : ∃ e', G e' ∧ ∀ u, ((∃ p ∈ r, p.1 = some u) → e' u = E u) ∧ ((∀ p ∈ r, p.1 ≠ some u) → e' u = (e.put d v) u) := by
      refine OblEnv_inst E r (e.put d v) (fun p hp => hl p (by simp [hp])) ?_
      cases s with
      | ex x => simp only [Sp.holds] at hv; subst hv; exact h
      | so F => exact h v hv
    obtain ⟨e', hG, hu⟩ := hr
    refine ⟨e', hG, fun u => ⟨?_, ?_⟩⟩
    · rintro ⟨p, hp, hpu⟩
      by_cases hin : ∃ p ∈ r, p.1 = some u
      · exact (hu u).1 hin
      · rw [(hu u).2 (fun q hq he => hin ⟨q, hq, he⟩)]
        have : p = (d, s) := by
          rcases List.mem_cons.1 hp with h' | h'
          · exact h'
          · exact absurd ⟨p, h', hpu⟩ hin
        subst this
        simp only at hpu
        subst hpu
        simp only [Env.put, set_same]
        exact (hE u rfl).symm
    · intro hn
      rw [(hu u).2 (fun p hp => hn p (by simp [hp]))]
      cases d with
      | none => rfl
      | some t => exact set_ne _ _ (fun hut => hn (some t, s) (by simp) (by simp [hut]))

/-- What the obligations say of a finished list. -/
def Good (P : Program) (ops : Array Oper) (w0 : World) (e : Env) (D : List Dn) : Prop :=
  ∀ i d, D[i]? = some d → d.s.Stab ∧
    ∀ w, Grow w0 w → OblEnv (selB (D.take i).reverse d.anc) e w fun e' => OpG P ops d.o e' w fun v w' => Grow w w' ∧ d.s.holds w' v
theorem AO_out {P : Program} {ops : Array Oper} {w0 : World} {e : Env} {K : List Dn → Prop} : ∀ (r : List Oper) (an : List (List Nat)) (rdone : List Dn), r.length = an.length →
    AO P ops w0 e K r an rdone → Good P ops w0 e rdone.reverse → ∃ D, K D ∧ Good P ops w0 e D ∧ D.map Dn.o = rdone.reverse.map Dn.o ++ r ∧ D.map Dn.anc = rdone.reverse.map Dn.anc ++ an
  | [], [], rdone, _, h, hg => ⟨rdone.reverse, h, hg, by simp, by simp⟩
  | [], _ :: _, _, hl, _, _ => by simp at hl
  | _ :: _, [], _, hl, _, _ => by simp at hl
  | o :: r, a :: an, rdone, hl, ⟨s, hs, ho, hn⟩, hg => by
    simp only [List.headD_cons, List.tail_cons] at ho hn
    obtain ⟨D, hK, hG, hD, hA⟩ := AO_out r an (⟨o, s, a⟩ :: rdone) (by simpa using hl) hn (by
      intro i d hd
      simp only [List.reverse_cons] at hd ⊢
      rcases Nat.lt_or_ge i rdone.reverse.length with hi | hi
      · rw [List.getElem?_append_left hi] at hd
        rw [List.take_append_of_le_length (by omega)]
        exact hg i d hd
      · rw [List.getElem?_append_right hi] at hd
        have h0 : i - rdone.reverse.length = 0 := by
          rcases Nat.eq_zero_or_pos (i - rdone.reverse.length) with h | h
          · exact h
          · rw [List.getElem?_eq_none (by simp only [List.length_cons, List.length_nil]; omega)] at hd; cases hd
        rw [h0] at hd
        have hi' : i = rdone.reverse.length := by omega
        subst hi'
        simp only [List.getElem?_cons_zero, Option.some.injEq] at hd
        subst hd
        have ht : (rdone.reverse ++ [(⟨o, s, a⟩ : Dn)]).take rdone.reverse.length = rdone.reverse := by simp
        rw [ht, List.reverse_reverse]
        exact ⟨hs, ho⟩)
    exact ⟨D, hK, hG, by rw [hD]; simp, by rw [hA]; simp⟩

/-- What each operation waits for, by how far back it lies. -/
def ancB (l : List Oper) (m : Nat) : List (List Nat) := ((ancL l []).take m).zipIdx.map fun p => p.1.map fun j => p.2 - 1 - j
theorem selB_eq (D : List Dn) (l : List Nat) (hl : ∀ j ∈ l, j < D.length) : selB D.reverse (l.map fun j => D.length - 1 - j) = sel D l := by
  induction l with
  | nil => rfl
  | cons j l ih =>
    have ih := ih fun k hk => hl k (by simp [hk])
    have hj := hl j (by simp)
    unfold selB sel at *
    rw [List.map_cons, List.filterMap_cons, List.filterMap_cons]
    have : D.reverse[D.length - 1 - j]? = D[j]? := by
      rw [List.getElem?_reverse (by omega)]
      congr 1; omega
    rw [this, ih]
end Go.Proofs.Ytldlfhodboigeaa.K
