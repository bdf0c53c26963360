/- Plain laws, rules and walks of this claim's functions, laid together. -/
import Derived.RangeFuncRecord
import Derived.Orders
import Derived.Tactics
import Derived.Below
import Derived.KernelRfl
import Derived.IntWalk
import Derived.Laws.Shifts
import Derived.Laws.Small
import Derived.Laws.Slices
import Derived.Laws.Rows
import Derived.Laws.Build
import Derived.OwnWalk
import Derived.Laws.AppendOwn
import Derived.Laws.StructEq
import Derived.Laws.MakeOwn
import Derived.Laws.OwnMore
import Derived.Laws.Cover3
import Derived.WalkSpells
import Derived.Test.YtkkbbhpbcfcplaaGreatProg
set_option linter.unusedVariables false
set_option linter.unusedSimpArgs false
set_option maxRecDepth 100000
namespace Go.Proofs.YtkkbbhpbcfcplaaGreat.K
open Go Go.RowKit
theorem qI6 {a b : Nat} (h : a ≠ b) : Nat.beq a b = false := by
  cases hb : Nat.beq a b with
  | false => rfl
  | true => exact absurd (Nat.eq_of_beq_eq_true hb) h
structure Env where
  get : Nat → Value
  ms : List Deferred
  ro : Option Nat
instance : CoeFun Env (fun _ => Nat → Value) := ⟨Env.get⟩
def Env.set (e : Env) (d : Nat) (v : Value) : Env := ⟨fun i => bif Nat.beq i d then v else e.get i, e.ms, e.ro⟩
def Env.put (e : Env) (d : Option Nat) (v : Value) : Env := match d with | some d => Env.set e d v | none => e
theorem Env.ext' {e e' : Env} (h : ∀ i, e.get i = e'.get i) (hm : e.ms = e'.ms) (hr : e.ro = e'.ro) : e = e' := by
  obtain ⟨g, m, r⟩ := e
  obtain ⟨g', m', r'⟩ := e'
  simp only at hm hr h
  subst hm; subst hr
  have : g = g' := funext h
  rw [this]
def ev (e : Env) : Operand → Value
  | .tmp t => e t
  | .const v => v
  | .global g => .pointer (some ⟨g, 0, none⟩)
  | .func f => .func (.func f) #[] #[]
def env (ro : Option Nat) (a : Act) : Env := ⟨fun i => a.tmps.getD i undef, a.defers, ro⟩
theorem qP3 (ro : Option Nat) (a : Act) : a.eval = ev (env ro a) := by
  funext x; cases x <;> rfl
theorem zR6 (e : Env) (d : Nat) (v : Value) : Env.set e d v d = v := by simp [Env.set]
theorem zW1 (e : Env) {d i : Nat} (v : Value) (h : i ≠ d) : Env.set e d v i = e i := by
  have : Nat.beq i d = false := qI6 h
  simp [Env.set, this]
theorem yW9 (ro : Option Nat) (a : Act) (d : Option Nat) (v : Value) (h : ∀ t, d = some t → t < a.tmps.size) : env ro (a.put d v) = (env ro a).put d v := by
  cases d with
  | none => rfl
  | some t =>
    have ht := h t rfl
    refine Env.ext' (fun i => ?_) rfl rfl
    show (a.tmps.setIfInBounds t v).getD i undef = Env.set (env ro a) t v i
    by_cases hi : i = t
    · subst hi
      rw [zR6]
      simp [Array.getD_eq_getD_getElem?, ht]
    · rw [zW1 _ _ hi]
      simp only [env, Array.getD_eq_getD_getElem?]
      rw [Array.getElem?_setIfInBounds_ne (by omega)]
theorem yR1 (a : Act) (d : Option Nat) (v : Value) : (a.put d v).tmps.size = a.tmps.size := by
  cases d <;> simp [Act.put]
def qM7 (P : Program) (l : Nat) (f : FuncId) (tmps : Array Value) (assign body : Code) (w : World) (K : Value → World → Prop) : Prop :=
  ∀ (c : Frame) (cs : List Frame), ∃ v w', K v w' ∧ Steps P (lone (Frame.round l f tmps assign body .normal) (c :: cs) w) (lone (c.finish v) cs w')
theorem qM7.mono {P : Program} {l : Nat} {f : FuncId} {tmps : Array Value} {assign body : Code} {w : World} {K K' : Value → World → Prop} (hk : ∀ v w, K v w → K' v w) (h : qM7 P l f tmps assign body w K) : qM7 P l f tmps assign body w K' :=
  fun c cs => let ⟨v, w', hv, hs⟩ := h c cs; ⟨v, w', hk _ _ hv, hs⟩
def Run1 (P : Program) (o : Oper) (e : Env) (w : World) (K : Value → World → Prop) : Prop :=
  match (execOp (ev e) o).run P w with
  | .ok (.value v) w' => K v w'
  | .ok .skip w' => K undef w'
  | .ok (.enter f args) w' => Calls P f args w' fun r w'' => ∃ v, r = .returned v ∧ K v w''
  | .ok (.round l f tmps assign body) w' => qM7 P l f tmps assign body w' K
  | _ => False
theorem Run1.mono {P : Program} {o : Oper} {e : Env} {w : World} {K K' : Value → World → Prop} (hk : ∀ v w, K v w → K' v w) (h : Run1 P o e w K) : Run1 P o e w K' := by
  unfold Run1 at *
  split at h <;> rename_i hr
  · exact hk _ _ h
  · exact hk _ _ h
  · exact h.mono fun r w' ⟨v, e, hv⟩ => ⟨v, e, hk _ _ hv⟩
  · exact h.mono hk
  · exact h.elim
theorem yR2 {P : Program} {o : Oper} {e : Env} {w : World} {K : Value → World → Prop} (h : Run1 P o e w K) (c : Call) : o.op ≠ .defer c := by
  intro ho
  unfold Run1 at h
  obtain ⟨dst, op, type, pos, after, guard⟩ := o
  simp only at ho
  subst ho
  simp only [execOp, Sem.run_bind] at h
  cases hr : (resolve (ev e) c type).run P w with
  | ok d w' => rw [hr] at h; simp only [Result.andThen_ok, Sem.run_pure] at h
  | halt x w' => rw [hr] at h; simp only [Result.andThen] at h
def zN3 (ops : Array Oper) (o : Oper) (e : Env) : Bool :=
  match o.guard with
  | none => true
  | some (j, b) =>
    match (ops[j]?).bind (·.dst) with
    | some d => (match e d with | .bool c => c == b | _ => false)
    | none => false
theorem qT1 (ro : Option Nat) (ops : Array Oper) (o : Oper) (a : Act) : Region.wanted o (yielded ops a.tmps) = zN3 ops o (env ro a) := by
  unfold Region.wanted zN3
  cases o.guard with
  | none => rfl
  | some jb =>
    obtain ⟨j, b⟩ := jb
    simp only [yielded]
    cases hd : (ops[j]?).bind (·.dst) with
    | none => simp
    | some d =>
      simp only [Option.bind_some, env, Array.getD_eq_getD_getElem?]
      cases ht : a.tmps[d]? with
      | none => simp [undef]
      | some v => cases v <;> simp
def OpG (P : Program) (ops : Array Oper) (o : Oper) (e : Env) (w : World) (K : Value → World → Prop) : Prop :=
  bif zN3 ops o e then Run1 P o e w K else K undef w
theorem OpG.mono {P : Program} {ops : Array Oper} {o : Oper} {e : Env} {w : World} {K K' : Value → World → Prop} (hk : ∀ v w, K v w → K' v w) (h : OpG P ops o e w K) : OpG P ops o e w K' := by
  unfold OpG at *
  cases hc : zN3 ops o e <;> simp only [hc, cond_true, cond_false] at *
  · exact hk _ _ h
  · exact h.mono hk
theorem yR3 {P : Program} {ops : Array Oper} {i : Nat} {o : Oper} {b : Frame} {a : Act} {w : World} {K : Value → World → Prop} {rest : List Nat} {k : List Item} {cs : List Frame} (ho : ops[i]? = some o)
    (h : OpG P ops o (env b.roundOf a) w K) : ∃ v w', K v w' ∧ Steps P (lone (b.atR a (.inRegion ops (i :: rest) :: k)) cs w) (lone (b.atR (a.put o.dst v) (.inRegion ops rest :: k)) cs w') := by
  unfold OpG at h
  cases hc : zN3 ops o (env b.roundOf a) <;> simp only [hc, cond_true, cond_false] at h
  · have hs := stepR_op_skip (P := P) (b := b) (a := a) (k := k) (cs := cs) (w := w) (ops := ops) (i := i) (rest := rest) (by simp [ho, qT1 b.roundOf, hc])
    simp only [ho, Option.bind_some] at hs
    exact ⟨_, _, h, .one hs⟩
  have hw : Region.wanted o (yielded ops a.tmps) = true := by rw [qT1 b.roundOf, hc]
  have hg := stepGR_op (P := P) (b := b) (k := k) (cs := cs) (w := w) (rest := rest) ho hw
  rw [Oper.semAt_eq _ _ _ (yR2 h), qP3 b.roundOf] at hg
  have hfin : ∀ v, (b.atR a (.inRegion ops (i :: rest) :: k)).finish v = b.atR (a.put o.dst v) (.inRegion ops rest :: k) := by
    intro v; rw [Frame.finish_atR, ho]; rfl
  unfold Run1 at h
  split at h
  · rename_i v w' hr
    refine ⟨v, w', h, .one (step_lone_go ?_)⟩
    rw [hg, ← hfin]; simp [stepG.apply, hr]
  · rename_i w' hr
    refine ⟨_, w', h, .one (step_lone_go ?_)⟩
    rw [hg, ← hfin]; simp [stepG.apply, hr]
  · rename_i f args w' hr
    obtain ⟨e, w'', fr, ⟨v, hv, hK⟩, hsteps, _, hleave⟩ := h (b.atR a (.inRegion ops (i :: rest) :: k) :: cs)
    subst hv
    have henter : step P (lone (b.atR a (.inRegion ops (i :: rest) :: k)) cs w) =
        .next (lone (Frame.enter P f args .normal) (b.atR a (.inRegion ops (i :: rest) :: k) :: cs) w') :=
      step_lone_go (by rw [hg]; simp [stepG.apply, hr, Frame.atR])
    refine ⟨v, w'', hK, .head henter (Steps.trans hsteps (.one ?_))⟩
    rw [← hfin]; exact step_leave_returned hleave
  · rename_i l f tmps sg bd w' hr
    obtain ⟨v, w'', hK, hsteps⟩ := h (b.atR a (.inRegion ops (i :: rest) :: k)) cs
    have henter : step P (lone (b.atR a (.inRegion ops (i :: rest) :: k)) cs w) =
        .next (lone (Frame.round l f tmps sg bd .normal) (b.atR a (.inRegion ops (i :: rest) :: k) :: cs) w') :=
      step_lone_go (by rw [hg]; simp [stepG.apply, hr, Frame.atR])
    refine ⟨v, w'', hK, .head henter ?_⟩
    rw [← hfin]; exact hsteps
  · exact h.elim
/-! ### how code is left -/
inductive Ex where
  | normal
  | exit (id : Nat)
  | ret
def Arr (P : Program) (m : Machine) (b : Frame) (k : List Item) (cs : List Frame) : Ex → Act → World → Prop
  | .normal, a, w => Steps P m (lone (b.atR a k) cs w)
  | .exit id, a, w => ∃ k0, exitTo id k0 = exitTo id k ∧ Steps P m (lone (b.atR a (.code (.exit id) :: k0)) cs w)
  | .ret, a, w => ∃ k0, Steps P m (lone (b.atR a (.code .ret :: k0)) cs w)
theorem Arr.of {P : Program} {m m1 : Machine} {b : Frame} {k : List Item} {cs : List Frame} {x : Ex} {a : Act} {w : World} (h : Steps P m m1) (h' : Arr P m1 b k cs x a w) : Arr P m b k cs x a w := by
  cases x with
  | normal => exact h.trans h'
  | exit id => obtain ⟨k0, hk, hs⟩ := h'; exact ⟨k0, hk, h.trans hs⟩
  | ret => obtain ⟨k0, hs⟩ := h'; exact ⟨k0, h.trans hs⟩
theorem Arr.past {P : Program} {m : Machine} {b : Frame} {y : Item} {k : List Item} {cs : List Frame} {x : Ex} {a : Act} {w : World} (hy : ∀ id, exitTo id (y :: k) = exitTo id k) (hn : x ≠ .normal) (h : Arr P m b (y :: k) cs x a w) : Arr P m b k cs x a w := by
  cases x with
  | normal => exact absurd rfl hn
  | exit id => obtain ⟨k0, hk, hs⟩ := h; exact ⟨k0, by rw [hk, hy], hs⟩
  | ret => exact h
def WL (P : Program) (ops : Array Oper) (Q : Ex → Env → World → Prop) : List Oper → Env → World → Prop
  | [], e, w => Q .normal e w
  | o :: r, e, w => OpG P ops o e w fun v w' => WL P ops Q r (e.put o.dst v) w'
def W (P : Program) (n : Nat) (c : Code) (Q : Ex → Env → World → Prop) (e : Env) (w : World) : Prop :=
  ∀ (b : Frame) (a : Act) (k : List Item) (cs : List Frame), a.tmps.size = n → env b.roundOf a = e →
    ∃ x a' w', a'.tmps.size = n ∧ Q x (env b.roundOf a') w' ∧ Arr P (lone (b.atR a (.code c :: k)) cs w) b k cs x a' w'
def qT2 (n : Nat) (l : List Oper) : Bool := l.all fun o => match o.dst with | some d => Nat.blt d n | none => true
theorem yK7 {n : Nat} {l : List Oper} (h : qT2 n l = true) {o : Oper} (ho : o ∈ l) : ∀ d, o.dst = some d → d < n := by
  intro d hd
  simp only [qT2, List.all_eq_true] at h
  have := h o ho
  rw [hd] at this
  simpa [Nat.blt_eq] using this
def OpsE (P : Program) (ops : Array Oper) (Q : Ex → Env → World → Prop) : List Nat → Env → World → Prop
  | [], e, w => Q .normal e w
  | i :: r, e, w => match ops[i]? with
    | none => OpsE P ops Q r e w
    | some o => OpG P ops o e w fun v w' => OpsE P ops Q r (e.put o.dst v) w'
theorem zT0 {P : Program} {n : Nat} {l : List Oper} {Q : Ex → Env → World → Prop} (hd : qT2 n l = true) {b : Frame} {k : List Item} {cs : List Frame} : ∀ (L : List Nat) (a : Act) (w : World), a.tmps.size = n →
    OpsE P l.toArray Q L (env b.roundOf a) w → ∃ x a' w', a'.tmps.size = n ∧ Q x (env b.roundOf a') w' ∧ Arr P (lone (b.atR a (.inRegion l.toArray L :: k)) cs w) b k cs x a' w'
  | [], a, w, hs, h => ⟨.normal, a, w, hs, h, .one stepR_region_end⟩
  | i :: r, a, w, hs, h => by
    simp only [OpsE] at h
    cases ho : l.toArray[i]? with
    | none =>
      rw [ho] at h
      obtain ⟨x, a', w', h1, h2, h3⟩ := zT0 hd r a w hs h
      have hst := stepR_op_skip (P := P) (b := b) (a := a) (k := k) (cs := cs) (w := w) (ops := l.toArray) (i := i) (rest := r) (by simp [ho])
      simp only [ho, Option.bind_none, Act.put] at hst
      exact ⟨x, a', w', h1, h2, .of (.one hst) h3⟩
    | some o =>
      rw [ho] at h
      simp only at h
      obtain ⟨v, w1, hv, hst⟩ := yR3 (rest := r) (k := k) (cs := cs) ho h
      have hm : o ∈ l := by rw [List.getElem?_toArray] at ho; exact List.mem_of_getElem? ho
      rw [← yW9 _ _ _ _ (fun t ht => by rw [hs]; exact yK7 hd hm t ht)] at hv
      obtain ⟨x, a', w', h1, h2, h3⟩ := zT0 hd r (a.put o.dst v) w1 (by rw [yR1]; exact hs) hv
      exact ⟨x, a', w', h1, h2, .of hst h3⟩
theorem yV8 {P : Program} {Q : Ex → Env → World → Prop} : ∀ (tl hd : List Oper) (e : Env) (w : World), WL P (hd ++ tl).toArray Q tl e w → OpsE P (hd ++ tl).toArray Q (List.range' hd.length tl.length) e w
  | [], hd, e, w, h => h
  | o :: r, hd, e, w, h => by
    simp only [List.length_cons, List.range'_succ, OpsE]
    have ho : (hd ++ o :: r).toArray[hd.length]? = some o := by simp
    rw [ho]
    refine OpG.mono (fun v w' hv => ?_) h
    have := yV8 r (hd ++ [o]) (e.put o.dst v) w' (by simpa using hv)
    simpa using this
section rules
variable {P : Program} {n : Nat} {Q : Ex → Env → World → Prop} {e : Env} {w : World}
theorem zP8 {id : Nat} {l : List Oper} (hd : qT2 n l = true) (h : WL P l.toArray Q l e w) : W P n (.region id l.toArray false) Q e w := by
  intro b a k cs hs he
  subst he
  have h' := yV8 l [] _ _ h
  simp only [List.nil_append, List.length_nil] at h'
  obtain ⟨x, a', w', h1, h2, h3⟩ := zT0 hd (k := k) (cs := cs) _ a w hs h'
  refine ⟨x, a', w', h1, h2, .of (.one stepR_region) ?_⟩
  rw [List.range_eq_range']
  simpa using h3
@[reducible] def qthen (K : Env → World → Prop) (Q : Ex → Env → World → Prop) : Ex → Env → World → Prop
  | .normal, e, w => K e w
  | .exit i, e, w => Q (.exit i) e w
  | .ret, e, w => Q .ret e w
@[reducible] def qblock (id : Nat) (Q : Ex → Env → World → Prop) : Ex → Env → World → Prop
  | .exit i, e, w => bif Nat.beq i id then Q .normal e w else Q (.exit i) e w
  | .normal, e, w => Q .normal e w
  | .ret, e, w => Q .ret e w
theorem W.mono {c : Code} {Q' : Ex → Env → World → Prop} (hq : ∀ x e w, Q x e w → Q' x e w) (h : W P n c Q e w) : W P n c Q' e w :=
  fun b a k cs hs he => let ⟨x, a', w', h1, h2, h3⟩ := h b a k cs hs he; ⟨x, a', w', h1, hq _ _ _ h2, h3⟩
theorem zU5 {x y : Code} (h : W P n x (qthen (W P n y Q) Q) e w) : W P n (.seq x y) Q e w := by
  intro b a k cs hs he
  obtain ⟨t, a1, w1, h1, h2, h3⟩ := h b a (.code y :: k) cs hs he
  cases t with
  | normal =>
    obtain ⟨t2, a2, w2, g1, g2, g3⟩ := h2 b a1 k cs h1 rfl
    exact ⟨t2, a2, w2, g1, g2, .of (.head stepR_seq h3) g3⟩
  | exit i => exact ⟨.exit i, a1, w1, h1, h2, .past (y := .code y) (fun _ => rfl) (by simp) (.of (.one stepR_seq) h3)⟩
  | ret => exact ⟨.ret, a1, w1, h1, h2, .past (y := .code y) (fun _ => rfl) (by simp) (.of (.one stepR_seq) h3)⟩
theorem zZ2 (h : Q .normal e w) : W P n .skip Q e w := fun b a k cs hs he => ⟨.normal, a, w, hs, he ▸ h, .one stepR_skip⟩
theorem yK8 {l : Nat} (h : Q .normal e w) : W P n (.label l) Q e w := fun b a k cs hs he => ⟨.normal, a, w, hs, he ▸ h, .one stepR_label⟩
theorem yD3 {i : Nat} (h : Q (.exit i) e w) : W P n (.exit i) Q e w := fun b a k cs hs he => ⟨.exit i, a, w, hs, he ▸ h, k, rfl, .refl _ _⟩
theorem yG7 (h : Q .ret e w) : W P n .ret Q e w := fun b a k cs hs he => ⟨.ret, a, w, hs, he ▸ h, k, .refl _ _⟩
theorem yD4 {c : Operand} {x y : Code} {b : Bool} (hc : ev e c = .bool b) (h : W P n (bif b then x else y) Q e w) : W P n (.cond c x y) Q e w := by
  intro fr a k cs hs he
  obtain ⟨t, a1, w1, h1, h2, h3⟩ := h fr a k cs hs he
  refine ⟨t, a1, w1, h1, h2, .of (.one (stepR_cond (t := b) (by rw [qP3 fr.roundOf, he]; exact hc))) ?_⟩
  cases b <;> exact h3
theorem zA3 {c : Operand} {x y : Code} {b : Bool} (hc : ev e c = .bool b) (ht : b = true → W P n x Q e w) (hf : b = false → W P n y Q e w) : W P n (.cond c x y) Q e w := by
  cases b
  · exact yD4 hc (hf rfl)
  · exact yD4 hc (ht rfl)
theorem zM3 {c : Operand} {x y : Code} (hc : ev e c = .bool true) (h : W P n x Q e w) : W P n (.cond c x y) Q e w := yD4 hc h
theorem zJ5 {c : Operand} {x y : Code} (hc : ev e c = .bool false) (h : W P n y Q e w) : W P n (.cond c x y) Q e w := yD4 hc h
theorem qY7 {id : Nat} {c : Code} (h : W P n c (qblock id Q) e w) : W P n (.block id c) Q e w := by
  intro b a k cs hs he
  obtain ⟨t, a1, w1, h1, h2, h3⟩ := h b a (.inBlock id :: k) cs hs he
  cases t with
  | normal => exact ⟨.normal, a1, w1, h1, h2, .head stepR_block (Steps.trans h3 (.one stepR_inBlock))⟩
  | exit i =>
    obtain ⟨k0, hk, hst⟩ := h3
    simp only [qblock] at h2
    by_cases hi : i = id
    · subst hi
      simp at h2
      refine ⟨.normal, a1, w1, h1, h2, .head stepR_block (Steps.trans hst (.one (stepR_exit ?_)))⟩
      rw [hk]; simp [exitTo]
    · rw [qI6 hi] at h2
      refine ⟨.exit i, a1, w1, h1, h2, k0, ?_, .head stepR_block hst⟩
      rw [hk]
      have : (id == i) = false := by simp; exact fun h => hi h.symm
      simp [exitTo, this]
  | ret => exact ⟨.ret, a1, w1, h1, h2, .of (.one stepR_block) h3⟩
theorem zG4 {c : Code} (I : Nat → Env → World → Prop) (m : Nat) (h0 : I m e w)
    (round : ∀ m e w, I m e w → W P n c (qthen (fun e' w' => ∃ m', m' < m ∧ I m' e' w') Q) e w) : W P n (.loop c) Q e w := by
  intro b a k cs hs he
  subst he
  have key : ∀ m (a : Act) w, a.tmps.size = n → I m (env b.roundOf a) w →
      ∃ x a' w', a'.tmps.size = n ∧ Q x (env b.roundOf a') w' ∧ Arr P (lone (b.atR a (.code c :: .inLoop c :: k)) cs w) b k cs x a' w' := by
    intro m
    induction m using Nat.strongRecOn with
    | _ m ih =>
      intro a w hs hI
      obtain ⟨x, a1, w1, h1, h2, h3⟩ := round m _ w hI b a (.inLoop c :: k) cs hs rfl
      cases x with
      | normal =>
        obtain ⟨m', hlt, hI'⟩ := h2
        obtain ⟨x2, a2, w2, g1, g2, g3⟩ := ih m' hlt a1 w1 h1 hI'
        exact ⟨x2, a2, w2, g1, g2, .of (Steps.trans h3 (.one stepR_inLoop)) g3⟩
      | exit i => exact ⟨.exit i, a1, w1, h1, h2, .past (y := .inLoop c) (fun _ => rfl) (by simp) h3⟩
      | ret => exact ⟨.ret, a1, w1, h1, h2, .past (y := .inLoop c) (fun _ => rfl) (by simp) h3⟩
  obtain ⟨x, a', w', g1, g2, g3⟩ := key m a w hs h0
  exact ⟨x, a', w', g1, g2, .of (.one stepR_loop) g3⟩
end rules
/-! ### a call's frame -/
def Res1 (P : Program) (e : Env) (w : World) : ResultVar → Value → Prop
  | .tmp t, v => v = e t
  | .cell a t, v => (do loadVar t (← asAddr (e a))).run P w = .ok v w
def ResL (P : Program) (e : Env) (w : World) : List ResultVar → List Value → Prop
  | [], [] => True
  | r :: rs, v :: vs => Res1 P e w r v ∧ ResL P e w rs vs
  | _, _ => False
def one : List Value → Value
  | [v] => v
  | vs => .tuple vs.toArray
def yG8 (P : Program) : List Deferred → World → World → Prop
  | [], w, w' => w' = w
  | d :: ds, w, w' => ∃ r w1, d.target = .collected r ∧ (Instr.takeDeferred r).run P w = .ok [] w1 ∧ yG8 P ds w1 w'
def RetQ (P : Program) (rs : List ResultVar) (R : Ending → World → Prop) : Ex → Env → World → Prop
  | .normal, e, w | .ret, e, w => ∃ w', yG8 P e.ms w w' ∧ ∃ vs, ResL P e w' rs vs ∧ R (.returned (one vs)) w'
  | _, _, _ => False
def yK9 (tmps : Array Value) : ResultVar → Sem Value
  | .tmp t => pure (tmps.getD t undef)
  | .cell a t => do loadVar t (← asAddr (tmps.getD a undef))
theorem yG9 {P : Program} {ro : Option Nat} {a : Act} {w : World} {r : ResultVar} {v : Value} (h1 : Res1 P (env ro a) w r v) : (yK9 a.tmps r).run P w = .ok v w := by
  cases r with
  | tmp t => simp only [Res1] at h1; subst h1; rfl
  | cell a t => exact h1
theorem yD5 {P : Program} {ro : Option Nat} {a : Act} {w : World} : ∀ (rs : List ResultVar) (vs : List Value), ResL P (env ro a) w rs vs →
    (rs.mapM (yK9 a.tmps)).run P w = .ok vs w
  | [], [], _ => by simp
  | [], _ :: _, h => h.elim
  | _ :: _, [], h => h.elim
  | r :: rs, v :: vs, ⟨h1, h2⟩ => by
    rw [List.mapM_cons, Sem.run_bind, yG9 h1]
    simp only [Result.andThen_ok, Sem.run_bind]
    rw [yD5 rs vs h2]
    rfl
theorem qY8 {P : Program} {fn : Func} {ro : Option Nat} {a : Act} {w : World} {vs : List Value}
    (h : ResL P (env ro a) w fn.results.toList vs) : (results fn a.tmps).run P w = .ok (one vs) w := by
  have he : results fn a.tmps = (do let vs ← fn.results.mapM (yK9 a.tmps); pure (if h : vs.size = 1 then vs[0] else .tuple vs)) := rfl
  rw [he, Array.mapM_eq_mapM_toList, Sem.run_bind, Sem.run_map, yD5 _ _ h]
  simp only [Result.andThen_ok]
  match vs with
  | [] => rfl
  | [v] => rfl
  | v :: u :: vs => simp [one]
theorem qI7 {P : Program} {cs : List Frame} : ∀ (ds : List Deferred) (fr : Frame) (w w' : World), fr.mode ≠ .run → fr.defers = ds → yG8 P ds w w' →
    Steps P (lone fr cs w) (lone { fr with defers := [] } cs w')
  | [], fr, w, w', hm, hd, h => by
    simp only [yG8] at h
    subst h
    have : ({ fr with defers := [] } : Frame) = fr := by rw [← hd]
    rw [this]
    exact .refl _ _
  | d :: ds, fr, w, w', hm, hd, h => by
    obtain ⟨r, w1, ht, hk, hr⟩ := h
    exact .head (step_collected hm hd ht hk) (qI7 ds { fr with defers := [] ++ ds } w1 w' hm rfl hr)
theorem yH0 {P : Program} {f : FuncId} {fn : Func} {c : Code} {args : Array Value} {w : World} {R : Ending → World → Prop} {n : Nat} {rs : List ResultVar}
    (hf : P.funcs[f]? = some fn) (hb : fn.body = some c) (hn : fn.ntmps = n) (hr : fn.results.toList = rs) (hle : Nat.ble args.size n = true)
    (h : W P n c (RetQ P rs R) ⟨fun i => args.getD i undef, [], none⟩ w) : Calls P f args w R := by
  subst hr
  have hle : args.size ≤ n := Nat.le_of_ble_eq_true hle
  intro cs
  let b : Frame := { (default : Frame) with fn := f, kind := .normal, roundOf := none }
  let a : Act := { tmps := args ++ Array.replicate (fn.ntmps - args.size) undef, defers := [] }
  have henter : Frame.enter P f args .normal = b.atR a [.code c] := by
    simp [Frame.enter, Frame.atR, hf, hb, b, a]
  obtain ⟨x, a', w', h1, h2, h3⟩ := h b a [] cs (by simp [a, hn]; omega) (by
    refine Env.ext' (fun i => ?_) rfl rfl
    simp only [env, a, Array.getD_eq_getD_getElem?]
    by_cases hi : i < args.size
    · rw [Array.getElem?_append_left hi]
    · rw [Array.getElem?_append_right (by omega)]
      rw [Array.getElem?_eq_none (xs := args) (by omega)]
      simp only [Array.getElem?_replicate]
      split <;> rfl)
  rw [← henter] at h3
  have fin : ∀ (fr : Frame), fr.mode = .returning → fr.defers = a'.defers → fr.tmps = a'.tmps → fr.fn = f → fr.kind = .normal → Steps P (lone (Frame.enter P f args .normal) cs w) (lone fr cs w') → (∃ w'', yG8 P a'.defers w' w'' ∧ ∃ vs, ResL P (env none a') w'' fn.results.toList vs ∧ R (.returned (one vs)) w'') →
      ∃ e w'' fr', R e w'' ∧ Comes P (lone (Frame.enter P f args .normal) cs w) (lone fr' cs w'') e ∧ fr'.fn = f ∧ fr'.leaving P w'' e := by
    intro fr hm hd ht hfn hk hst ⟨w'', htk, vs, hv, hR⟩
    refine ⟨.returned (one vs), w'', _, hR, Steps.trans hst (qI7 _ fr w' w'' (by rw [hm]; simp) hd htk), hfn, hm, rfl, hk, fn, by rw [← hf, ← hfn], ?_⟩
    show (results fn fr.tmps).run P w'' = _
    rw [ht]
    exact qY8 hv
  cases x with
  | normal => exact fin { b.atR a' [] with mode := .returning } rfl rfl rfl rfl rfl (Steps.trans h3 (.one (stepR_end rfl))) h2
  | ret =>
    obtain ⟨k0, h3⟩ := h3
    exact fin { b.atR a' (.code .ret :: k0) with mode := .returning } rfl rfl rfl rfl rfl (Steps.trans h3 (.one (stepR_ret rfl))) h2
  | exit _ => exact h2.elim
/-! ### rounds -/
def yV9 (P : Program) (l : Nat) (K : Value → World → Prop) : Ex → Env → World → Prop
  | .normal, e, w => ∃ r, w.heap[l]? = some (.loop r) ∧ K (.bool true) (w.putObj l (.loop { r with state := .ready, pending := none }))
  | .exit i, e, w => ∃ r, w.heap[l]? = some (.loop r) ∧ K (.bool false) (w.putObj l (.loop { r with state := .done, pending := some (.exit i) }))
  | .ret, e, w => ∃ r, w.heap[l]? = some (.loop r) ∧ K (.bool false) (w.putObj l (.loop { r with state := .done, pending := some .ret }))
theorem qY9 {P : Program} {l : Nat} {f : FuncId} {tmps : Array Value} {assign body : Code} {w : World} {K : Value → World → Prop} {n : Nat} (hn : tmps.size = n)
    (h : W P n assign (qthen (fun e1 w1 => ∃ r, w1.heap[l]? = some (.loop r) ∧ r.state = .ready ∧ W P n body (yV9 P l K) e1 (w1.putObj l (.loop { r with state := .busy }))) (fun _ _ _ => False)) ⟨fun i => tmps.getD i undef, [], some l⟩ w) :
    qM7 P l f tmps assign body w K := by
  intro c cs
  let b : Frame := { (default : Frame) with fn := f, kind := .normal, roundOf := some l }
  let a : Act := { tmps := tmps, defers := [] }
  have hb0 : Frame.round l f tmps assign body .normal = b.atR a [.code assign, .beginRound, .code body] := by
    simp [Frame.round, Frame.atR, b, a]
  obtain ⟨x, a1, w1, h1, h2, h3⟩ := h b a [.beginRound, .code body] (c :: cs) hn rfl
  rw [← hb0] at h3
  cases x with
  | exit _ => exact h2.elim
  | ret => exact h2.elim
  | normal =>
    obtain ⟨r, hr, hst, hbody⟩ := h2
    have s1 := stepR_beginRound (P := P) (b := b) (a := a1) (k := [.code body]) (cs := c :: cs) (w := w1) rfl (run_beginRound hr hst)
    obtain ⟨x2, a2, w2, g1, g2, g3⟩ := hbody b a1 [] (c :: cs) h1 rfl
    have s2 := Steps.trans h3 (.one s1)
    cases x2 with
    | normal =>
      obtain ⟨r2, hr2, hK⟩ := g2
      exact ⟨_, _, hK, Steps.trans s2 (Steps.trans g3 (.one (stepR_round_end rfl rfl (run_endRound none hr2))))⟩
    | ret =>
      obtain ⟨r2, hr2, hK⟩ := g2
      obtain ⟨k0, g3⟩ := g3
      exact ⟨_, _, hK, Steps.trans s2 (Steps.trans g3 (.one (stepR_round_ret rfl rfl (run_endRound (some .ret) hr2))))⟩
    | exit i =>
      obtain ⟨r2, hr2, hK⟩ := g2
      obtain ⟨k0, hk0, g3⟩ := g3
      exact ⟨_, _, hK, Steps.trans s2 (Steps.trans g3 (.one (stepR_round_exit rfl rfl (by rw [hk0]; rfl) (run_endRound (some (.exit i)) hr2))))⟩
def qC0 (P : Program) (l : Nat) (args : Array Value) (w : World) (K : Value → World → Prop) : Prop :=
  ∃ r, w.heap[l]? = some (.loop r) ∧ args.size = r.params.size ∧ qM7 P l r.fn ((r.params.zip args).foldl (fun tmps (t, a) => tmps.setIfInBounds t a) r.tmps) r.assign r.body w K
def yL0 (l : Nat) (Q : Ex → Env → World → Prop) (e : Env) (r : Ending) (w : World) : Prop :=
  ∃ v rc, r = .returned v ∧ w.heap[l]? = some (.loop rc) ∧ rc.state ≠ .busy ∧ match rc.pending with
    | none => Q .normal e (w.putObj l (.loop { rc with state := .exhausted }))
    | some .ret => Q .ret e (w.putObj l (.loop { rc with state := .exhausted }))
    | some (.exit i) => Q (.exit i) e (w.putObj l (.loop { rc with state := .exhausted }))
    | _ => False
theorem qZ0 {P : Program} {n : Nat} {Q : Ex → Env → World → Prop} {g : Operand} {ps : Array Tmp} {assign body : Code} {b : Frame} {a : Act} {k : List Item} {cs : List Frame} {w w1 : World} {l : Nat} {mark : List Deferred} {d : Deferred} {f : FuncId} {args : Array Value} (hs : a.tmps.size = n)
    (he : (Instr.enterLoop b.fn a.tmps ps assign body b.roundOf).run P w = .ok (l, mark) w1)
    (hres : (resolve a.eval (rangeCall g l) 0).run P w1 = .ok d w1) (hinv : (invoke d.target d.args).run P w1 = .ok (.enter f args) w1)
    (hc : Calls P f args w1 (yL0 l Q (env b.roundOf { a with defers := mark ++ a.defers }))) :
    ∃ x a' w', a'.tmps.size = n ∧ Q x (env b.roundOf a') w' ∧ Arr P (lone (b.atR a (.code (.rangeFunc g ps assign body) :: k)) cs w) b k cs x a' w' := by
  have s1 := stepR_rangeFunc (k := k) (cs := cs) he hres hinv
  obtain ⟨e, w2, fr, ⟨v, rc, rfl, hrc, hb, hq⟩, hsteps, _, hleave⟩ := hc (b.atR { a with defers := mark ++ a.defers } (.inRangeFunc l :: k) :: cs)
  have s2 := step_leave_returned (P := P) (c := b.atR { a with defers := mark ++ a.defers } (.inRangeFunc l :: k)) (cs := cs) hleave
  rw [finish_atR_inRangeFunc] at s2
  have s3 := stepR_endRangeFunc (b := b) (a := { a with defers := mark ++ a.defers }) (k := k) (cs := cs) (run_endLoop (P := P) hrc hb)
  have s4 := Steps.head s1 (Steps.trans hsteps (.head s2 (.one s3)))
  generalize hp : rc.pending = p at hq s4
  match p, hq, s4 with
  | none, hq, s4 => exact ⟨.normal, { a with defers := mark ++ a.defers }, _, hs, hq, s4⟩
  | some .ret, hq, s4 => exact ⟨.ret, { a with defers := mark ++ a.defers }, _, hs, hq, k, s4⟩
  | some (.exit i), hq, s4 => exact ⟨.exit i, { a with defers := mark ++ a.defers }, _, hs, hq, k, rfl, s4⟩
  | some (.seq _ _), hq, s4 => exact hq.elim
  | some (.cond _ _ _), hq, s4 => exact hq.elim
  | some (.block _ _), hq, s4 => exact hq.elim
  | some (.loop _), hq, s4 => exact hq.elim
  | some (.region _ _ _), hq, s4 => exact hq.elim
  | some .skip, hq, s4 => exact hq.elim
  | some (.label _), hq, s4 => exact hq.elim
  | some (.goto _), hq, s4 => exact hq.elim
  | some (.scope _), hq, s4 => exact hq.elim
  | some (.rangeFunc _ _ _ _), hq, s4 => exact hq.elim
  | some (.refuse _), hq, s4 => exact hq.elim
theorem yX0 {P : Program} {n : Nat} {Q : Ex → Env → World → Prop} {e : Env} {w : World} {g : Operand} {ps : Array Tmp} {assign body : Code} {d : Nat → Deferred} {f : FuncId} {args : Nat → Array Value} (hro : e.ro = none)
    (hres : ∀ l w, (resolve (ev e) (rangeCall g l) 0).run P w = .ok (d l) w) (hinv : ∀ l w, (invoke (d l).target (d l).args).run P w = .ok (.enter f (args l)) w)
    (h : ∀ rc : Loop, rc.state = .ready → rc.pending = none → rc.params = ps → rc.assign = assign → rc.body = body → rc.tmps.size = n → (∀ i, rc.tmps.getD i undef = e i) →
      Calls P f (args (w.heap.size + 1)) ((w.alloc (.deferred (some []))).alloc (.loop rc)) (yL0 (w.heap.size + 1) Q ⟨e.get, ⟨.collected w.heap.size, #[]⟩ :: e.ms, none⟩)) :
    W P n (.rangeFunc g ps assign body) Q e w := by
  intro b a k cs hs he
  subst he
  have hro' : b.roundOf = none := hro
  have hen := run_enterLoop_outer (P := P) (w := w) b.fn a.tmps ps assign body
  rw [← hro'] at hen
  refine qZ0 hs hen (by rw [qP3 b.roundOf]; exact hres _ _) (hinv _ _) ?_
  have := h { state := .ready, pending := none, fn := b.fn, tmps := a.tmps, params := ps, assign, body, defers := w.heap.size } rfl rfl rfl rfl rfl hs (fun i => rfl)
  rw [hro']
  exact this
abbrev Grow (w w' : World) : Prop := Below w.heap.size w w'
theorem Grow.rfl' (w : World) : Grow w w := Below.refl _ _
theorem Grow.tr {a b c : World} (h : Grow a b) (k : Grow b c) : Grow a c := Below.trans h (Below.mono k h.size)
theorem Grow.heap {w w' : World} (h : Grow w w') {b : Nat} {o : Obj} (hb : w.heap[b]? = some o) : w'.heap[b]? = some o := by
  rw [h.block b (Array.getElem?_eq_some_iff.1 hb).1]; exact hb
theorem Grow.drew' (w : World) : Grow w { w with drawn := w.drawn + 1 } := (Below.refl _ w).drew
inductive Sp where
  | ex (x : Value)
  | so (F : World → Value → Prop)
def Sp.holds : Sp → World → Value → Prop
  | .ex x, _, v => v = x
  | .so F, w, v => F w v
def Sp.Stab : Sp → Prop
  | .ex _ => True
  | .so F => ∀ w w' v, Grow w w' → F w v → F w' v
theorem Sp.keep {s : Sp} (h : s.Stab) {w w' : World} {v : Value} (g : Grow w w') (hv : s.holds w v) : s.holds w' v := by
  cases s with
  | ex x => exact hv
  | so F => exact h w w' v g hv
@[reducible] def OblEnv : List (Option Nat × Sp) → Env → World → (Env → Prop) → Prop
  | [], e, _, G => G e
  | (d, .ex x) :: r, e, w, G => OblEnv r (e.put d x) w G
  | (d, .so F) :: r, e, w, G => ∀ v, F w v → OblEnv r (e.put d v) w G
def zP5 (o : Oper) : List Nat := o.after.toList.filterMap fun e => if Region.binds .any e then some e.on else none
structure Dn where
  o : Oper
  s : Sp
  anc : List Nat
def qP4 (done : List (List Nat)) (o : Oper) : List Nat :=
  (List.range done.length).filter fun j => (zP5 o).any fun k => Nat.beq k j || (done.getD k []).elem j
def sel (done : List Dn) (l : List Nat) : List (Option Nat × Sp) := l.filterMap fun j => (done[j]?).map fun d => (d.o.dst, d.s)
def ancL : List Oper → List (List Nat) → List (List Nat)
  | [], done => done
  | o :: r, done => ancL r (done ++ [qP4 done o])
def selB (rdone : List Dn) (l : List Nat) : List (Option Nat × Sp) := l.filterMap fun j => (rdone[j]?).map fun d => (d.o.dst, d.s)
def AO (P : Program) (ops : Array Oper) (w0 : World) (e : Env) (K : List Dn → Prop) : List Oper → List (List Nat) → List Dn → Prop
  | [], _, rdone => K rdone.reverse
  | o :: r, an, rdone => ∃ s : Sp, s.Stab ∧
      (∀ w, Grow w0 w → OblEnv (selB rdone (an.headD [])) e w fun e' => OpG P ops o e' w fun v w' => Grow w w' ∧ s.holds w' v) ∧
      AO P ops w0 e K r an.tail (⟨o, s, an.headD []⟩ :: rdone)
theorem zA5 {P : Program} {ops : Array Oper} {w0 : World} {e : Env} {K : List Dn → Prop} {o : Oper} {r : List Oper} {a : List Nat} {an : List (List Nat)} {rdone : List Dn} (x : Value)
    (h : ∀ w, Grow w0 w → OblEnv (selB rdone a) e w fun e' => OpG P ops o e' w fun v w' => Grow w w' ∧ v = x)
    (next : AO P ops w0 e K r an (⟨o, .ex x, a⟩ :: rdone)) : AO P ops w0 e K (o :: r) (a :: an) rdone := ⟨.ex x, trivial, h, next⟩
theorem zS5 {P : Program} {ops : Array Oper} {w0 : World} {e : Env} {K : List Dn → Prop} {o : Oper} {r : List Oper} {a : List Nat} {an : List (List Nat)} {rdone : List Dn} (F : World → Value → Prop)
    (hst : ∀ w w' v, Grow w w' → F w v → F w' v)
    (h : ∀ w, Grow w0 w → OblEnv (selB rdone a) e w fun e' => OpG P ops o e' w fun v w' => Grow w w' ∧ F w' v)
    (next : AO P ops w0 e K r an (⟨o, .so F, a⟩ :: rdone)) : AO P ops w0 e K (o :: r) (a :: an) rdone := ⟨.so F, hst, h, next⟩
theorem zG5 {P : Program} {ops : Array Oper} {w0 : World} {e : Env} {K : List Dn → Prop} {an : List (List Nat)} {rdone : List Dn} (h : K rdone.reverse) : AO P ops w0 e K [] an rdone := h
@[reducible] def Fin (G : Env → World → Prop) : List Dn → Env → World → Prop
  | [], e, w => G e w
  | ⟨o, .ex x, _⟩ :: r, e, w => Fin G r (e.put o.dst x) w
  | ⟨o, .so F, _⟩ :: r, e, w => ∀ v, F w v → Fin G r (e.put o.dst v) w
def yH1 (ops : List Oper) (o : Oper) : List Nat :=
  (o.op.operands.toList.filterMap fun | .tmp t => some t | _ => none) ++ (match o.guard with | some (j, _) => ((ops[j]?).bind (·.dst)).toList | none => [])
def yR4 (o : Oper) : Bool := match o.op with | .select .. => false | _ => true
def qE3 (hd tl : List Oper) : Bool :=
  let ops := hd ++ tl
  let n := ops.length
  let an := ancL ops []
  let anc (i j : Nat) : Bool := (an.getD i []).elem j
  (ops.all yR4) &&
  (List.range n).all fun i => match ops[i]? with
    | none => false
    | some o =>
      (zP5 o).all (fun k => Nat.blt k i) &&
      ((List.range n).all fun j => match ops[j]? with
        | none => false
        | some p => Nat.beq i j || (
          (match o.dst, p.dst with | some a, some b => !(Nat.beq a b) | _, _ => true) &&
          (match p.dst with | some b => !((yH1 ops o).elem b) || anc i j || anc j i | none => true))) &&
      (Nat.blt i hd.length || (List.range i).all fun j => anc i j)
theorem qI8 {P : Program} {hd : List Oper} {o : Oper} {e e' : Env} {w : World} {K : Value → World → Prop} (hs : yR4 o = true)
    (h : ∀ u ∈ yH1 hd o, e' u = e u) (hg : OpG P hd.toArray o e' w K) : OpG P hd.toArray o e w K := by
  have hop : execOp (ev e') o = execOp (ev e) o := by
    refine execOp_congr o (fun cs b hc => by simp [yR4, hc] at hs) fun x hx => ?_
    cases x with
    | tmp t =>
      refine h t ?_
      simp only [yH1, List.mem_append, List.mem_filterMap]
      exact .inl ⟨.tmp t, by simpa using hx, rfl⟩
    | _ => rfl
  have hw : zN3 hd.toArray o e' = zN3 hd.toArray o e := by
    unfold zN3
    cases hgd : o.guard with
    | none => rfl
    | some jb =>
      obtain ⟨j, b⟩ := jb
      simp only [List.getElem?_toArray]
      cases hdst : (hd[j]?).bind (·.dst) with
      | none => rfl
      | some d =>
        have := h d (by simp [yH1, hgd, hdst])
        simp only [this]
  unfold OpG Run1 at *
  rw [hop, hw] at hg
  exact hg
theorem zU6 {w : World} {G : Env → Prop} (E : Env) : ∀ (l : List (Option Nat × Sp)) (e : Env),
    (∀ p ∈ l, ∃ v, p.2.holds w v ∧ ∀ t, p.1 = some t → E t = v) → OblEnv l e w G →
    ∃ e', G e' ∧ ∀ u, ((∃ p ∈ l, p.1 = some u) → e' u = E u) ∧ ((∀ p ∈ l, p.1 ≠ some u) → e' u = e u)
  | [], e, _, h => ⟨e, h, fun u => ⟨fun ⟨_, hp, _⟩ => by simp at hp, fun _ => rfl⟩⟩
  | (d, s) :: r, e, hl, h => by
    obtain ⟨v, hv, hE⟩ := hl (d, s) (by simp)
    have hr : ∃ e', G e' ∧ ∀ u, ((∃ p ∈ r, p.1 = some u) → e' u = E u) ∧ ((∀ p ∈ r, p.1 ≠ some u) → e' u = (e.put d v) u) := by
      refine zU6 E r (e.put d v) (fun p hp => hl p (by simp [hp])) ?_
      cases s with
      | ex x => simp only [Sp.holds] at hv; subst hv; exact h
      | so F => exact h v hv
    obtain ⟨e', hG, hu⟩ := hr
    refine ⟨e', hG, fun u => ⟨?_, ?_⟩⟩
    · rintro ⟨p, hp, hpu⟩
      by_cases hin : ∃ p ∈ r, p.1 = some u
      · exact (hu u).1 hin
      · rw [(hu u).2 (fun q hq he => hin ⟨q, hq, he⟩)]
        have : p = (d, s) := by
          rcases List.mem_cons.1 hp with h' | h'
          · exact h'
          · exact absurd ⟨p, h', hpu⟩ hin
        subst this
        simp only at hpu
        subst hpu
        simp only [Env.put, zR6]
        exact (hE u rfl).symm
    · intro hn
      rw [(hu u).2 (fun p hp => hn p (by simp [hp]))]
      cases d with
      | none => rfl
      | some t => exact zW1 _ _ (fun hut => hn (some t, s) (by simp) (by simp [hut]))
def Good (P : Program) (ops : Array Oper) (w0 : World) (e : Env) (D : List Dn) : Prop :=
  ∀ i d, D[i]? = some d → d.s.Stab ∧
    ∀ w, Grow w0 w → OblEnv (selB (D.take i).reverse d.anc) e w fun e' => OpG P ops d.o e' w fun v w' => Grow w w' ∧ d.s.holds w' v
theorem yW0 {P : Program} {ops : Array Oper} {w0 : World} {e : Env} {K : List Dn → Prop} : ∀ (r : List Oper) (an : List (List Nat)) (rdone : List Dn), r.length = an.length →
    AO P ops w0 e K r an rdone → Good P ops w0 e rdone.reverse → ∃ D, K D ∧ Good P ops w0 e D ∧ D.map Dn.o = rdone.reverse.map Dn.o ++ r ∧ D.map Dn.anc = rdone.reverse.map Dn.anc ++ an
  | [], [], rdone, _, h, hg => ⟨rdone.reverse, h, hg, by simp, by simp⟩
  | [], _ :: _, _, hl, _, _ => by simp at hl
  | _ :: _, [], _, hl, _, _ => by simp at hl
  | o :: r, a :: an, rdone, hl, ⟨s, hs, ho, hn⟩, hg => by
    simp only [List.headD_cons, List.tail_cons] at ho hn
    obtain ⟨D, hK, hG, hD, hA⟩ := yW0 r an (⟨o, s, a⟩ :: rdone) (by simpa using hl) hn (by
      intro i d hd
      simp only [List.reverse_cons] at hd ⊢
      rcases Nat.lt_or_ge i rdone.reverse.length with hi | hi
      · rw [List.getElem?_append_left hi] at hd
        rw [List.take_append_of_le_length (by omega)]
        exact hg i d hd
      · rw [List.getElem?_append_right hi] at hd
        have h0 : i - rdone.reverse.length = 0 := by
          rcases Nat.eq_zero_or_pos (i - rdone.reverse.length) with h | h
          · exact h
          · rw [List.getElem?_eq_none (by simp only [List.length_cons, List.length_nil]; omega)] at hd; cases hd
        rw [h0] at hd
        have hi' : i = rdone.reverse.length := by omega
        subst hi'
        simp only [List.getElem?_cons_zero, Option.some.injEq] at hd
        subst hd
        have ht : (rdone.reverse ++ [(⟨o, s, a⟩ : Dn)]).take rdone.reverse.length = rdone.reverse := by simp
        rw [ht, List.reverse_reverse]
        exact ⟨hs, ho⟩)
    exact ⟨D, hK, hG, by rw [hD]; simp, by rw [hA]; simp⟩
def ancB (l : List Oper) (m : Nat) : List (List Nat) := ((ancL l []).take m).zipIdx.map fun p => p.1.map fun j => p.2 - 1 - j
theorem yX1 (D : List Dn) (l : List Nat) (hl : ∀ j ∈ l, j < D.length) : selB D.reverse (l.map fun j => D.length - 1 - j) = sel D l := by
  induction l with
  | nil => rfl
  | cons j l ih =>
    have ih := ih fun k hk => hl k (by simp [hk])
    have hj := hl j (by simp)
    unfold selB sel at *
    rw [List.map_cons, List.filterMap_cons, List.filterMap_cons]
    have : D.reverse[D.length - 1 - j]? = D[j]? := by
      rw [List.getElem?_reverse (by omega)]
      congr 1; omega
    rw [this, ih]
theorem qT3 {o : Oper} {k : Nat} : k ∈ zP5 o ↔ ∃ e ∈ o.after, Region.binds .any e = true ∧ e.on = k := by
  unfold zP5
  simp only [List.mem_filterMap, Array.mem_toList_iff]
  constructor
  · rintro ⟨e, he, h⟩
    split at h
    · rename_i hb; exact ⟨e, he, hb, by simpa using h⟩
    · cases h
  · rintro ⟨e, he, hb, rfl⟩
    exact ⟨e, he, by simp [hb]⟩
theorem zO0 : ∀ (r : List Oper) (done : List (List Nat)), (ancL r done).length = done.length + r.length
  | [], done => by simp [ancL]
  | o :: r, done => by simp [ancL, zO0 r]; omega
theorem qI9 : ∀ (r : List Oper) (done : List (List Nat)), (ancL r done).take done.length = done
  | [], done => by simp [ancL]
  | o :: r, done => by
    have := qI9 r (done ++ [qP4 done o])
    simp only [ancL]
    have h2 := congrArg (List.take done.length) this
    rw [List.take_take] at h2
    simp only [List.length_append, List.length_cons, List.length_nil] at h2
    rw [show min done.length (done.length + (0 + 1)) = done.length from by omega] at h2
    rw [h2]; simp
theorem yD6 : ∀ (r : List Oper) (done : List (List Nat)) (i : Nat) (o : Oper), r[i]? = some o →
    (ancL r done)[done.length + i]? = some (qP4 ((ancL r done).take (done.length + i)) o)
  | [], _, i, o, h => by simp at h
  | o' :: r, done, 0, o, h => by
    simp only [List.getElem?_cons_zero, Option.some.injEq] at h
    subst h
    have ht : (ancL (o' :: r) done).take done.length = done := qI9 _ _
    simp only [Nat.add_zero, ht]
    have h1 := qI9 r (done ++ [qP4 done o'])
    simp only [ancL]
    have : ((ancL r (done ++ [qP4 done o'])).take (done ++ [qP4 done o']).length)[done.length]? = some (qP4 done o') := by rw [h1]; simp
    rw [List.getElem?_take] at this
    simpa using this
  | o' :: r, done, i + 1, o, h => by
    have := yD6 r (done ++ [qP4 done o']) i o (by simpa using h)
    simp only [List.length_append, List.length_cons, List.length_nil] at this
    simp only [ancL]
    rw [show done.length + (i + 1) = done.length + (0 + 1) + i from by omega]
    exact this
def ancI (ops : List Oper) (i : Nat) : List Nat := (ancL ops []).getD i []
theorem zU7 {ops : List Oper} {i j : Nat} {o : Oper} (ho : ops[i]? = some o) : j ∈ ancI ops i ↔ j < i ∧ ∃ k ∈ zP5 o, k = j ∨ (k < i ∧ j ∈ ancI ops k) := by
  have hl : (ancL ops []).length = ops.length := by simp [zO0]
  have hi : i < ops.length := (List.getElem?_eq_some_iff.1 ho).1
  have hg := yD6 ops [] i o ho
  simp only [List.length_nil, Nat.zero_add] at hg
  unfold ancI
  rw [List.getD_eq_getElem?_getD, hg]
  simp only [Option.getD_some]
  unfold qP4
  have htl : ((ancL ops []).take i).length = i := by simp; omega
  rw [htl]
  simp only [List.mem_filter, List.mem_range, List.any_eq_true, Bool.or_eq_true, and_congr_right_iff]
  intro hj
  constructor
  · rintro ⟨k, hk, h⟩
    refine ⟨k, hk, ?_⟩
    rcases h with h | h
    · exact .inl (Nat.eq_of_beq_eq_true h)
    · right
      rw [List.getD_eq_getElem?_getD] at h ⊢
      rw [List.getElem?_take] at h
      by_cases hki : k < i
      · rw [if_pos hki] at h; exact ⟨hki, by simpa [List.elem_eq_mem] using h⟩
      · rw [if_neg hki] at h; simp at h
  · rintro ⟨k, hk, h⟩
    refine ⟨k, hk, ?_⟩
    rcases h with rfl | ⟨hki, h⟩
    · left; simp
    · right
      rw [List.getD_eq_getElem?_getD] at h ⊢
      rw [List.getElem?_take, if_pos hki]
      simpa [List.elem_eq_mem] using h
structure Shape (hd tl : List Oper) : Prop where
  nosel : ∀ (i : Nat) (o : Oper), (hd ++ tl)[i]? = some o → yR4 o = true
  back : ∀ (i : Nat) (o : Oper), (hd ++ tl)[i]? = some o → ∀ k ∈ zP5 o, k < i
  uniq : ∀ (i j : Nat) (o p : Oper), (hd ++ tl)[i]? = some o → (hd ++ tl)[j]? = some p → i ≠ j → ∀ t, o.dst = some t → p.dst ≠ some t
  read : ∀ (i j : Nat) (o p : Oper), (hd ++ tl)[i]? = some o → (hd ++ tl)[j]? = some p → i ≠ j → ∀ b, p.dst = some b → b ∈ yH1 (hd ++ tl) o → j ∈ ancI (hd ++ tl) i ∨ i ∈ ancI (hd ++ tl) j
  tail : ∀ (i : Nat), hd.length ≤ i → i < (hd ++ tl).length → ∀ j, j < i → j ∈ ancI (hd ++ tl) i
theorem qP5 {hd tl : List Oper} (h : qE3 hd tl = true) : Shape hd tl := by
  unfold qE3 at h
  simp only [Bool.and_eq_true, List.all_eq_true] at h
  obtain ⟨h1, h2⟩ := h
  have hrow : ∀ (i : Nat) (o : Oper), (hd ++ tl)[i]? = some o →
      (∀ k ∈ zP5 o, Nat.blt k i = true) ∧
      (∀ (j : Nat) (p : Oper), (hd ++ tl)[j]? = some p → i ≠ j → (∀ t, o.dst = some t → p.dst ≠ some t) ∧
        (∀ b, p.dst = some b → b ∈ yH1 (hd ++ tl) o → j ∈ ancI (hd ++ tl) i ∨ i ∈ ancI (hd ++ tl) j)) ∧
      (hd.length ≤ i → ∀ j, j < i → j ∈ ancI (hd ++ tl) i) := fun i o ho => by
    have h3 := h2 i (List.mem_range.2 (List.getElem?_eq_some_iff.1 ho).1)
    rw [ho] at h3
    simp only [Bool.and_eq_true, List.all_eq_true] at h3
    obtain ⟨⟨ha, hb⟩, hc⟩ := h3
    refine ⟨ha, fun j p hp hne => ?_, fun hi j hj => ?_⟩
    · have h4 := hb j (List.mem_range.2 (List.getElem?_eq_some_iff.1 hp).1)
      rw [hp] at h4
      simp only [qI6 hne, Bool.false_or, Bool.and_eq_true] at h4
      refine ⟨fun t ht hpt => ?_, fun b hb' hs => ?_⟩
      · have h5 := h4.1
        rw [ht, hpt] at h5
        simp at h5
      · have h5 := h4.2
        rw [hb'] at h5
        simp only [Bool.or_eq_true, Bool.not_eq_true', List.elem_eq_mem, decide_eq_true_eq, decide_eq_false_iff_not] at h5
        unfold ancI
        rcases h5 with (h | h) | h
        · exact absurd hs h
        · exact .inl h
        · exact .inr h
    · have hb : Nat.blt i hd.length = false := by
        cases hb : Nat.blt i hd.length with
        | false => rfl
        | true => rw [Nat.blt_eq] at hb; omega
      rw [hb] at hc
      simp only [Bool.false_or, List.all_eq_true, List.mem_range, List.elem_eq_mem, decide_eq_true_eq] at hc
      exact hc j hj
  exact ⟨fun i o ho => h1 o (List.mem_of_getElem? ho), fun i o ho k hk => by simpa [Nat.blt_eq] using (hrow i o ho).1 k hk,
    fun i j o p ho hp hne => ((hrow i o ho).2.1 j p hp hne).1, fun i j o p ho hp hne => ((hrow i o ho).2.1 j p hp hne).2,
    fun i hi hn => (hrow i _ (List.getElem?_eq_getElem hn)).2.2 hi⟩
/-! ### which are listed -/
def Ls (L : Array Bool) (i : Nat) : Prop := L.getD i false = true
structure Down (ops : List Oper) (L : Array Bool) : Prop where
  size : L.size = ops.length
  down : ∀ (i : Nat) (o : Oper), ops[i]? = some o → Ls L i → ∀ k ∈ zP5 o, Ls L k
theorem Ls.lt {L : Array Bool} {i : Nat} (h : Ls L i) : i < L.size := by
  unfold Ls at h
  rcases Nat.lt_or_ge i L.size with h' | h'
  · exact h'
  · simp [Array.getD_eq_getD_getElem?, Array.getElem?_eq_none h'] at h
theorem zT1 {ops : List Oper} {L : Array Bool} (hs : L.size = ops.length) {i : Nat} : i ∈ Region.ready .any ops.toArray L ↔ ¬ Ls L i ∧ ∃ o, ops[i]? = some o ∧ ∀ k ∈ zP5 o, Ls L k := by
  rw [mem_ready]
  simp only [List.getElem?_toArray]
  constructor
  · rintro ⟨h0, o, ho, h⟩
    refine ⟨fun hl => ?_, o, ho, fun k hk => ?_⟩
    · have := hl.lt
      unfold Ls at hl
      simp only [Array.getD_eq_getD_getElem?, Array.getElem?_eq_getElem this, Option.getD_some] at h0 hl
      rw [h0] at hl; cases hl
    · obtain ⟨e, he, hb, rfl⟩ := qT3.1 hk
      exact h e he hb
  · rintro ⟨h0, o, ho, h⟩
    refine ⟨?_, o, ho, fun e he hb => h _ (qT3.2 ⟨e, he, hb, rfl⟩)⟩
    have hi : i < L.size := by rw [hs]; exact (List.getElem?_eq_some_iff.1 ho).1
    unfold Ls at h0
    simp only [Array.getD_eq_getD_getElem?, Array.getElem?_eq_getElem hi, Option.getD_some] at h0 ⊢
    simpa using h0
theorem zN7 {L : Array Bool} {i j : Nat} (hi : i < L.size) : Ls (L.setIfInBounds i true) j ↔ j = i ∨ Ls L j := by
  unfold Ls
  by_cases h : j = i
  · subst h; simp [Array.getD_eq_getD_getElem?, hi]
  · simp only [h, false_or]
    rw [getD_set_ne false (Ne.symm h)]
theorem zM4 {ops : List Oper} {L : Array Bool} (hd : Down ops L) : ∀ (i : Nat) (o : Oper), ops[i]? = some o → (∀ k ∈ zP5 o, Ls L k) → ∀ j ∈ ancI ops i, Ls L j := by
  intro i
  induction i using Nat.strongRecOn with
  | _ i ih =>
    intro o ho hk j hj
    obtain ⟨_, k, hke, h⟩ := (zU7 ho).1 hj
    rcases h with rfl | ⟨hki, hjk⟩
    · exact hk _ hke
    · have hlk := hk k hke
      have hlt : k < ops.length := by have := hlk.lt; rw [hd.size] at this; exact this
      exact ih k hki _ (List.getElem?_eq_getElem hlt) (hd.down k _ (List.getElem?_eq_getElem hlt) hlk) j hjk
theorem Down.set {ops : List Oper} {L : Array Bool} (h : Down ops L) {i : Nat} {o : Oper} (ho : ops[i]? = some o) (hk : ∀ k ∈ zP5 o, Ls L k) : Down ops (L.setIfInBounds i true) := by
  have hi : i < L.size := by rw [h.size]; exact (List.getElem?_eq_some_iff.1 ho).1
  refine ⟨by simp [h.size], fun j p hp hl k hk' => ?_⟩
  rw [zN7 hi] at hl ⊢
  rcases hl with rfl | hl
  · rw [ho] at hp; cases hp; exact .inr (hk k hk')
  · exact .inr (h.down j p hp hl k hk')
def left (L : Array Bool) : Nat := L.toList.countP (!·)
theorem zR7 {L : Array Bool} {i : Nat} (hi : i < L.size) (h : ¬ Ls L i) : left (L.setIfInBounds i true) + 1 = left L := by
  have hf : L[i] = false := by
    unfold Ls at h
    simp only [Array.getD_eq_getD_getElem?, Array.getElem?_eq_getElem hi, Option.getD_some] at h
    simpa using h
  unfold left
  have hl : i < L.toList.length := by simpa using hi
  have : (L.setIfInBounds i true).toList = L.toList.set i true := by simp
  have hx : L.toList[i] = false := by simpa using hf
  have hpos : 0 < L.toList.countP (!·) := List.countP_pos_iff.2 ⟨false, by rw [← hx]; exact List.getElem_mem hl, rfl⟩
  rw [this, List.countP_set hl, hx]
  simp only [Bool.not_false, if_true, Bool.not_true, Bool.false_eq_true, if_false]
  omega
theorem zY1 {ops : List Oper} {L : Array Bool} (hs : L.size = ops.length) (hb : ∀ (i : Nat) (o : Oper), ops[i]? = some o → ∀ k ∈ zP5 o, k < i)
    (hr : Region.ready .any ops.toArray L = []) : ∀ i, i < ops.length → Ls L i := by
  intro i
  induction i using Nat.strongRecOn with
  | _ i ih =>
    intro hi
    by_cases hl : Ls L i
    · exact hl
    · have : i ∈ Region.ready .any ops.toArray L := (zT1 hs).2 ⟨hl, _, List.getElem?_eq_getElem hi, fun k hk => by
        have hki := hb i _ (List.getElem?_eq_getElem hi) k hk
        exact ih k hki (by omega)⟩
      rw [hr] at this; cases this
def AnyE (P : Program) (ops : Array Oper) (Q : Ex → Env → World → Prop) : Nat → Array Bool → Env → World → Prop
  | 0, L, e, w => Region.ready .any ops L = [] ∧ Q .normal e w
  | f + 1, L, e, w => (Region.ready .any ops L = [] → Q .normal e w) ∧
    ∀ i ∈ Region.ready .any ops L, ∀ o, ops[i]? = some o → OpG P ops o e w fun v w' => AnyE P ops Q f (L.setIfInBounds i true) (e.put o.dst v) w'
theorem qE4 {P : Program} {ops : Array Oper} {Q : Ex → Env → World → Prop} : ∀ (fuel t : Nat) (L : Array Bool) (e : Env) (w : World), AnyE P ops Q fuel L e w →
    OpsE P ops Q (Region.linearise.go .any ops fuel t L []) e w := by
  intro fuel
  induction fuel with
  | zero => intro t L e w h; simpa [Region.linearise.go, OpsE] using h.2
  | succ fuel ih =>
    intro t L e w h
    obtain ⟨h0, h1⟩ := h
    simp only [Region.linearise.go]
    change OpsE P ops Q (match (Region.ready .any ops L)[t % (Region.ready .any ops L).length]? with
      | some i => Region.linearise.go .any ops fuel (t / (Region.ready .any ops L).length) (L.setIfInBounds i true) [i]
      | none => [].reverse) e w
    cases hi : (Region.ready .any ops L)[t % (Region.ready .any ops L).length]? with
    | none =>
      have hnil : Region.ready .any ops L = [] := by
        cases hr : Region.ready .any ops L with
        | nil => rfl
        | cons x xs =>
          rw [hr] at hi
          have hlt : t % (x :: xs).length < (x :: xs).length := Nat.mod_lt _ (by simp)
          simp at hi
          simp at hlt
          omega
      simpa [OpsE] using h0 hnil
    | some i =>
      simp only []
      rw [linearise_go_acc, List.reverse_singleton, List.singleton_append]
      have hm := List.mem_of_getElem? hi
      simp only [OpsE]
      cases ho : ops[i]? with
      | none =>
        obtain ⟨_, o, ho', _⟩ := mem_ready.1 hm
        rw [ho] at ho'; cases ho'
      | some o => exact (h1 i hm o ho).mono fun v w' hv => ih _ _ _ w' hv
theorem yD7 (e : Env) (d : Option Nat) (v : Value) : (e.put d v).ms = e.ms := by cases d <;> rfl
theorem yD8 (e : Env) (d : Option Nat) (v : Value) : (e.put d v).ro = e.ro := by cases d <;> rfl
section main
variable {P : Program} {N : Nat} {hd tl : List Oper} {Q : Ex → Env → World → Prop}
theorem yL1 (sh : Shape hd tl) : ∀ (fuel : Nat) (k : Nat) (L : Array Bool) (E : Env) (w : World),
    Down (hd ++ tl) L → (∀ i, Ls L i ↔ i < k) → hd.length ≤ k → k ≤ (hd ++ tl).length → left L ≤ fuel →
    WL P (hd ++ tl).toArray Q ((hd ++ tl).drop k) E w → AnyE P (hd ++ tl).toArray Q fuel L E w := by
  intro fuel
  induction fuel with
  | zero =>
    intro k L E w hdn hL hk hkn hf h
    have hnone : ∀ i, i < L.size → Ls L i := by
      intro i hi
      by_cases hl : Ls L i
      · exact hl
      · have := zR7 hi hl; omega
    have hke : k = (hd ++ tl).length := by
      rcases Nat.lt_or_ge k (hd ++ tl).length with hlt | hge
      · have := (hL k).1 (hnone k (by rw [hdn.size]; exact hlt)); omega
      · omega
    subst hke
    rw [List.drop_length] at h
    refine ⟨?_, h⟩
    rw [List.eq_nil_iff_forall_not_mem]
    intro i hi
    obtain ⟨hn, o, ho, _⟩ := (zT1 hdn.size).1 hi
    exact hn (hnone i (by rw [hdn.size]; exact (List.getElem?_eq_some_iff.1 ho).1))
  | succ fuel ih =>
    intro k L E w hdn hL hk hkn hf h
    refine ⟨fun hr => ?_, fun i hi o' ho' => ?_⟩
    · have hke : k = (hd ++ tl).length := by
        rcases Nat.lt_or_ge k (hd ++ tl).length with hlt | hge
        · have := (hL k).1 (zY1 hdn.size sh.back hr k hlt); omega
        · omega
      subst hke
      rw [List.drop_length] at h
      exact h
    · obtain ⟨hn, o, ho, hedge⟩ := (zT1 hdn.size).1 hi
      have hin : i < (hd ++ tl).length := (List.getElem?_eq_some_iff.1 ho).1
      have hik : k ≤ i := by
        rcases Nat.lt_or_ge i k with h' | h'
        · exact absurd ((hL i).2 h') hn
        · exact h'
      have hanc := zM4 hdn i o ho hedge
      have hki : i = k := by
        rcases Nat.lt_or_ge k i with h' | h'
        · have := hanc k (sh.tail i (by omega) hin k h')
          have := (hL k).1 this; omega
        · omega
      subst hki
      have hi' : i < L.size := by rw [hdn.size]; exact hin
      rw [List.drop_eq_getElem_cons hin] at h
      have hoi : (hd ++ tl)[i] = o := by rw [List.getElem?_eq_getElem hin] at ho; exact Option.some.inj ho
      rw [hoi] at h
      have hoo : o = o' := by rw [List.getElem?_toArray, ho] at ho'; exact Option.some.inj ho'
      subst hoo
      refine OpG.mono ?_ h
      intro v w' hw
      refine ih (i + 1) _ _ w' (hdn.set ho hedge) (fun j => ?_) (by omega) (by omega) (by have := zR7 hi' hn; omega) ?_
      · rw [zN7 hi', hL j]; omega
      · exact hw
theorem qH8 {G : Env → World → Prop} {w : World} (E : Env) : ∀ (D : List Dn) (e : Env), Fin G D e w →
    (∀ d ∈ D, ∃ v, d.s.holds w v ∧ ∀ t, d.o.dst = some t → E t = v) →
    ∃ e', G e' w ∧ (e'.ms = e.ms ∧ e'.ro = e.ro) ∧ ∀ u, ((∃ d ∈ D, d.o.dst = some u) → e' u = E u) ∧ ((∀ d ∈ D, d.o.dst ≠ some u) → e' u = e u)
  | [], e, h, _ => ⟨e, h, ⟨rfl, rfl⟩, fun u => ⟨fun ⟨_, hp, _⟩ => by simp at hp, fun _ => rfl⟩⟩
  | ⟨o, s, an⟩ :: r, e, h, hl => by
    obtain ⟨v, hv, hE⟩ := hl ⟨o, s, an⟩ (by simp)
    have hr : ∃ e', G e' w ∧ (e'.ms = (e.put o.dst v).ms ∧ e'.ro = (e.put o.dst v).ro) ∧ ∀ u, ((∃ d ∈ r, d.o.dst = some u) → e' u = E u) ∧ ((∀ d ∈ r, d.o.dst ≠ some u) → e' u = (e.put o.dst v) u) := by
      refine qH8 E r (e.put o.dst v) ?_ (fun p hp => hl p (by simp [hp]))
      cases s with
      | ex x => simp only [Sp.holds] at hv; subst hv; exact h
      | so F => exact h v hv
    obtain ⟨e', hG, hmr, hu⟩ := hr
    refine ⟨e', hG, ⟨by rw [hmr.1, yD7], by rw [hmr.2, yD8]⟩, fun u => ⟨?_, ?_⟩⟩
    · rintro ⟨p, hp, hpu⟩
      by_cases hin : ∃ p ∈ r, p.o.dst = some u
      · exact (hu u).1 hin
      · rw [(hu u).2 (fun q hq he => hin ⟨q, hq, he⟩)]
        have : p = ⟨o, s, an⟩ := by
          rcases List.mem_cons.1 hp with h' | h'
          · exact h'
          · exact absurd ⟨p, h', hpu⟩ hin
        subst this
        simp only at hpu hE
        rw [hpu]
        simp only [Env.put, zR6]
        exact (hE u hpu).symm
    · intro hn
      rw [(hu u).2 (fun p hp => hn p (by simp [hp]))]
      have hne := hn ⟨o, s, an⟩ (by simp)
      simp only at hne
      cases hod : o.dst with
      | none => rfl
      | some t => exact zW1 _ _ (fun hut => hne (by rw [hod, hut]))
structure Inv (P : Program) (hd tl : List Oper) (D : List Dn) (w0 : World) (e : Env) (L : Array Bool) (E : Env) (w : World) : Prop where
  msro : E.ms = e.ms ∧ E.ro = e.ro
  down : Down (hd ++ tl) L
  head : ∀ i, Ls L i → i < hd.length
  grow : Grow w0 w
  got : ∀ (i : Nat) (d : Dn), D[i]? = some d → Ls L i → ∃ v, d.s.holds w v ∧ ∀ t, d.o.dst = some t → E t = v
  off : ∀ u, (∀ (i : Nat) (o : Oper), (hd ++ tl)[i]? = some o → Ls L i → o.dst ≠ some u) → E u = e u
theorem qZ1 (sh : Shape hd tl) {D : List Dn} (hm : D.length = hd.length) (hA : D.map Dn.anc = ancB (hd ++ tl) hd.length) :
    ∀ (i : Nat) (d : Dn), D[i]? = some d → selB (D.take i).reverse d.anc = sel (D.take i) (ancI (hd ++ tl) i) := by
  intro i d hd'
  have hi : i < D.length := (List.getElem?_eq_some_iff.1 hd').1
  have h1 : (D.map Dn.anc)[i]? = some d.anc := by simp [hd']
  have hlt : i < (ancL (hd ++ tl) []).length := by simp [zO0]; omega
  rw [hA] at h1
  unfold ancB at h1
  rw [List.getElem?_map, List.getElem?_zipIdx, List.getElem?_take, if_pos (by omega), List.getElem?_eq_getElem hlt] at h1
  simp only [Option.map_some, Option.some.injEq, Nat.zero_add] at h1
  have hanc : (ancL (hd ++ tl) [])[i] = ancI (hd ++ tl) i := by
    unfold ancI
    rw [List.getD_eq_getElem?_getD, List.getElem?_eq_getElem hlt]; rfl
  rw [hanc] at h1
  have hin : i < (hd ++ tl).length := by simp; omega
  have hlen : (D.take i).length = i := by simp; omega
  have := yX1 (D.take i) (ancI (hd ++ tl) i) (fun j hj => by rw [hlen]; exact ((zU7 (List.getElem?_eq_getElem hin)).1 hj).1)
  rw [hlen] at this
  rw [← h1, this]
theorem jB0 (sh : Shape hd tl) {D : List Dn} {w0 : World} {e : Env} (hD : D.map Dn.o = hd) (hA : D.map Dn.anc = ancB (hd ++ tl) hd.length) (hg : Good P (hd ++ tl).toArray w0 e D)
    (hfin : ∀ w, Grow w0 w → Fin (fun e w => WL P (hd ++ tl).toArray Q tl e w) D e w) : ∀ (fuel : Nat) (L : Array Bool) (E : Env) (w : World),
    Inv P hd tl D w0 e L E w → left L ≤ fuel → AnyE P (hd ++ tl).toArray Q fuel L E w := by
  have hlen : D.length = hd.length := by rw [← hD]; simp
  have hDo : ∀ (i : Nat) (d : Dn), D[i]? = some d → (hd ++ tl)[i]? = some d.o := fun i d h => by
    have hi : i < D.length := (List.getElem?_eq_some_iff.1 h).1
    rw [List.getElem?_append_left (by omega), ← hD]; simp [h]
  have hanc := qZ1 sh hlen hA
  -- with all of the head listed, what follows stands
  have fin : ∀ (L : Array Bool) (E : Env) (w : World), Inv P hd tl D w0 e L E w → (∀ i, i < hd.length → Ls L i) → WL P (hd ++ tl).toArray Q tl E w := by
    intro L E w inv hall
    obtain ⟨e', hG, hmr, hu⟩ := qH8 E D e (hfin w inv.grow) (fun d hd' => by
      obtain ⟨i, hi, rfl⟩ := List.getElem_of_mem hd'
      exact inv.got i _ (List.getElem?_eq_getElem hi) (hall i (by omega)))
    have : e' = E := by
      refine Env.ext' (fun u => ?_) (by rw [hmr.1, inv.msro.1]) (by rw [hmr.2, inv.msro.2])
      by_cases hin : ∃ d ∈ D, d.o.dst = some u
      · exact (hu u).1 hin
      · rw [(hu u).2 (fun d hd' he => hin ⟨d, hd', he⟩)]
        refine (inv.off u fun i o ho hl hou => hin ?_).symm
        have hi := inv.head i hl
        have hiD : i < D.length := by omega
        have := hDo i _ (List.getElem?_eq_getElem hiD)
        rw [ho] at this
        exact ⟨D[i], List.getElem_mem hiD, by rw [← Option.some.inj this]; exact hou⟩
    rw [← this]; exact hG
  -- and so the rest of the region
  have rest : ∀ (fuel : Nat) (L : Array Bool) (E : Env) (w : World), Inv P hd tl D w0 e L E w → (∀ i, i < hd.length → Ls L i) → left L ≤ fuel →
      AnyE P (hd ++ tl).toArray Q fuel L E w := by
    intro fuel L E w inv hall hf
    refine yL1 sh fuel hd.length L E w inv.down (fun i => ⟨inv.head i, hall i⟩) (Nat.le_refl _) (by simp) hf ?_
    rw [List.drop_left]
    exact fin L E w inv hall
  intro fuel
  induction fuel with
  | zero =>
    intro L E w inv hf
    refine rest 0 L E w inv (fun i hi => ?_) hf
    by_cases hl : Ls L i
    · exact hl
    · have := zR7 (L := L) (i := i) (by rw [inv.down.size]; simp; omega) hl; omega
  | succ fuel ih =>
    intro L E w inv hf
    by_cases hall : ∀ i, i < hd.length → Ls L i
    · exact rest _ L E w inv hall hf
    refine ⟨fun hr => absurd (fun i hi => zY1 inv.down.size sh.back hr i (by simp; omega)) hall, fun i hi o' ho' => ?_⟩
    obtain ⟨hn, o, ho, hedge⟩ := (zT1 inv.down.size).1 hi
    have hin : i < (hd ++ tl).length := (List.getElem?_eq_some_iff.1 ho).1
    have hal := zM4 inv.down i o ho hedge
    have hih : i < hd.length := by
      rcases Nat.lt_or_ge i hd.length with h' | h'
      · exact h'
      · exact absurd (fun j hj => hal j (sh.tail i h' hin j (by omega))) hall
    have hi' : i < L.size := by rw [inv.down.size]; exact hin
    have hiD : i < D.length := by omega
    have hd' := List.getElem?_eq_getElem hiD
    generalize hdd : D[i] = d at hd'
    have hod : d.o = o := by have := hDo i d hd'; rw [ho] at this; exact (Option.some.inj this).symm
    obtain ⟨hst, hob⟩ := hg i d hd'
    have ha := hanc i d hd'
    rw [ha] at hob
    -- the obligation, at the frame that is there
    obtain ⟨e', hG, hu⟩ := zU6 E _ e (by
      intro p hp
      unfold sel at hp
      rw [List.mem_filterMap] at hp
      obtain ⟨j, hj, hp⟩ := hp
      rw [List.getElem?_take] at hp
      split at hp
      · cases hdj : D[j]? with
        | none => rw [hdj] at hp; simp at hp
        | some dj =>
          rw [hdj] at hp
          simp only [Option.map_some, Option.some.injEq] at hp
          subst hp
          exact inv.got j dj hdj (hal j hj)
      · simp at hp) (hob w inv.grow)
    have hmem : ∀ u, (∃ p ∈ sel (D.take i) (ancI (hd ++ tl) i), p.1 = some u) ↔ ∃ j ∈ ancI (hd ++ tl) i, ∃ dj, D[j]? = some dj ∧ dj.o.dst = some u := by
      intro u
      unfold sel
      constructor
      · rintro ⟨p, hp, hpu⟩
        rw [List.mem_filterMap] at hp
        obtain ⟨j, hj, hp⟩ := hp
        rw [List.getElem?_take] at hp
        split at hp
        · cases hdj : D[j]? with
          | none => rw [hdj] at hp; simp at hp
          | some dj =>
            rw [hdj] at hp
            simp only [Option.map_some, Option.some.injEq] at hp
            subst hp
            exact ⟨j, hj, dj, hdj, hpu⟩
        · simp at hp
      · rintro ⟨j, hj, dj, hdj, hdu⟩
        refine ⟨(dj.o.dst, dj.s), ?_, hdu⟩
        rw [List.mem_filterMap]
        refine ⟨j, hj, ?_⟩
        rw [List.getElem?_take, if_pos ((zU7 ho).1 hj).1, hdj]
        rfl
    have hG2 : OpG P (hd ++ tl).toArray o E w fun v w' => Grow w w' ∧ d.s.holds w' v := by
      rw [hod] at hG
      refine qI8 (sh.nosel i o ho) (fun u hu' => ?_) hG
      by_cases hin' : ∃ p ∈ sel (D.take i) (ancI (hd ++ tl) i), p.1 = some u
      · exact (hu u).1 hin'
      · rw [(hu u).2 (fun p hp he => hin' ⟨p, hp, he⟩)]
        refine (inv.off u fun k p hp hl hpu => ?_).symm
        have hki : i ≠ k := fun h => hn (h ▸ hl)
        rcases sh.read i k o p ho hp hki u hpu hu' with h | h
        · refine hin' ((hmem u).2 ⟨k, h, ?_⟩)
          have hk := inv.head k hl
          have hkD : k < D.length := by omega
          have := hDo k _ (List.getElem?_eq_getElem hkD)
          rw [hp] at this
          exact ⟨_, List.getElem?_eq_getElem hkD, by rw [← Option.some.inj this]; exact hpu⟩
        · exact hn (zM4 inv.down k p hp (inv.down.down k p hp hl) i h)
    have hoo : o = o' := by rw [List.getElem?_toArray, ho] at ho'; exact Option.some.inj ho'
    subst hoo
    refine OpG.mono ?_ hG2
    rintro v w' ⟨hgr, hv⟩
    refine ih _ _ w' ⟨⟨by rw [yD7]; exact inv.msro.1, by rw [yD8]; exact inv.msro.2⟩, inv.down.set ho hedge, fun j hj => ?_, inv.grow.tr hgr, fun j dj hdj hl => ?_, fun u hu' => ?_⟩ (by have := zR7 hi' hn; omega)
    · rw [zN7 hi'] at hj
      rcases hj with rfl | hj
      · exact hih
      · exact inv.head j hj
    · rw [zN7 hi'] at hl
      by_cases hji : j = i
      · subst hji
        rw [hd'] at hdj
        cases hdj
        refine ⟨v, hv, fun t ht => ?_⟩
        rw [hod] at ht
        rw [ht]; exact zR6 _ _ _
      · have hlj := hl.resolve_left hji
        obtain ⟨vj, hvj, htj⟩ := inv.got j dj hdj hlj
        refine ⟨vj, Sp.keep (hg j dj hdj).1 hgr hvj, fun t ht => ?_⟩
        rw [← htj t ht]
        cases hdst' : o.dst with
        | none => rfl
        | some t' =>
          refine zW1 _ _ fun htt => ?_
          exact sh.uniq i j o dj.o ho (hDo j dj hdj) (Ne.symm hji) t' hdst' (by rw [ht, htt])
    · have hne : o.dst ≠ some u := hu' i o ho ((zN7 hi').2 (.inl rfl))
      have : E.put o.dst v u = E u := by
        cases hdst' : o.dst with
        | none => rfl
        | some t' => exact zW1 _ _ fun htt => hne (by rw [hdst', htt])
      rw [this]
      exact inv.off u fun k p hp hl => hu' k p hp ((zN7 hi').2 (.inr hl))
theorem zK0 {id : Nat} {e : Env} {w : World} {l : List Oper} (m : Nat) (an : List (List Nat)) (hm : P.follows .mixedOrders = true) (hsh : qE3 (l.take m) (l.drop m) = true)
    (han : ancB l (l.take m).length = an) (hdst : qT2 N l = true)
    (h : ∀ w0, Grow w w0 → AO P l.toArray w0 e (fun D => ∀ w', Grow w0 w' → Fin (fun e w => WL P l.toArray Q (l.drop m) e w) D e w') (l.take m) an []) :
    W P N (.region id l.toArray true) Q e w := by
  have hl := List.take_append_drop m l
  generalize hhd : l.take m = hd at *
  generalize htl : l.drop m = tl at *
  subst hl
  have h := h { w with drawn := w.drawn + 1 } (Grow.drew' w)
  intro b a k cs hs he
  subst he
  have sh := qP5 hsh
  obtain ⟨D, hK, hG, hDo, hDa⟩ := yW0 _ _ _ (by rw [← han]; simp [ancB, zO0]) h (fun i d hd' => by simp at hd')
  have hDo' : D.map Dn.o = hd := by simpa using hDo
  have hDa' : D.map Dn.anc = ancB (hd ++ tl) hd.length := by rw [hDa, han]; simp
  have hany : AnyE P (hd ++ tl).toArray Q (hd ++ tl).toArray.size (Array.replicate (hd ++ tl).toArray.size false) (env b.roundOf a) { w with drawn := w.drawn + 1 } := by
    refine jB0 sh hDo' hDa' hG hK _ _ _ _ ⟨⟨rfl, rfl⟩, ⟨by simp, fun i o ho hl => ?_⟩, fun i hl => ?_, Grow.rfl' _, fun i d hd' hl => ?_, fun u _ => rfl⟩ ?_
    · exact absurd hl (by simp [Ls, Array.getD_eq_getD_getElem?, Array.getElem?_replicate]; split <;> simp)
    · exact absurd hl (by simp [Ls, Array.getD_eq_getD_getElem?, Array.getElem?_replicate]; split <;> simp)
    · exact absurd hl (by simp [Ls, Array.getD_eq_getD_getElem?, Array.getElem?_replicate]; split <;> simp)
    · unfold Go.Proofs.YtkkbbhpbcfcplaaGreat.K.left
      have := List.countP_le_length (p := (!·)) (l := (Array.replicate (hd ++ tl).toArray.size false).toList)
      simpa using this
  have hs2 := qE4 _ ((w.tape w.drawn (.order b.fn id))) _ _ _ hany
  obtain ⟨x, a', w', h1, h2, h3⟩ := zT0 hdst (k := k) (cs := cs) _ a _ hs hs2
  refine ⟨x, a', w', h1, h2, .of (.one stepR_region_draw) ?_⟩
  simp only [Region.schedule, hm, Bool.true_or, if_true]
  exact h3
end main
/-! ### what is known of the program's types and functions, found by their numbers -/
class UndI (P : Program) (t : TypeId) : Prop where
  h : ∃ ds, P.underlying t = some ds
class IntI (P : Program) (t : TypeId) (k : outParam IntKind) : Prop where
  h : P.underlying t = some (.int k)
class FuncI (P : Program) (f : FuncId) : Prop where
  h : ∃ fn, P.funcs[f]? = some fn ∧ (fn.name == "runtime.NumGoroutine" || fn.body.isNone) = false
section
variable {P : Program} {ops : Array Oper} {Q : Ex → Env → World → Prop} {e : Env} {w : World} {K : Value → World → Prop} {r : List Oper}
variable {d : Option Nat} {ty : TypeId} {pos : String} {af : Array Edge} {g : Option (Nat × Bool)}
theorem zA6 (h : Q .normal e w) : WL P ops Q [] e w := h
theorem zA4 {d : Nat} {op : Op} {ty : TypeId} {pos : String} {af : Array Edge} {g : Option (Nat × Bool)} (h : OpG P ops ⟨some d, op, ty, pos, af, g⟩ e w fun v w' => WL P ops Q r (Env.set e d v) w') : WL P ops Q (⟨some d, op, ty, pos, af, g⟩ :: r) e w := h
theorem yL2 {op : Op} {ty : TypeId} {pos : String} {af : Array Edge} {g : Option (Nat × Bool)} (h : OpG P ops ⟨none, op, ty, pos, af, g⟩ e w fun v w' => WL P ops Q r e w') : WL P ops Q (⟨none, op, ty, pos, af, g⟩ :: r) e w := h
theorem og {o : Oper} (hw : zN3 ops o e = true) (h : Run1 P o e w K) : OpG P ops o e w K := by unfold OpG; rw [hw]; exact h
theorem zE1 {o : Oper} (hw : zN3 ops o e = false) (h : K undef w) : OpG P ops o e w K := by unfold OpG; rw [hw]; exact h
theorem zE3 {o : Oper} {v : Value} {w' : World} (h : (execOp (ev e) o).run P w = .ok (.value v) w') (hK : K v w') : Run1 P o e w K := by unfold Run1; rw [h]; exact hK
theorem yL3 {o : Oper} {w' : World} (h : (execOp (ev e) o).run P w = .ok .skip w') (hK : K undef w') : Run1 P o e w K := by unfold Run1; rw [h]; exact hK
/-! ### moves, by the value's form -/
theorem zD0 {x : Operand} {v : Value} (hx : ev e x = v) (h : K v w) : Run1 P ⟨d, .move x, ty, pos, af, g⟩ e w K := by subst hx; exact h
theorem zE7 {x : Operand} {v : Value} (hx : ev e x = v) (h : K v w) : Run1 P ⟨d, .assign x, ty, pos, af, g⟩ e w K := by subst hx; exact h
theorem zE4 {x : Operand} {k : IntKind} {a : Int} (hx : ev e x = .int k a) (h : K (.int k a) w) : Run1 P ⟨d, .move x, ty, pos, af, g⟩ e w K := zD0 hx h
theorem zG6 {x : Operand} {b : Bool} (hx : ev e x = .bool b) (h : K (.bool b) w) : Run1 P ⟨d, .move x, ty, pos, af, g⟩ e w K := zD0 hx h
theorem zE8 {x : Operand} {b : Option Addr} (hx : ev e x = .pointer b) (h : K (.pointer b) w) : Run1 P ⟨d, .move x, ty, pos, af, g⟩ e w K := zD0 hx h
theorem zJ1 {x : Operand} {a : Option Addr} {n c : Nat} (hx : ev e x = .slice a n c) (h : K (.slice a n c) w) : Run1 P ⟨d, .move x, ty, pos, af, g⟩ e w K := zD0 hx h
theorem zY2 {x : Operand} {c : Array Value} (hx : ev e x = .agg c) (h : K (.agg c) w) : Run1 P ⟨d, .move x, ty, pos, af, g⟩ e w K := zD0 hx h
theorem zR8 {x : Operand} {c : Array Value} (hx : ev e x = .tuple c) (h : K (.tuple c) w) : Run1 P ⟨d, .move x, ty, pos, af, g⟩ e w K := zD0 hx h
theorem qM8 {x : Operand} {s : ByteArray} (hx : ev e x = .string s) (h : K (.string s) w) : Run1 P ⟨d, .move x, ty, pos, af, g⟩ e w K := zD0 hx h
theorem zU8 {x : Operand} {f : Fn} {a c : Array Value} (hx : ev e x = .func f a c) (h : K (.func f a c) w) : Run1 P ⟨d, .move x, ty, pos, af, g⟩ e w K := zD0 hx h
theorem zR9 {x : Operand} {t : TypeId} {v : Value} (hx : ev e x = .iface t v) (h : K (.iface t v) w) : Run1 P ⟨d, .move x, ty, pos, af, g⟩ e w K := zD0 hx h
theorem zF6 {x : Operand} {k : IntKind} {a : Int} (hx : ev e x = .int k a) (h : K (.int k a) w) : Run1 P ⟨d, .assign x, ty, pos, af, g⟩ e w K := zE7 hx h
theorem zI0 {x : Operand} {b : Bool} (hx : ev e x = .bool b) (h : K (.bool b) w) : Run1 P ⟨d, .assign x, ty, pos, af, g⟩ e w K := zE7 hx h
theorem zM5 {x : Operand} {b : Option Addr} (hx : ev e x = .pointer b) (h : K (.pointer b) w) : Run1 P ⟨d, .assign x, ty, pos, af, g⟩ e w K := zE7 hx h
theorem zK3 {x : Operand} {a : Option Addr} {n c : Nat} (hx : ev e x = .slice a n c) (h : K (.slice a n c) w) : Run1 P ⟨d, .assign x, ty, pos, af, g⟩ e w K := zE7 hx h
theorem zS0 {x : Operand} {c : Array Value} (hx : ev e x = .agg c) (h : K (.agg c) w) : Run1 P ⟨d, .assign x, ty, pos, af, g⟩ e w K := zE7 hx h
theorem qG5 {x : Operand} {s : ByteArray} (hx : ev e x = .string s) (h : K (.string s) w) : Run1 P ⟨d, .assign x, ty, pos, af, g⟩ e w K := zE7 hx h
theorem zP9 {x : Operand} {f : Fn} {a c : Array Value} (hx : ev e x = .func f a c) (h : K (.func f a c) w) : Run1 P ⟨d, .assign x, ty, pos, af, g⟩ e w K := zE7 hx h
theorem zO4 {x : Operand} {t : TypeId} {v : Value} (hx : ev e x = .iface t v) (h : K (.iface t v) w) : Run1 P ⟨d, .assign x, ty, pos, af, g⟩ e w K := zE7 hx h
theorem qC1 {x : Operand} (hx : ev e x = .nilIface) (h : K .nilIface w) : Run1 P ⟨d, .assign x, ty, pos, af, g⟩ e w K := zE7 hx h
theorem zH0 {c x y : Operand} {b : Bool} {v : Value} (hc : ev e c = .bool b) (hb : b = true) (hx : ev e x = v) (h : K v w) : Run1 P ⟨d, .pick c x y, ty, pos, af, g⟩ e w K := by
  subst hb; subst hx
  exact zE3 (v := ev e x) (w' := w) (by simp [execOp, hc, asBool]) h
theorem zH6 {c x y : Operand} {b : Bool} {v : Value} (hc : ev e c = .bool b) (hb : b = false) (hx : ev e y = v) (h : K v w) : Run1 P ⟨d, .pick c x y, ty, pos, af, g⟩ e w K := by
  subst hb; subst hx
  exact zE3 (v := ev e y) (w' := w) (by simp [execOp, hc, asBool]) h
theorem zB3 {x : Operand} {i : Nat} {vs : Array Value} {v : Value} (hx : ev e x = .tuple vs) (hi : vs[i]? = some v) (h : K v w) : Run1 P ⟨d, .extract x i, ty, pos, af, g⟩ e w K :=
  zE3 (v := v) (w' := w) (by simp [execOp, hx, Instr.extract, hi]) h
/-! ### numbers -/
def inR : IntKind → Int → Prop
  | .i8, n => -128 ≤ n ∧ n ≤ 127
  | .i16, n => -32768 ≤ n ∧ n ≤ 32767
  | .i32, n => -2147483648 ≤ n ∧ n ≤ 2147483647
  | .i64, n => -9223372036854775808 ≤ n ∧ n ≤ 9223372036854775807
  | .u8, n => 0 ≤ n ∧ n ≤ 255
  | .u16, n => 0 ≤ n ∧ n ≤ 65535
  | .u32, n => 0 ≤ n ∧ n ≤ 4294967295
  | .u64, n => 0 ≤ n ∧ n ≤ 18446744073709551615
theorem zJ6 {k : IntKind} {n : Int} (h : inR k n) : k.wrap n = n := by
  cases k <;> simp only [inR] at h
  · exact IntWalk.i8_in n h
  · exact IntWalk.i16_in n h
  · exact IntWalk.i32_in n h
  · exact IntWalk.i64_in n h
  · exact IntWalk.u8_in n h
  · exact IntWalk.u16_in n h
  · exact IntWalk.u32_in n h
  · exact IntWalk.u64_in n h
theorem zM0 (op : BinOp) {t u : TypeId} {x y : Operand} {k : IntKind} {a b : Int} {v : Value} (hx : ev e x = .int k a) (hy : ev e y = .int k b)
    (hv : ∀ w : World, (binOp op t (.int k a) (.int k b)).run P w = .ok v w) (h : K v w) : Run1 P ⟨d, .binOp op t x y u, ty, pos, af, g⟩ e w K := by
  refine zE3 (v := v) (w' := w) ?_ h
  have hg : ∀ w : World, (eqGuard op t x y (.int k a) (.int k b)).run P w = .ok () w := by intro w; unfold eqGuard; cases op <;> rfl
  simp only [execOp, hx, hy, Sem.run_bind, hg, Result.andThen_ok, hv]
  rfl
variable {t u : TypeId} {x y : Operand} {k k' : IntKind} {a b : Int}
theorem zF7 (hx : ev e x = .int k a) (hy : ev e y = .int k b) (h : K (.int k (k.wrap (a + b))) w) : Run1 P ⟨d, .binOp .add t x y u, ty, pos, af, g⟩ e w K :=
  zM0 .add hx hy (fun w => by simp [binOp, Op.intArith]) h
theorem zQ5 (hx : ev e x = .int k a) (hy : ev e y = .int k b) (h : K (.int k (k.wrap (a - b))) w) : Run1 P ⟨d, .binOp .sub t x y u, ty, pos, af, g⟩ e w K :=
  zM0 .sub hx hy (fun w => by simp [binOp, Op.intArith]) h
theorem zW2 (hx : ev e x = .int k a) (hy : ev e y = .int k b) (h : K (.int k (k.wrap (a * b))) w) : Run1 P ⟨d, .binOp .mul t x y u, ty, pos, af, g⟩ e w K :=
  zM0 .mul hx hy (fun w => by simp [binOp, Op.intArith]) h
theorem zC3 (hx : ev e x = .int k a) (hy : ev e y = .int k b) (hr : inR k (a + b)) (h : K (.int k (a + b)) w) : Run1 P ⟨d, .binOp .add t x y u, ty, pos, af, g⟩ e w K :=
  zF7 hx hy (by rw [zJ6 hr]; exact h)
theorem zL2 (hx : ev e x = .int k a) (hy : ev e y = .int k b) (hr : inR k (a - b)) (h : K (.int k (a - b)) w) : Run1 P ⟨d, .binOp .sub t x y u, ty, pos, af, g⟩ e w K :=
  zQ5 hx hy (by rw [zJ6 hr]; exact h)
theorem qC2 (hx : ev e x = .int k a) (hy : ev e y = .int k b) (hr : inR k (a * b)) (h : K (.int k (a * b)) w) : Run1 P ⟨d, .binOp .mul t x y u, ty, pos, af, g⟩ e w K :=
  zW2 hx hy (by rw [zJ6 hr]; exact h)
theorem qT4 (hx : ev e x = .int k a) (hy : ev e y = .int k b) (h0 : 0 ≤ a) (h1 : 0 < b) (hr : inR k (a / b)) (h : K (.int k (a / b)) w) : Run1 P ⟨d, .binOp .quo t x y u, ty, pos, af, g⟩ e w K :=
  zM0 .quo hx hy (fun w => by
    have hb : b ≠ 0 := by omega
    simp only [binOp, Op.intDiv, hb, ne_eq, not_true_eq_false, if_false, Sem.run_pure]
    rw [Int.tdiv_eq_ediv_of_nonneg h0, zJ6 hr]) h
theorem yW1 (hx : ev e x = .int k a) (hy : ev e y = .int k b) (h1 : b ≠ 0) (h : K (.int k (k.wrap (a.tdiv b))) w) : Run1 P ⟨d, .binOp .quo t x y u, ty, pos, af, g⟩ e w K :=
  zM0 .quo hx hy (fun w => by simp only [binOp, Op.intDiv, h1, ne_eq, not_true_eq_false, if_false, Sem.run_pure]) h
theorem qJ0 (hx : ev e x = .int k a) (hy : ev e y = .int k b) (h0 : 0 ≤ a) (h1 : 0 < b) (h : K (.int k (a % b)) w) : Run1 P ⟨d, .binOp .rem t x y u, ty, pos, af, g⟩ e w K :=
  zM0 .rem hx hy (fun w => by
    have hb : b ≠ 0 := by omega
    simp only [binOp, Op.intDiv, hb, ne_eq, not_true_eq_false, if_false, Sem.run_pure]
    rw [Int.tmod_eq_emod_of_nonneg h0]) h
theorem yL4 (hx : ev e x = .int k a) (hy : ev e y = .int k b) (h1 : b ≠ 0) (h : K (.int k (a.tmod b)) w) : Run1 P ⟨d, .binOp .rem t x y u, ty, pos, af, g⟩ e w K :=
  zM0 .rem hx hy (fun w => by simp only [binOp, Op.intDiv, h1, ne_eq, not_true_eq_false, if_false, Sem.run_pure]) h
def qC3 (op : BinOp) (k : IntKind) (a b : Int) : Int :=
  k.wrap (match op with
    | .and => (BitVec.ofInt k.bits a &&& BitVec.ofInt k.bits b).toNat
    | .or => (BitVec.ofInt k.bits a ||| BitVec.ofInt k.bits b).toNat
    | .xor => (BitVec.ofInt k.bits a ^^^ BitVec.ofInt k.bits b).toNat
    | _ => (BitVec.ofInt k.bits a &&& ~~~BitVec.ofInt k.bits b).toNat)
theorem yX2 (hx : ev e x = .int k a) (hy : ev e y = .int k b) (h : K (.int k (qC3 .and k a b)) w) : Run1 P ⟨d, .binOp .and t x y u, ty, pos, af, g⟩ e w K :=
  zM0 .and hx hy (fun w => by simp [binOp, Op.intBits, qC3]) h
theorem r_or (hx : ev e x = .int k a) (hy : ev e y = .int k b) (h : K (.int k (qC3 .or k a b)) w) : Run1 P ⟨d, .binOp .or t x y u, ty, pos, af, g⟩ e w K :=
  zM0 .or hx hy (fun w => by simp [binOp, Op.intBits, qC3]) h
theorem qZ2 (hx : ev e x = .int k a) (hy : ev e y = .int k' b) (h0 : 0 ≤ b) (h : K (.int k (k.wrap (a * 2 ^ min b.toNat k.bits))) w) : Run1 P ⟨d, .binOp .shl t x y u, ty, pos, af, g⟩ e w K :=
  zE3 (w' := w) (by
    simp only [execOp, hx, hy, Sem.run_bind, eqGuard, binOp, shift_shl_any k k' a b h0, Sem.run_pure, Result.andThen_ok]
    rfl) h
theorem yR5 (hx : ev e x = .int k a) (hy : ev e y = .int k' b) (h0 : 0 ≤ b) (h : K (.int k (a / 2 ^ min b.toNat k.bits)) w) : Run1 P ⟨d, .binOp .shr t x y u, ty, pos, af, g⟩ e w K :=
  zE3 (w' := w) (by
    simp only [execOp, hx, hy, Sem.run_bind, eqGuard, binOp, shift_shr_any k k' a b h0, Sem.run_pure, Result.andThen_ok]
    rfl) h
theorem zZ3 {m : Int} (hx : ev e x = .int k a) (hy : ev e y = .int k' b) (hm : 2 ^ min b.toNat k.bits = m) (h0 : 0 ≤ b) (hr : inR k (a * m)) (h : K (.int k (a * m)) w) : Run1 P ⟨d, .binOp .shl t x y u, ty, pos, af, g⟩ e w K :=
  qZ2 hx hy h0 (by rw [hm, zJ6 hr]; exact h)
theorem zS6 {m : Int} (hx : ev e x = .int k a) (hy : ev e y = .int k' b) (hm : 2 ^ min b.toNat k.bits = m) (h0 : 0 ≤ b) (h : K (.int k (k.wrap (a * m))) w) : Run1 P ⟨d, .binOp .shl t x y u, ty, pos, af, g⟩ e w K :=
  qZ2 hx hy h0 (by rw [hm]; exact h)
/-! ### tests on numbers: decided, or open -/
theorem zE2 (hx : ev e x = .int k a) (hy : ev e y = .int k b) (h : K (.bool (decide (a = b))) w) : Run1 P ⟨d, .binOp .eql t x y u, ty, pos, af, g⟩ e w K :=
  zM0 .eql hx hy (fun w => by simp only [binOp, Op.intCmp, ne_eq, not_true_eq_false, if_false, Sem.run_pure]; rfl) h
theorem zI5 (hx : ev e x = .int k a) (hy : ev e y = .int k b) (h : K (.bool (decide (a ≠ b))) w) : Run1 P ⟨d, .binOp .neq t x y u, ty, pos, af, g⟩ e w K :=
  zM0 .neq hx hy (fun w => by
    simp only [binOp, Op.intCmp, ne_eq, not_true_eq_false, if_false, Sem.run_pure]
    congr 2; by_cases hab : a = b <;> simp [hab]) h
theorem zI1 (hx : ev e x = .int k a) (hy : ev e y = .int k b) (h : K (.bool (decide (a < b))) w) : Run1 P ⟨d, .binOp .lss t x y u, ty, pos, af, g⟩ e w K :=
  zM0 .lss hx hy (fun w => by simp only [binOp, Op.intCmp, ne_eq, not_true_eq_false, if_false, Sem.run_pure]) h
theorem zQ6 (hx : ev e x = .int k a) (hy : ev e y = .int k b) (h : K (.bool (decide (a ≤ b))) w) : Run1 P ⟨d, .binOp .leq t x y u, ty, pos, af, g⟩ e w K :=
  zM0 .leq hx hy (fun w => by simp only [binOp, Op.intCmp, ne_eq, not_true_eq_false, if_false, Sem.run_pure]) h
theorem zQ7 (hx : ev e x = .int k a) (hy : ev e y = .int k b) (h : K (.bool (decide (a > b))) w) : Run1 P ⟨d, .binOp .gtr t x y u, ty, pos, af, g⟩ e w K :=
  zM0 .gtr hx hy (fun w => by simp only [binOp, Op.intCmp, ne_eq, not_true_eq_false, if_false, Sem.run_pure]) h
theorem qE5 (hx : ev e x = .int k a) (hy : ev e y = .int k b) (h : K (.bool (decide (a ≥ b))) w) : Run1 P ⟨d, .binOp .geq t x y u, ty, pos, af, g⟩ e w K :=
  zM0 .geq hx hy (fun w => by simp only [binOp, Op.intCmp, ne_eq, not_true_eq_false, if_false, Sem.run_pure]) h
theorem zQ8 (hx : ev e x = .int k a) (hy : ev e y = .int k b) (hc : a = b) (h : K (.bool true) w) : Run1 P ⟨d, .binOp .eql t x y u, ty, pos, af, g⟩ e w K := zE2 hx hy (by rw [decide_eq_true hc]; exact h)
theorem qP6 (hx : ev e x = .int k a) (hy : ev e y = .int k b) (hc : ¬ a = b) (h : K (.bool false) w) : Run1 P ⟨d, .binOp .eql t x y u, ty, pos, af, g⟩ e w K := zE2 hx hy (by rw [decide_eq_false hc]; exact h)
theorem yX3 (hx : ev e x = .int k a) (hy : ev e y = .int k b) (hc : a ≠ b) (h : K (.bool true) w) : Run1 P ⟨d, .binOp .neq t x y u, ty, pos, af, g⟩ e w K := zI5 hx hy (by rw [decide_eq_true hc]; exact h)
theorem yL5 (hx : ev e x = .int k a) (hy : ev e y = .int k b) (hc : a = b) (h : K (.bool false) w) : Run1 P ⟨d, .binOp .neq t x y u, ty, pos, af, g⟩ e w K := zI5 hx hy (by rw [decide_eq_false (not_not_intro hc)]; exact h)
theorem yX4 (hx : ev e x = .int k a) (hy : ev e y = .int k b) (hc : a < b) (h : K (.bool true) w) : Run1 P ⟨d, .binOp .lss t x y u, ty, pos, af, g⟩ e w K := zI1 hx hy (by rw [decide_eq_true hc]; exact h)
theorem yL6 (hx : ev e x = .int k a) (hy : ev e y = .int k b) (hc : ¬ a < b) (h : K (.bool false) w) : Run1 P ⟨d, .binOp .lss t x y u, ty, pos, af, g⟩ e w K := zI1 hx hy (by rw [decide_eq_false hc]; exact h)
theorem zW3 (hx : ev e x = .int k a) (hy : ev e y = .int k b) (hc : a ≤ b) (h : K (.bool true) w) : Run1 P ⟨d, .binOp .leq t x y u, ty, pos, af, g⟩ e w K := zQ6 hx hy (by rw [decide_eq_true hc]; exact h)
theorem zW4 (hx : ev e x = .int k a) (hy : ev e y = .int k b) (hc : ¬ a ≤ b) (h : K (.bool false) w) : Run1 P ⟨d, .binOp .leq t x y u, ty, pos, af, g⟩ e w K := zQ6 hx hy (by rw [decide_eq_false hc]; exact h)
theorem yX5 (hx : ev e x = .int k a) (hy : ev e y = .int k b) (hc : a > b) (h : K (.bool true) w) : Run1 P ⟨d, .binOp .gtr t x y u, ty, pos, af, g⟩ e w K := zQ7 hx hy (by rw [decide_eq_true hc]; exact h)
theorem yL7 (hx : ev e x = .int k a) (hy : ev e y = .int k b) (hc : ¬ a > b) (h : K (.bool false) w) : Run1 P ⟨d, .binOp .gtr t x y u, ty, pos, af, g⟩ e w K := zQ7 hx hy (by rw [decide_eq_false hc]; exact h)
theorem yX6 (hx : ev e x = .int k a) (hy : ev e y = .int k b) (hc : a ≥ b) (h : K (.bool true) w) : Run1 P ⟨d, .binOp .geq t x y u, ty, pos, af, g⟩ e w K := qE5 hx hy (by rw [decide_eq_true hc]; exact h)
theorem yX7 (hx : ev e x = .int k a) (hy : ev e y = .int k b) (hc : ¬ a ≥ b) (h : K (.bool false) w) : Run1 P ⟨d, .binOp .geq t x y u, ty, pos, af, g⟩ e w K := qE5 hx hy (by rw [decide_eq_false hc]; exact h)
theorem zM1 {p : Bool} (hx : ev e x = .bool p) (h : K (.bool (!p)) w) : Run1 P ⟨d, .unOp .not t x, ty, pos, af, g⟩ e w K :=
  zE3 (w' := w) (by simp only [execOp, hx, Op.unary, Sem.run_bind, Sem.run_pure, Result.andThen_ok]) h
theorem zJ2 [hs : UndI P t] [hu : IntI P u k] (hx : ev e x = .int k' a) (h : K (.int k (k.wrap a)) w) : Run1 P ⟨d, .convert t u x, ty, pos, af, g⟩ e w K := by
  obtain ⟨ds, hs⟩ := hs.h
  have hu := hu.h
  refine zE3 (w' := w) (v := .int k (k.wrap a)) ?_ h
  simp only [execOp, hx, convert, underlying, program, Sem.run_bind, Sem.run, hs, hu, Sem.run_pure, Result.andThen_ok, Conv.intToInt]
theorem zH8 [hs : UndI P t] [hu : IntI P u k] (hx : ev e x = .int k' a) (hr : inR k a) (h : K (.int k a) w) : Run1 P ⟨d, .convert t u x, ty, pos, af, g⟩ e w K :=
  zJ2 hx (by rw [zJ6 hr]; exact h)
/-! ### calls -/
def Ret (F : Value → World → Prop) : Ending → World → Prop := fun r w' => ∃ v, r = .returned v ∧ F v w'
def zC5 (P : Program) (f : FuncId) (args : Array Value) (w : World) (x : Value) : Prop := Calls P f args w (Ret fun v w' => v = x ∧ Grow w w')
def qM9 (e : Env) (fst : Array Value) (args : Array Operand) (cap : Array Value) : List Value := fst.toList ++ (args.toList.map (ev e) ++ cap.toList)
theorem zC8 {f : FuncId} {fv : Operand} {args : Array Operand} {at_ : Array TypeId} {fst cap : Array Value} {F : Value → World → Prop}
    (hx : ev e fv = .func (.func f) fst cap) [hfi : FuncI P f]
    (hc : Calls P f (qM9 e fst args cap).toArray w (Ret F)) (h : ∀ v w', F v w' → K v w') : Run1 P ⟨d, .call ⟨.value fv, args, at_⟩, ty, pos, af, g⟩ e w K := by
  obtain ⟨fn, hf, hn⟩ := hfi.h
  simp only [Bool.or_eq_false_iff, beq_eq_false_iff_ne] at hn
  obtain ⟨hn1, hn2⟩ := hn
  have ha : fst ++ args.map (ev e) ++ cap = (qM9 e fst args cap).toArray := by
    apply Array.ext'
    simp [qM9]
  have hr : (execOp (ev e) ⟨d, .call ⟨.value fv, args, at_⟩, ty, pos, af, g⟩).run P w = .ok (.enter f (qM9 e fst args cap).toArray) w := by
    simp only [execOp, resolve, hx, Deferred.ofValue, Sem.run_bind, Sem.run_pure, Result.andThen_ok, invoke, ha]
    have hn3 : ¬ fn.body = none := fun h => by rw [h] at hn2; simp at hn2
    simp [callFunc, program, Sem.run, hf, hn1, hn3]
  unfold Run1
  rw [hr]
  exact hc.mono fun r w' ⟨v, hv, hF⟩ => ⟨v, hv, h v w' hF⟩
theorem zA2 {f : FuncId} {fv : Operand} {args : Array Operand} {at_ : Array TypeId} {fst cap : Array Value} {v : Value}
    (hx : ev e fv = .func (.func f) fst cap) [hfi : FuncI P f]
    (hc : zC5 P f (qM9 e fst args cap).toArray w v) (h : ∀ w', Grow w w' → K v w') : Run1 P ⟨d, .call ⟨.value fv, args, at_⟩, ty, pos, af, g⟩ e w K :=
  zC8 hx hc fun _ w' ⟨hv, hg⟩ => by subst hv; exact h w' hg
theorem zK6 {P : Program} {f : FuncId} {args : Array Value} {w : World} {x y : Value} (h : zC5 P f args w x) (e : x = y) : zC5 P f args w y := e ▸ h
theorem zC0 {f : FuncId} {fn : Func} {c : Code} {args : Array Value} {F : Value → World → Prop} {n : Nat} {rs : List ResultVar}
    (hf : P.funcs[f]? = some fn) (hn : fn.ntmps = n) (hr : fn.results = rs.toArray) (hb : fn.body = some c) (hle : Nat.ble args.size n = true)
    (h : W P n c (RetQ P rs (Ret F)) ⟨fun i => args.getD i undef, [], none⟩ w) : Calls P f args w (Ret F) := yH0 hf hb hn (by rw [hr]) hle h
theorem zB1 {f : FuncId} {fn : Func} {c : Code} {args : Array Value} {x : Value} {n : Nat} {rs : List ResultVar}
    (hf : P.funcs[f]? = some fn) (hn : fn.ntmps = n) (hr : fn.results = rs.toArray) (hb : fn.body = some c) (hle : Nat.ble args.size n = true)
    (h : W P n c (RetQ P rs (Ret fun v w' => v = x ∧ Grow w w')) ⟨fun i => args.getD i undef, [], none⟩ w) : zC5 P f args w x := zC0 hf hn hr hb hle h
end
structure Upd (b : Nat) (w w' : World) : Prop where
  os : w'.os = w.os
  tape : w'.tape = w.tape
  output : w'.output = w.output
  size : w'.heap.size = w.heap.size
  other : ∀ k, k ≠ b → w'.heap[k]? = w.heap[k]?
theorem Upd.below {b n : Nat} {w w' : World} (h : Upd b w w') (hn : n ≤ b) : Below n w w' := ⟨h.os, h.tape, h.output, by rw [h.size]; exact Nat.le_refl _, fun k hk => h.other k (by omega)⟩
theorem Upd.heap {b k : Nat} {w w' : World} {o : Obj} (h : Upd b w w') (hk : w.heap[k]? = some o) (hne : k ≠ b) : w'.heap[k]? = some o := by rw [h.other k hne]; exact hk
theorem Grow.upd {b : Nat} {w w' w'' : World} (g : Grow w w') (h : Upd b w' w'') (hb : w.heap.size ≤ b) : Grow w w'' := Below.trans g (h.below hb)
theorem zC1 {w : World} {b : Nat} {o : Obj} (h : w.heap[b]? = some o) : b < w.heap.size := (Array.getElem?_eq_some_iff.1 h).1
theorem zT2 (w : World) (o : Obj) : Grow w (w.alloc o) := (Below.refl _ w).alloc (Nat.le_refl _) o
def tyS (P : Program) (t : TypeId) : Option (Nat × Bool) :=
  match P.info? t, P.underlying t with
  | some i, some d => some (i.size, match d with | .struct _ | .array _ _ => true | _ => false)
  | _, _ => none
def fldS (P : Program) (s : TypeId) (f : Nat) : Option Nat :=
  match P.underlying s with
  | some (.struct fs) => (match fs[f]? with
    | some x => (match P.info? x.type with | some i => if i.size = 0 then none else some x.offset | none => none)
    | none => none)
  | _ => none
def jB1 (P : Program) (t : TypeId) : Option (Array Value) := ((P.info? t).bind (·.zero)).map Value.cells
def elS (P : Program) (t : TypeId) : Option (TypeId × Nat) :=
  match P.underlying t with
  | some (.slice el) => (match P.info? el with | some i => some (el, i.size) | none => none)
  | _ => none
class TyI (P : Program) (t : TypeId) (n : outParam Nat) (ag : outParam Bool) : Prop where
  h : tyS P t = some (n, ag)
class FldI (P : Program) (t : TypeId) (f : Nat) (off : outParam Nat) : Prop where
  h : fldS P t f = some off
class ZeroI (P : Program) (t : TypeId) (cs : outParam (Array Value)) : Prop where
  h : jB1 P t = some cs
class ElI (P : Program) (t : TypeId) (el : outParam TypeId) (sz : outParam Nat) : Prop where
  h : elS P t = some (el, sz)
class ConcI (P : Program) (t : TypeId) : Prop where
  h : P.concrete t = true
section
variable {P : Program} {ops : Array Oper} {Q : Ex → Env → World → Prop} {e : Env} {w : World} {K : Value → World → Prop} {r : List Oper}
variable {d : Option Nat} {ty : TypeId} {pos : String} {af : Array Edge} {g : Option (Nat × Bool)}
variable {t u : TypeId} {x y : Operand} {k k' : IntKind} {a c : Int}
theorem zB2 {cs : Array Value} [hzi : ZeroI P t cs]
    (h : ∀ (b : Nat) (w' : World), w.heap.size ≤ b → w'.heap[b]? = some (.cells cs t (0, 0)) → Grow w w' → K (.pointer (some ⟨b, 0, none⟩)) w') : Run1 P ⟨d, .alloc t, ty, pos, af, g⟩ e w K := by
  have hz := hzi.h
  unfold jB1 at hz
  cases hi : P.info? t with
  | none => rw [hi] at hz; simp at hz
  | some i =>
    rw [hi] at hz
    cases hzz : i.zero with
    | none => simp [hzz] at hz
    | some z =>
      simp only [Option.bind_some, hzz, Option.map_some, Option.some.injEq] at hz
      refine zE3 (v := .pointer (some ⟨w.heap.size, 0, none⟩)) (w' := w.alloc (.cells cs t (0, 0))) ?_ (h _ _ (Nat.le_refl _) (heap_alloc_new w _) (zT2 w _))
      simp [execOp, Instr.alloc, zeroValue, typeInfo, program, Sem.run, hi, hzz, newVar, newRow, newObj, hz]
theorem yR6 {v : Value} {cs : Array Value} (hx : ev e x = v) (hc : v.cells = cs)
    (h : ∀ (b : Nat) (w' : World), w.heap.size ≤ b → w'.heap[b]? = some (.cells cs t (0, 0)) → Grow w w' → K (.pointer (some ⟨b, 0, none⟩)) w') : Run1 P ⟨d, .box t x, ty, pos, af, g⟩ e w K := by
  refine zE3 (v := .pointer (some ⟨w.heap.size, 0, none⟩)) (w' := w.alloc (.cells cs t (0, 0))) ?_ (h _ _ (Nat.le_refl _) (heap_alloc_new w _) (zT2 w _))
  simp [execOp, Instr.box, newVar, newRow, newObj, Sem.run, hx, hc]
theorem zA7 {parts : Array (Nat × Operand)} {v : Value} (hv : ∀ w : World, (Instr.build t (parts.map fun (i, x) => (i, ev e x))).run P w = .ok v w) (h : K v w) : Run1 P ⟨d, .build t parts, ty, pos, af, g⟩ e w K :=
  zE3 (w' := w) (by simp only [execOp, Sem.run_bind]; rw [hv w]; rfl) h
theorem zB4 {parts : Array (Nat × Operand)} {n : Nat} {cs : Array Value} {el : TypeId}
    (hv : ∀ w : World, (Instr.buildSlice t n (parts.map fun (i, x) => (i, ev e x))).run P w = .ok (.slice (some ⟨w.heap.size, 0, none⟩) n n) (w.alloc (.cells cs el (0, 0))))
    (h : ∀ (b : Nat) (w' : World), w.heap.size ≤ b → w'.heap[b]? = some (.cells cs el (0, 0)) → Grow w w' → K (.slice (some ⟨b, 0, none⟩) n n) w') : Run1 P ⟨d, .buildSlice t n parts, ty, pos, af, g⟩ e w K :=
  zE3 (v := .slice (some ⟨w.heap.size, 0, none⟩) n n) (w' := w.alloc (.cells cs el (0, 0))) (by simp only [execOp, Sem.run_bind]; rw [hv w]; rfl) (h _ _ (Nat.le_refl _) (heap_alloc_new w _) (zT2 w _))
theorem add_lit (b o n : Nat) : (⟨b, o, none⟩ : Addr).add n = ⟨b, o + n, none⟩ := by
  unfold Addr.add; split
  · rename_i h; subst h; rfl
  · rfl
theorem zB6 {f b o off : Nat} [hfi : FldI P t f off] (hx : ev e x = .pointer (some ⟨b, o, none⟩)) (h : K (.pointer (some ⟨b, o + off, none⟩)) w) : Run1 P ⟨d, .fieldAddr t x f, ty, pos, af, g⟩ e w K := by
  refine zE3 (w' := w) (v := .pointer (some ⟨b, o + off, none⟩)) ?_ h
  have hf := hfi.h
  unfold fldS at hf
  split at hf
  · rename_i fs hu
    split at hf
    · rename_i fl hfl
      split at hf
      · rename_i i hi
        split at hf
        · cases hf
        · rename_i hz
          simp only [Option.some.injEq] at hf
          subst hf
          simp only [execOp, Instr.fieldAt, underlying, program, Sem.run_bind, Sem.run, hu, hx, Instr.sureAddr, Sem.run_pure, Result.andThen_ok, hfl, fieldPlace, sizeOf, typeInfo, hi, hz, if_false, add_lit]
      · cases hf
    · cases hf
  · cases hf
theorem zW5 {b o : Nat} {cs : Array Value} {T : TypeId} {fr : Nat × Nat} (hb : w.heap[b]? = some (.cells cs T fr)) : w.cell? ⟨b, o, none⟩ = cs[o]? := cell_of_row w b o cs T fr hb
theorem zD1 {b o n : Nat} {cs : Array Value} {T : TypeId} {fr : Nat × Nat} {v : Value} [hti : TyI P t n false] (hx : ev e x = .pointer (some ⟨b, o, none⟩))
    (hb : w.heap[b]? = some (.cells cs T fr)) (hv : cs[o]? = some v) (h : K v w) : Run1 P ⟨d, .load t x, ty, pos, af, g⟩ e w K := by
  refine zE3 (w' := w) (v := v) ?_ h
  have ht := hti.h
  unfold tyS at ht
  split at ht
  · rename_i i dd hi hu
    simp only [Option.some.injEq, Prod.mk.injEq] at ht
    have hagg : (isAgg t).run P w = .ok false w := by
      simp only [isAgg, underlying, program, Sem.run_bind, Sem.run, hu, Result.andThen_ok]
      cases dd <;> first | rfl | simp at ht
    simp only [execOp, Instr.loadAt, hx, Instr.sureAddr, loadVar, Sem.run_bind, Sem.run_pure, Result.andThen_ok, hagg]
    simp [zW5 hb, hv]
  · cases ht
theorem zF8 {b o n : Nat} {cs vs : Array Value} {T : TypeId} {fr : Nat × Nat} [hti : TyI P t n true] (hx : ev e x = .pointer (some ⟨b, o, none⟩))
    (hb : w.heap[b]? = some (.cells cs T fr)) (hn : Nat.ble (o + n) cs.size = true) (hv : ((cs.toList.drop o).take n).toArray = vs) (h : K (.agg vs) w) : Run1 P ⟨d, .load t x, ty, pos, af, g⟩ e w K := by
  refine zE3 (w' := w) (v := .agg vs) ?_ h
  have ht := hti.h
  unfold tyS at ht
  split at ht
  · rename_i i dd hi hu
    simp only [Option.some.injEq, Prod.mk.injEq] at ht
    have hagg : (isAgg t).run P w = .ok true w := by
      simp only [isAgg, underlying, program, Sem.run_bind, Sem.run, hu, Result.andThen_ok]
      cases dd <;> first | rfl | simp at ht
    have hn := Nat.le_of_ble_eq_true hn
    have hsz : vs.size = n := by rw [← hv]; simp; omega
    have hvl : vs.toList = (cs.toList.drop o).take n := by rw [← hv]
    have hc := run_loadCells_list (P := P) (w := w) ⟨b, o, none⟩ vs.toList (fun j v hj => by
      rw [add_lit, zW5 hb]
      rw [hvl, List.getElem?_take] at hj
      split at hj
      · rw [List.getElem?_drop] at hj; simpa using hj
      · cases hj)
    simp only [Array.length_toList, hsz] at hc
    simp only [execOp, Instr.loadAt, hx, Instr.sureAddr, loadVar, sizeOf, typeInfo, program, Sem.run_bind, Sem.run, Sem.run_pure, Result.andThen_ok, hagg, hi, ht.1, if_true, hc]
  · cases ht
def zV9 (cs : Array Value) (o : Nat) (vs : Array Value) : Array Value := (cs.toList.take o ++ vs.toList ++ cs.toList.drop (o + vs.size)).toArray
theorem qJ1 {cs vs : Array Value} {o : Nat} (h : o + vs.size ≤ cs.size) : (zV9 cs o vs).size = cs.size := by
  simp [zV9]; omega
theorem qA0 {b o n : Nat} {ag : Bool} {cs vs cs' : Array Value} {T : TypeId} {v : Value} [hti : TyI P t n ag] (hx : ev e x = .pointer (some ⟨b, o, none⟩)) (hy : ev e y = v) (hc : v.cells = vs)
    (hb : w.heap[b]? = some (.cells cs T (0, 0))) (hn : vs.size = n) (hf : Nat.ble (o + n) cs.size = true) (h1 : vs.toList.all Value.oneCell' = true) (hcs : zV9 cs o vs = cs')
    (h : ∀ w' : World, w'.heap[b]? = some (.cells cs' T (0, 0)) → Upd b w w' → K undef w') : Run1 P ⟨d, .store t x y, ty, pos, af, g⟩ e w K := by
  subst hcs
  have hf := Nat.le_of_ble_eq_true hf
  have hst := run_storeCells_at P b o T vs.toList 0 cs w hb (by simp; omega) (List.all_eq_true.1 h1)
  simp only [Nat.add_zero, Array.length_toList] at hst
  refine yL3 (w' := w.setRow b (zV9 cs o vs)) ?_ (h _ (setRow_heap w b cs _ T (0, 0) hb) ⟨rfl, rfl, rfl, by simp, fun k hk => ?_⟩)
  · have ht := hti.h
    unfold tyS at ht
    split at ht
    · rename_i i dd hi hu
      simp only [Option.some.injEq, Prod.mk.injEq] at ht
      simp only [execOp, Instr.storeAt, hx, hy, Instr.sureAddr, storeVar, sizeOf, typeInfo, program, Sem.run_bind, Sem.run, Sem.run_pure, Result.andThen_ok, hi, hc, hn, ht.1, ne_eq, not_true_eq_false, if_false]
      rw [hst]
      rfl
    · cases ht
  · simp only [World.setRow, Array.getElem?_modify]
    rw [if_neg (fun h => hk h.symm)]
theorem zD4 {b o n c sz : Nat} {el : TypeId} {i : Int} [hui : ElI P t el sz] (hx : ev e x = .slice (some ⟨b, o, none⟩) n c) (hy : ev e y = .int k i) (h0 : 0 ≤ i) (h1 : i < n)
    (h : K (.pointer (some ⟨b, o + i.toNat * sz, none⟩)) w) : Run1 P ⟨d, .indexAddr t x y, ty, pos, af, g⟩ e w K := by
  refine zE3 (w' := w) (v := .pointer (some ⟨b, o + i.toNat * sz, none⟩)) ?_ h
  have hu := hui.h
  unfold elS at hu
  split at hu
  · rename_i el' hul
    split at hu
    · rename_i inf hi
      simp only [Option.some.injEq, Prod.mk.injEq] at hu
      obtain ⟨rfl, rfl⟩ := hu
      simp [execOp, Instr.indexAt, hx, hy, asIntOf, underlying, program, Sem.run, hul, h0, h1, sizeOf, typeInfo, hi, add_lit]
    · cases hu
  · cases hu
theorem qA1 {n c : Nat} {ad : Option Addr} {t2 : TypeId} {at_ : Array TypeId} {xs : Array Operand} (hxs : xs = #[x]) (hat : at_ = #[t2]) {el : TypeId} {sz : Nat} [hui : ElI P t2 el sz] (hx : ev e x = .slice ad n c) (h : K (.int .i64 n) w) :
    Run1 P ⟨d, .call ⟨.builtin .len, xs, at_⟩, ty, pos, af, g⟩ e w K := by
  subst hxs; subst hat
  refine zE3 (w' := w) (v := .int .i64 n) ?_ h
  have hu := hui.h
  unfold elS at hu
  split at hu
  · rename_i el' hul
    simp [execOp, resolve, invoke, builtin, Builtin.len_, hx, underlying, program, Sem.run, hul, goInt]
  · cases hu
theorem qJ2 [hc : ConcI P t] {v : Value} (hx : ev e x = v) (h : K (.iface t v) w) : Run1 P ⟨d, .makeInterface t x, ty, pos, af, g⟩ e w K :=
  zE3 (w' := w) (v := .iface t v) (by simp [execOp, hx, run_makeInterface w t v hc.h]) h
theorem zT3 {f : Fn} {p q : Array Operand} {vs us : List Value} (hp : p.toList.map (ev e) = vs) (hq : q.toList.map (ev e) = us) (h : K (.func f vs.toArray us.toArray) w) : Run1 P ⟨d, .makeFunc f p q, ty, pos, af, g⟩ e w K := by
  have h1 : p.map (ev e) = vs.toArray := by apply Array.ext'; simp [hp]
  have h2 : q.map (ev e) = us.toArray := by apply Array.ext'; simp [hq]
  exact zE3 (w' := w) (v := .func f vs.toArray us.toArray) (by simp [execOp, Instr.makeFunc, h1, h2]) h
theorem zE5 {a : Addr} (hx : ev e x = .pointer (some a)) (h : K (.pointer (some a)) w) : Run1 P ⟨d, .nilCheck x, ty, pos, af, g⟩ e w K :=
  zE3 (w' := w) (v := .pointer (some a)) (by simp [execOp, hx]) h
theorem zA1 {t : Tmp} {v : Value} (h : e t = v) : Res1 P e w (.tmp t) v := h.symm
theorem zA9 {t : Tmp} {k : IntKind} {n : Int} (h : e t = .int k n) : Res1 P e w (.tmp t) (.int k n) := h.symm
theorem zO5 {t : Tmp} {b : Bool} (h : e t = .bool b) : Res1 P e w (.tmp t) (.bool b) := h.symm
theorem yR7 {a : Tmp} {b o n : Nat} {cs vs : Array Value} {T : TypeId} {fr : Nat × Nat} [hti : TyI P t n true] (hx : e a = .pointer (some ⟨b, o, none⟩))
    (hb : w.heap[b]? = some (.cells cs T fr)) (hn : Nat.ble (o + n) cs.size = true) (hv : ((cs.toList.drop o).take n).toArray = vs) : Res1 P e w (.cell a t) (.agg vs) := by
  have ht := hti.h
  unfold tyS at ht
  split at ht
  · rename_i i dd hi hu
    simp only [Option.some.injEq, Prod.mk.injEq] at ht
    have hagg : (isAgg t).run P w = .ok true w := by
      simp only [isAgg, underlying, program, Sem.run_bind, Sem.run, hu, Result.andThen_ok]
      cases dd <;> first | rfl | simp at ht
    have hn := Nat.le_of_ble_eq_true hn
    have hsz : vs.size = n := by rw [← hv]; simp; omega
    have hvl : vs.toList = (cs.toList.drop o).take n := by rw [← hv]
    have hc := run_loadCells_list (P := P) (w := w) ⟨b, o, none⟩ vs.toList (fun j v hj => by
      rw [add_lit, zW5 hb]
      rw [hvl, List.getElem?_take] at hj
      split at hj
      · rw [List.getElem?_drop] at hj; simpa using hj
      · cases hj)
    simp only [Array.length_toList, hsz] at hc
    simp only [Res1, hx, asAddr, loadVar, sizeOf, typeInfo, program, Sem.run_bind, Sem.run, Sem.run_pure, Result.andThen_ok, hagg, hi, ht.1, if_true, hc]
  · cases ht
theorem jB2 {F : Value → World → Prop} (h : F (.tuple #[]) w) (hm : e.ms = [] := by rfl) : RetQ P [] (Ret F) .normal e w := ⟨w, by rw [hm]; rfl, [], trivial, _, rfl, h⟩
theorem ret1 {rv : ResultVar} {F : Value → World → Prop} {v : Value} (h1 : Res1 P e w rv v) (h : F v w) (hm : e.ms = [] := by rfl) : RetQ P [rv] (Ret F) .ret e w := ⟨w, by rw [hm]; rfl, [v], ⟨h1, trivial⟩, _, rfl, h⟩
theorem ret2 {r1 r2 : ResultVar} {F : Value → World → Prop} {v1 v2 : Value} (h1 : Res1 P e w r1 v1) (h2 : Res1 P e w r2 v2) (h : F (.tuple #[v1, v2]) w) (hm : e.ms = [] := by rfl) : RetQ P [r1, r2] (Ret F) .ret e w := ⟨w, by rw [hm]; rfl, [v1, v2], ⟨h1, h2, trivial⟩, _, rfl, h⟩
theorem ret3 {r1 r2 r3 : ResultVar} {F : Value → World → Prop} {v1 v2 v3 : Value} (h1 : Res1 P e w r1 v1) (h2 : Res1 P e w r2 v2) (h3 : Res1 P e w r3 v3) (h : F (.tuple #[v1, v2, v3]) w) (hm : e.ms = [] := by rfl) : RetQ P [r1, r2, r3] (Ret F) .ret e w := ⟨w, by rw [hm]; rfl, [v1, v2, v3], ⟨h1, h2, h3, trivial⟩, _, rfl, h⟩
theorem retM {rs : List ResultVar} {vs : List Value} {F : Value → World → Prop} {w' : World} (hk : yG8 P e.ms w w') (h1 : ResL P e w' rs vs) (h : F (one vs) w') : RetQ P rs (Ret F) .ret e w := ⟨w', hk, vs, h1, _, rfl, h⟩
theorem yD9 {cs : Array Value} {n : Nat} (hn : cs.size = n) : ((cs.toList.drop 0).take n).toArray = cs := by
  apply Array.ext'
  simp only [List.drop_zero]
  rw [List.take_of_length_le (by simp; omega)]
theorem zB0 {a : Tmp} {b n : Nat} {cs : Array Value} {t T : TypeId} {fr : Nat × Nat} [hti : TyI P t n true] (hx : e a = .pointer (some ⟨b, 0, none⟩))
    (hb : w.heap[b]? = some (.cells cs T fr)) (hn : cs.size = n) : Res1 P e w (.cell a t) (.agg cs) := yR7 hx hb (by rw [Nat.zero_add, hn]; exact Nat.ble_self_eq_true n) (yD9 hn)
theorem zC7 {b n : Nat} {cs : Array Value} {T : TypeId} {fr : Nat × Nat} [hti : TyI P t n true] (hx : ev e x = .pointer (some ⟨b, 0, none⟩))
    (hb : w.heap[b]? = some (.cells cs T fr)) (hn : cs.size = n) (h : K (.agg cs) w) : Run1 P ⟨d, .load t x, ty, pos, af, g⟩ e w K := zF8 hx hb (by rw [Nat.zero_add, hn]; exact Nat.ble_self_eq_true n) (yD9 hn) h
/-! ### the same, by the value's form -/
theorem yL8 {cs : Array Value} (hx : ev e x = .agg cs)
    (h : ∀ (b : Nat) (w' : World), w.heap.size ≤ b → w'.heap[b]? = some (.cells cs t (0, 0)) → Grow w w' → K (.pointer (some ⟨b, 0, none⟩)) w') : Run1 P ⟨d, .box t x, ty, pos, af, g⟩ e w K := yR6 hx rfl h
theorem yL9 {k : IntKind} {n : Int} (hx : ev e x = .int k n)
    (h : ∀ (b : Nat) (w' : World), w.heap.size ≤ b → w'.heap[b]? = some (.cells #[.int k n] t (0, 0)) → Grow w w' → K (.pointer (some ⟨b, 0, none⟩)) w') : Run1 P ⟨d, .box t x, ty, pos, af, g⟩ e w K := yR6 hx rfl h
theorem qZ3 {a : Option Addr} {n c : Nat} (hx : ev e x = .slice a n c)
    (h : ∀ (b : Nat) (w' : World), w.heap.size ≤ b → w'.heap[b]? = some (.cells #[.slice a n c] t (0, 0)) → Grow w w' → K (.pointer (some ⟨b, 0, none⟩)) w') : Run1 P ⟨d, .box t x, ty, pos, af, g⟩ e w K := yR6 hx rfl h
theorem yH2 {b n : Nat} {ag : Bool} {cs vs : Array Value} {T : TypeId} [hti : TyI P t n ag] (hx : ev e x = .pointer (some ⟨b, 0, none⟩)) (hy : ev e y = .agg vs)
    (hb : w.heap[b]? = some (.cells cs T (0, 0))) (hn : vs.size = n) (hf : cs.size = n) (h1 : vs.toList.all Value.oneCell' = true)
    (h : ∀ w' : World, w'.heap[b]? = some (.cells vs T (0, 0)) → Upd b w w' → K undef w') : Run1 P ⟨d, .store t x y, ty, pos, af, g⟩ e w K :=
  qA0 hx hy rfl hb hn (by rw [Nat.zero_add, hf]; exact Nat.ble_self_eq_true n) h1 (by
    apply Array.ext'
    simp only [zV9, Value.cells, List.take_zero, List.nil_append, Nat.zero_add]
    rw [List.drop_eq_nil_of_le (by simp; omega)]
    simp) h
theorem zC2 {b o : Nat} {cs cs' : Array Value} {T : TypeId} {v : Value} [hti : TyI P t 1 false] (hx : ev e x = .pointer (some ⟨b, o, none⟩)) (hy : ev e y = v) (hone : v.oneCell' = true)
    (hb : w.heap[b]? = some (.cells cs T (0, 0))) (hf : Nat.ble (o + 1) cs.size = true) (hcs : (cs.toList.set o v).toArray = cs')
    (h : ∀ w' : World, w'.heap[b]? = some (.cells cs' T (0, 0)) → Upd b w w' → K undef w') : Run1 P ⟨d, .store t x y, ty, pos, af, g⟩ e w K := by
  have hc : v.cells = #[v] := by cases v <;> first | rfl | simp [Value.oneCell'] at hone
  refine qA0 hx hy hc hb rfl hf (by simp [hone]) ?_ h
  rw [← hcs]
  have hf' := Nat.le_of_ble_eq_true hf
  apply Array.ext'
  simp only [zV9, List.size_toArray, List.length_cons, List.length_nil]
  rw [List.set_eq_take_append_cons_drop, if_pos (by simp; omega)]
  simp
theorem yX8 {f off : Nat} (hf : fldS P t f = some off) : ∃ fs fl, P.underlying t = some (.struct fs) ∧ fs[f]? = some fl ∧ fl.offset = off := by
  unfold fldS at hf
  split at hf
  · rename_i fs hu
    split at hf
    · rename_i fl hfl
      split at hf
      · split at hf
        · cases hf
        · exact ⟨fs, fl, hu, hfl, by simpa using hf⟩
      · cases hf
    · cases hf
  · cases hf
def ftS (P : Program) (s : TypeId) (f : Nat) : Option TypeId :=
  match P.underlying s with
  | some (.struct fs) => (fs[f]?).map (·.type)
  | _ => none
class FtI (P : Program) (s : TypeId) (f : Nat) (t : outParam TypeId) : Prop where
  h : ftS P s f = some t
theorem yM0 {f off : Nat} {ft : TypeId} {cs : Array Value} {v : Value} [hfi : FldI P t f off] [hft : FtI P t f ft] [hti : TyI P ft 1 false] (hx : ev e x = .agg cs) (hv : cs[off]? = some v) (h : K v w) : Run1 P ⟨d, .field t x f, ty, pos, af, g⟩ e w K := by
  obtain ⟨fs, fl, hu, hfl, ho⟩ := yX8 hfi.h
  have hft := hft.h
  unfold ftS at hft
  rw [hu] at hft
  simp only [hfl, Option.map_some, Option.some.injEq] at hft
  subst hft
  subst ho
  have ht := hti.h
  unfold tyS at ht
  split at ht
  · rename_i i dd hi hu2
    simp only [Option.some.injEq, Prod.mk.injEq] at ht
    have hagg : (isAgg fl.type).run P w = .ok false w := by
      simp only [isAgg, underlying, program, Sem.run_bind, Sem.run, hu2, Result.andThen_ok]
      cases dd <;> first | rfl | simp at ht
    refine zE3 (w' := w) (v := v) ?_ h
    simp [execOp, Instr.field, underlying, program, Sem.run, hu, hfl, hx, asAgg, part, hagg, hv]
  · cases ht
theorem qP7 {p : Bool} (hx : ev e x = .bool p) (hp : p = false := by first | rfl | assumption) (h : K (.bool true) w) : Run1 P ⟨d, .unOp .not t x, ty, pos, af, g⟩ e w K := zM1 hx (by subst hp; exact h)
theorem qJ3 {p : Bool} (hx : ev e x = .bool p) (hp : p = true := by first | rfl | assumption) (h : K (.bool false) w) : Run1 P ⟨d, .unOp .not t x, ty, pos, af, g⟩ e w K := zM1 hx (by subst hp; exact h)
theorem qN0 {b : Builtin} {xs : Array Operand} {at_ : Array TypeId} {v : Value} (hv : ∀ w : World, (builtin b at_ ty (xs.map fun | .const _ => true | _ => false) (xs.map (ev e))).run P w = .ok (.value v) w) (h : K v w) :
    Run1 P ⟨d, .call ⟨.builtin b, xs, at_⟩, ty, pos, af, g⟩ e w K :=
  zE3 (w' := w) (v := v) (by simp only [execOp, resolve, invoke, Sem.run_bind, Sem.run_pure, Result.andThen_ok]; exact hv w) h
section
variable {at_ : Array TypeId} {b : Int} {xs : Array Operand}
theorem qA2 (hxs : xs = #[x, y]) (hx : ev e x = .int k a) (hy : ev e y = .int k' b) (h : K (.int k (if b < a then b else a)) w) : Run1 P ⟨d, .call ⟨.builtin .min, xs, at_⟩, ty, pos, af, g⟩ e w K := by
  subst hxs
  exact qN0 (fun w => by
    have := run_min_int2 (P := P) w at_ ty k k' a b
    simp [builtin, hx, hy, this]) h
theorem qT5 (hxs : xs = #[x, y]) (hx : ev e x = .int k a) (hy : ev e y = .int k' b) (h : K (.int k (if b > a then b else a)) w) : Run1 P ⟨d, .call ⟨.builtin .max, xs, at_⟩, ty, pos, af, g⟩ e w K := by
  subst hxs
  exact qN0 (fun w => by
    have := run_max_int2 (P := P) w at_ ty k k' a b
    simp [builtin, hx, hy, this]) h
theorem qA3 (hxs : xs = #[x, y]) (hx : ev e x = .int k a) (hy : ev e y = .int k' b) (hc : a ≤ b) (h : K (.int k a) w) : Run1 P ⟨d, .call ⟨.builtin .min, xs, at_⟩, ty, pos, af, g⟩ e w K :=
  qA2 hxs hx hy (by rw [if_neg (by omega)]; exact h)
theorem qA4 (hxs : xs = #[x, y]) (hx : ev e x = .int k a) (hy : ev e y = .int k' b) (hc : b ≤ a) (h : K (.int k b) w) : Run1 P ⟨d, .call ⟨.builtin .min, xs, at_⟩, ty, pos, af, g⟩ e w K :=
  qA2 hxs hx hy (by
    by_cases hlt : b < a
    · rw [if_pos hlt]; exact h
    · rw [if_neg hlt, show a = b from by omega]; exact h)
theorem yM1 (hxs : xs = #[x, y]) (hx : ev e x = .int k a) (hy : ev e y = .int k' b) (hc : b ≤ a) (h : K (.int k a) w) : Run1 P ⟨d, .call ⟨.builtin .max, xs, at_⟩, ty, pos, af, g⟩ e w K :=
  qT5 hxs hx hy (by rw [if_neg (by omega)]; exact h)
theorem yM2 (hxs : xs = #[x, y]) (hx : ev e x = .int k a) (hy : ev e y = .int k' b) (hc : a ≤ b) (h : K (.int k b) w) : Run1 P ⟨d, .call ⟨.builtin .max, xs, at_⟩, ty, pos, af, g⟩ e w K :=
  qT5 hxs hx hy (by
    by_cases hlt : b > a
    · rw [if_pos hlt]; exact h
    · rw [if_neg hlt, show a = b from by omega]; exact h)
end
end
inductive FK where
  | i (k : IntKind) | b
  deriving DecidableEq
def yM3 (P : Program) : List Field → Nat → Option (List FK)
  | [], _ => some []
  | f :: fs, n =>
    if f.name ≠ "_" && f.offset == n then
      match P.underlying f.type, tyS P f.type, yM3 P fs (n + 1) with
      | some (.int k), some (1, false), some r => some (.i k :: r)
      | some .bool, some (1, false), some r => some (.b :: r)
      | _, _, _ => none
    else none
def yX9 (P : Program) (t : TypeId) : Option (List FK) :=
  match P.underlying t with
  | some (.struct fs) => if P.stoodInHeld t || P.eqGuardType P.depth t then none else yM3 P fs.toList 0
  | _ => none
class FlatI (P : Program) (t : TypeId) (ks : outParam (List FK)) : Prop where
  h : yX9 P t = some ks
def zN8 : List FK → List Value → List Value → Option Bool
  | [], [], [] => some true
  | .i k :: ks, .int k1 a :: xs, .int k2 b :: ys => bif decide (k1 = k2) then (match zN8 ks xs ys with | some r => some (decide (a = b) && r) | none => none) else none
  | .b :: ks, .bool a :: xs, .bool b :: ys => match zN8 ks xs ys with | some r => some ((a == b) && r) | none => none
  | _, _, _ => none
theorem qC4 {P : Program} {t : TypeId} {n : Nat} {v : Value} {w : World} {xs : Array Value} (ht : tyS P t = some (1, false)) (hv : xs[n]? = some v) : (part t xs n).run P w = .ok v w := by
  unfold tyS at ht
  split at ht
  · rename_i i dd hi hu
    simp only [Option.some.injEq, Prod.mk.injEq] at ht
    have hagg : (isAgg t).run P w = .ok false w := by
      simp only [isAgg, underlying, program, Sem.run_bind, Sem.run, hu, Result.andThen_ok]
      cases dd <;> first | rfl | simp at ht
    simp [part, Sem.run_bind, hagg, hv]
  · cases ht
theorem qC5 {xs : Array Value} {n : Nat} {x : Value} {xr : List Value} (h : xs.toList.drop n = x :: xr) : xs[n]? = some x ∧ xs.toList.drop (n + 1) = xr := by
  have h1 : xs.toList[n]? = (xs.toList.drop n)[0]? := by simp
  rw [h] at h1
  refine ⟨by simpa using h1, ?_⟩
  rw [← List.drop_drop, h]; rfl
theorem zU9 {P : Program} {w : World} (d : Nat) (xs ys : Array Value) : ∀ (fs : List Field) (n : Nat) (ks : List FK) (r : Bool), yM3 P fs n = some ks →
    zN8 ks (xs.toList.drop n) (ys.toList.drop n) = some r → (Op.eqFields (d + 1) xs ys fs).run P w = .ok r w
  | [], n, ks, r, hf, he => by
    simp only [yM3, Option.some.injEq] at hf
    subst hf
    have : r = true := by
      cases hx : xs.toList.drop n <;> cases hy : ys.toList.drop n <;> simp only [hx, hy, zN8] at he <;> first | (cases he; rfl) | cases he
    subst this
    simp [Op.eqFields]
  | f :: fs, n, ks, r, hf, he => by
    unfold yM3 at hf
    split at hf
    · rename_i hn
      simp only [ne_eq, Bool.and_eq_true, decide_eq_true_eq, beq_iff_eq] at hn
      obtain ⟨hnm, ho⟩ := hn
      split at hf
      · rename_i k r' hu ht hr
        cases hf
        cases hx : xs.toList.drop n with
        | nil => rw [hx] at he; simp [zN8] at he
        | cons x xr =>
          cases hy : ys.toList.drop n with
          | nil => rw [hx, hy] at he; cases x <;> simp [zN8] at he
          | cons y yr =>
            rw [hx, hy] at he
            cases x <;> try (simp [zN8] at he; done)
            rename_i kx a
            cases y <;> try (simp [zN8] at he; done)
            rename_i ky b
            obtain ⟨hx0, hx1⟩ := qC5 hx
            obtain ⟨hy0, hy1⟩ := qC5 hy
            simp only [zN8] at he
            by_cases hkk : kx = ky
            case neg => simp [hkk] at he
            subst hkk
            simp only [decide_true, cond_true] at he
            split at he
            · rename_i r2 hr2
              cases he
              have ih := zU9 (P := P) (w := w) d xs ys fs (n + 1) _ r2 hr (by rw [hx1, hy1]; exact hr2)
              have hab : (a == b) = decide (a = b) := by by_cases h : a = b <;> simp [h]
              simp only [Op.eqFields, hnm, ne_eq, not_false_eq_true, if_true, Sem.run_bind, ho, qC4 ht hx0, qC4 ht hy0, Result.andThen_ok, run_equalIn_int w d f.type kx k a b hu, hab]
              by_cases h : a = b
              · simp [h, ih]
              · simp [h]
            · cases he
      · rename_i r' hu ht hr
        cases hf
        cases hx : xs.toList.drop n with
        | nil => rw [hx] at he; simp [zN8] at he
        | cons x xr =>
          cases hy : ys.toList.drop n with
          | nil => rw [hx, hy] at he; cases x <;> simp [zN8] at he
          | cons y yr =>
            rw [hx, hy] at he
            cases x <;> try (simp [zN8] at he; done)
            rename_i a
            cases y <;> try (simp [zN8] at he; done)
            rename_i b
            obtain ⟨hx0, hx1⟩ := qC5 hx
            obtain ⟨hy0, hy1⟩ := qC5 hy
            simp only [zN8] at he
            split at he
            · rename_i r2 hr2
              cases he
              have ih := zU9 (P := P) (w := w) d xs ys fs (n + 1) _ r2 hr (by rw [hx1, hy1]; exact hr2)
              simp only [Op.eqFields, hnm, ne_eq, not_false_eq_true, if_true, Sem.run_bind, ho, qC4 ht hx0, qC4 ht hy0, Result.andThen_ok, run_equalIn_bool' w d f.type a b hu]
              cases hab : (a == b)
              · simp
              · simp [ih]
            · cases he
      · cases hf
    · cases hf
section
variable {P : Program} {e : Env} {w : World} {K : Value → World → Prop} {d : Option Nat} {ty : TypeId} {pos : String} {af : Array Edge} {g : Option (Nat × Bool)} {t u : TypeId} {x y : Operand}
theorem yE0 {ks : List FK} {xs ys : Array Value} {r : Bool} (hf : yX9 P t = some ks) (he : zN8 ks xs.toList ys.toList = some r) :
    P.eqGuardType P.depth t = false ∧ (Op.equalIn 10000 t (.agg xs) (.agg ys)).run P w = .ok r w := by
  unfold yX9 at hf
  split at hf
  · rename_i fs hu
    split at hf
    · cases hf
    · rename_i hs
      simp only [Bool.or_eq_true, not_or, Bool.not_eq_true] at hs
      refine ⟨hs.2, ?_⟩
      have hfo : P.fieldsOf t = fs := by simp [Program.fieldsOf, hu]
      rw [run_equalIn_struct w 9999 t xs ys (by rw [hfo]; exact hu) hs.1, hfo]
      exact zU9 9998 xs ys fs.toList 0 ks r hf (by simpa using he)
  · cases hf
theorem jB3 {ks : List FK} {xs ys : Array Value} {r : Bool} [hf : FlatI P t ks] (hx : ev e x = .agg xs) (hy : ev e y = .agg ys) (he : zN8 ks xs.toList ys.toList = some r) (h : K (.bool r) w) : Run1 P ⟨d, .binOp .eql t x y u, ty, pos, af, g⟩ e w K := by
  obtain ⟨hm, hr⟩ := yE0 (w := w) hf.h he
  exact zE3 (w' := w) (by simp only [execOp, hx, hy, Sem.run_bind, run_eqGuard_agg w .eql t x y xs ys hm, run_eql_struct, hr, Result.andThen_ok, Sem.run_pure]) h
theorem zZ4 {ks : List FK} {xs ys : Array Value} {r : Bool} [hf : FlatI P t ks] (hx : ev e x = .agg xs) (hy : ev e y = .agg ys) (he : zN8 ks xs.toList ys.toList = some r) (h : K (.bool (!r)) w) : Run1 P ⟨d, .binOp .neq t x y u, ty, pos, af, g⟩ e w K := by
  obtain ⟨hm, hr⟩ := yE0 (w := w) hf.h he
  exact zE3 (w' := w) (by simp only [execOp, hx, hy, Sem.run_bind, run_eqGuard_agg w .neq t x y xs ys hm, run_neq_struct, hr, Result.andThen_ok, Sem.run_pure]) h
theorem r_eqlS' {ks : List FK} {xs ys : Array Value} {r r' : Bool} [hf : FlatI P t ks] (hx : ev e x = .agg xs) (hy : ev e y = .agg ys) (he : zN8 ks xs.toList ys.toList = some r) (hr : r = r') (h : K (.bool r') w) : Run1 P ⟨d, .binOp .eql t x y u, ty, pos, af, g⟩ e w K :=
  jB3 hx hy he (by rw [hr]; exact h)
end
/-! ### what a loop's head knows of its frame -/
def frs : List (Nat × Value) → Env → Env
  | [], e => e
  | (d, v) :: l, e => Env.set (frs l e) d v
def FrOk (e : Env) : List (Nat × Value) → Prop
  | [] => True
  | (d, v) :: l => e d = v ∧ FrOk e l
def FrM (ms : List Deferred) (ro : Option Nat) (l : List (Nat × Value)) (e : Env) : Prop := ∃ g : Nat → Value, e = frs l ⟨g, ms, ro⟩
abbrev Fr := FrM [] none
theorem zD2 {ms : List Deferred} {ro : Option Nat} {l : List (Nat × Value)} {e : Env} (h : FrOk e l) (hm : e.ms = ms := by rfl) (hr : e.ro = ro := by rfl) : FrM ms ro l e := by
  refine ⟨e.get, ?_⟩
  subst hm; subst hr
  show e = frs l e
  induction l with
  | nil => rfl
  | cons p l ih =>
    obtain ⟨d, v⟩ := p
    obtain ⟨h1, h2⟩ := h
    have := ih h2
    simp only [frs]
    rw [← this]
    refine Env.ext' (fun i => ?_) rfl rfl
    by_cases hi : i = d
    · subst hi; rw [zR6]; exact h1
    · rw [zW1 _ _ hi]
structure RowAt (w : World) (sz : Nat) (ad : Option Addr) (n : Nat) (xs : List Value) : Prop where
  len : xs.length = n * sz
  lim : n ≤ 140737488355328
  at_ : 0 < n → ∃ b o cs T fr, ad = some ⟨b, o, none⟩ ∧ w.heap[b]? = some (.cells cs T fr) ∧ (cs.toList.drop o).take (n * sz) = xs
def Row (w : World) (sz : Nat) (v : Value) (n : Nat) (xs : List Value) : Prop := ∃ ad c, v = .slice ad n c ∧ n ≤ c ∧ c ≤ maxLen ∧ RowAt w sz ad n xs
theorem RowAt.keep {w w' : World} {sz : Nat} {ad : Option Addr} {n : Nat} {xs : List Value} (h : RowAt w sz ad n xs) (g : ∀ a cs T fr, ad = some a → w.heap[a.block]? = some (.cells cs T fr) → w'.heap[a.block]? = some (.cells cs T fr)) : RowAt w' sz ad n xs :=
  ⟨h.len, h.lim, fun hn => by
    obtain ⟨b, o, cs, T, fr, rfl, hb, hx⟩ := h.at_ hn
    exact ⟨b, o, cs, T, fr, rfl, g _ _ _ _ rfl hb, hx⟩⟩
theorem RowAt.grow {w w' : World} {sz : Nat} {ad : Option Addr} {n : Nat} {xs : List Value} (h : RowAt w sz ad n xs) (g : Grow w w') : RowAt w' sz ad n xs := h.keep fun _ _ _ _ _ hb => g.heap hb
theorem Row.grow {w w' : World} {sz : Nat} {v : Value} {n : Nat} {xs : List Value} (h : Row w sz v n xs) (g : Grow w w') : Row w' sz v n xs := by
  obtain ⟨ad, c, h1, h2, h3, h4⟩ := h
  exact ⟨ad, c, h1, h2, h3, h4.grow g⟩
theorem Row.nil (w : World) (sz : Nat) : Row w sz (.slice none 0 0) 0 [] := ⟨none, 0, rfl, Nat.le_refl _, Nat.zero_le _, by simp, by omega, fun h => by omega⟩
theorem Row.of_block {w : World} {sz b n : Nat} {cs : Array Value} {T : TypeId} {fr : Nat × Nat} {xs : List Value} (hb : w.heap[b]? = some (.cells cs T fr)) (hc : cs.toList = xs) (hn : xs.length = n * sz) (hl : n ≤ 140737488355328) : Row w sz (.slice (some ⟨b, 0, none⟩) n n) n xs :=
  ⟨_, n, rfl, Nat.le_refl _, by simp only [maxLen]; omega, hn, hl, fun _ => ⟨b, 0, cs, T, fr, rfl, hb, by rw [List.drop_zero, hc, ← hn, List.take_length]⟩⟩
theorem Row.of_own {w : World} {sz base n : Nat} {T : TypeId} {v : Value} {xs : List Value} (h : w.ownsRow base T sz v n xs) (hl : n ≤ 140737488355328) : Row w sz v n xs := by
  obtain ⟨h1, h2⟩ := h
  rcases h2 with ⟨rfl, rfl⟩ | ⟨g, cap, cur, rfl, _, hg, hnc, hcm, hcs, ht⟩
  · have : xs = [] := List.eq_nil_of_length_eq_zero (by simpa using h1)
    subst this
    exact Row.nil _ _
  · exact ⟨_, cap, rfl, hnc, hcm, h1, hl, fun _ => ⟨g, 0, cur, T, (0, 0), rfl, hg, by rw [List.drop_zero]; exact ht⟩⟩
theorem zL6 {cs : Array Value} {o m i : Nat} {xs : List Value} {x : Value} (h : (cs.toList.drop o).take m = xs) (hi : xs[i]? = some x) : cs[o + i]? = some x := by
  rw [← h, List.getElem?_take] at hi
  split at hi
  · rw [List.getElem?_drop] at hi; simpa using hi
  · cases hi
theorem yR8 {cs : Array Value} {o m : Nat} {xs : List Value} (h : (cs.toList.drop o).take m = xs) (hl : xs.length = m) (hm : 0 < m) : o + m ≤ cs.size := by
  have := congrArg List.length h
  simp at this
  omega
theorem yE1 {cs : Array Value} {o m i k : Nat} {xs : List Value} (h : (cs.toList.drop o).take m = xs) (hk : i + k ≤ m) : (cs.toList.drop (o + i)).take k = (xs.drop i).take k := by
  rw [← h, List.drop_take, List.take_take, List.drop_drop, show min k (m - i) = k from by omega]
theorem RowAt.part {w : World} {sz n : Nat} {ad : Option Addr} {xs : List Value} (h : RowAt w sz ad n xs) (l k : Nat) (hk : l + k ≤ n) (hsz : 0 < sz) : RowAt w sz (ad.map (·.add (l * sz))) k ((xs.drop (l * sz)).take (k * sz)) := by
  have h3 : (l + k) * sz ≤ n * sz := Nat.mul_le_mul_right _ hk
  rw [Nat.add_mul] at h3
  refine ⟨by rw [List.length_take, List.length_drop, h.len]; omega, by have := h.lim; omega, fun hp => ?_⟩
  obtain ⟨b, o, cs, T, fr, rfl, hb, hx⟩ := h.at_ (by omega)
  refine ⟨b, o + l * sz, cs, T, fr, by simp [add_lit], hb, ?_⟩
  exact yE1 hx h3
theorem RowAt.empty (w : World) (sz : Nat) (ad : Option Addr) : RowAt w sz ad 0 [] := ⟨by simp, by omega, fun h => by omega⟩
theorem RowAt.sliceH {w : World} {sz n c m : Nat} {ad : Option Addr} {xs : List Value} (h : RowAt w sz ad n xs) (hc : n ≤ c) (hm : m ≤ n) (hsz : 0 < sz) : RowAt w sz (if c = 0 then ad else ad.map (·.add (0 * sz))) m (xs.take (m * sz)) := by
  split
  · have : m = 0 := by omega
    subst this
    rw [Nat.zero_mul, List.take_zero]
    exact RowAt.empty _ _ _
  · have := h.part 0 m (by omega) hsz
    simpa using this
theorem RowAt.sliceLH {w : World} {sz n c l m : Nat} {ad : Option Addr} {xs : List Value} (h : RowAt w sz ad n xs) (hc : n ≤ c) (hm : l + m ≤ n) (hsz : 0 < sz) : RowAt w sz (if c = l then ad else ad.map (·.add (l * sz))) m ((xs.drop (l * sz)).take (m * sz)) := by
  split
  · have : m = 0 := by omega
    subst this
    rw [Nat.zero_mul, List.take_zero]
    exact RowAt.empty _ _ _
  · exact h.part l m hm hsz
/-! ### trees -/
inductive Nd where
  | mk (kind size : Int) (words bytes : List Int) (kids : List Nd)
def Nd.kind : Nd → Int | .mk k _ _ _ _ => k
def Nd.words : Nd → List Int | .mk _ _ w _ _ => w
def Nd.bytes : Nd → List Int | .mk _ _ _ b _ => b
def Nd.kids : Nd → List Nd | .mk _ _ _ _ k => k
mutual
inductive NodeR (w : World) : List Value → Nd → Prop
  | mk {kind size : Int} {words bytes : List Int} {kids : List Nd} {ws bs ks : Value} {kc : List Value} : inR .i64 kind → inR .i64 size →
      Row w 1 ws words.length (words.map (.int .u64)) → (∀ x ∈ words, inR .u64 x) → Row w 1 bs bytes.length (bytes.map (.int .u8)) → (∀ x ∈ bytes, inR .u8 x) →
      Row w 5 ks kids.length kc → KidsR w kc kids → NodeR w [.int .i64 kind, .int .i64 size, ws, bs, ks] (.mk kind size words bytes kids)
inductive KidsR (w : World) : List Value → List Nd → Prop
  | nil : KidsR w [] []
  | cons {c cs : List Value} {t : Nd} {ts : List Nd} : NodeR w c t → KidsR w cs ts → KidsR w (c ++ cs) (t :: ts)
end
mutual
theorem NodeR.grow {w w' : World} (g : Grow w w') : ∀ {c : List Value} {t : Nd}, NodeR w c t → NodeR w' c t
  | _, _, .mk h1 h2 h3 h4 h5 h6 h7 h8 => .mk h1 h2 (h3.grow g) h4 (h5.grow g) h6 (h7.grow g) (KidsR.grow g h8)
theorem KidsR.grow {w w' : World} (g : Grow w w') : ∀ {c : List Value} {t : List Nd}, KidsR w c t → KidsR w' c t
  | _, _, .nil => .nil
  | _, _, .cons h1 h2 => .cons (NodeR.grow g h1) (KidsR.grow g h2)
end
theorem NodeR.len {w : World} {c : List Value} {t : Nd} (h : NodeR w c t) : c.length = 5 := by cases h; rfl
theorem KidsR.at_ {w : World} : ∀ {c : List Value} {ts : List Nd} (i : Nat) (t : Nd), KidsR w c ts → ts[i]? = some t → NodeR w ((c.drop (i * 5)).take 5) t
  | _, _, i, t, .nil, h => by simp at h
  | _, _, 0, t, .cons (c := c) (cs := cs) h1 h2, h => by
    simp only [List.getElem?_cons_zero, Option.some.injEq] at h
    subst h
    rw [Nat.zero_mul, List.drop_zero, List.take_left' h1.len]
    exact h1
  | _, _, i + 1, t, .cons (c := c) (cs := cs) h1 h2, h => by
    have := KidsR.at_ i t h2 (by simpa using h)
    rw [show (i + 1) * 5 = c.length + i * 5 from by rw [h1.len]; omega, ← List.drop_drop, List.drop_left]
    exact this
theorem KidsR.append {w : World} : ∀ {c d : List Value} {ts us : List Nd}, KidsR w c ts → KidsR w d us → KidsR w (c ++ d) (ts ++ us)
  | _, _, _, _, .nil, k => k
  | _, _, _, _, .cons h1 h2, k => by rw [List.append_assoc]; exact .cons h1 (KidsR.append h2 k)
/-! ### what is kept while own blocks change -/
structure Kp (F : List Nat) (w w' : World) : Prop where
  os : w'.os = w.os
  tape : w'.tape = w.tape
  output : w'.output = w.output
  size : w.heap.size ≤ w'.heap.size
  block : ∀ k, k < w.heap.size → k ∉ F → w'.heap[k]? = w.heap[k]?
theorem Kp.refl (F : List Nat) (w : World) : Kp F w w := ⟨rfl, rfl, rfl, Nat.le_refl _, fun _ _ _ => rfl⟩
theorem Kp.of_grow {F : List Nat} {w w' : World} (g : Grow w w') : Kp F w w' := ⟨g.os, g.tape, g.output, g.size, fun k hk _ => g.block k hk⟩
theorem Kp.of_upd {F : List Nat} {b : Nat} {w w' : World} (u : Upd b w w') (hb : b ∈ F) : Kp F w w' := ⟨u.os, u.tape, u.output, by rw [u.size]; exact Nat.le_refl _, fun k _ hk => u.other k (fun h => hk (h ▸ hb))⟩
theorem Kp.trans {F F' : List Nat} {a b c : World} (h : Kp F a b) (k : Kp F' b c) (hF : ∀ x ∈ F', x ∈ F ∨ a.heap.size ≤ x) : Kp F a c :=
  ⟨k.os.trans h.os, k.tape.trans h.tape, k.output.trans h.output, Nat.le_trans h.size k.size, fun i hi hn => by
    rw [k.block i (Nat.lt_of_lt_of_le hi h.size) (fun hm => (hF i hm).elim hn (by omega)), h.block i hi hn]⟩
theorem Kp.heap {F : List Nat} {w w' : World} (h : Kp F w w') {b : Nat} {o : Obj} (hb : w.heap[b]? = some o) (hn : b ∉ F) : w'.heap[b]? = some o := by
  rw [h.block b (zC1 hb) hn]; exact hb
theorem Kp.below {F : List Nat} {w w' : World} (h : Kp F w w') {a : Nat} (ha : ∀ x ∈ F, a ≤ x) (hw : a ≤ w.heap.size) : Below a w w' :=
  ⟨h.os, h.tape, h.output, h.size, fun k hk => h.block k (by omega) (fun hm => by have := ha k hm; omega)⟩
theorem Kp.grow {w w' : World} (h : Kp [] w w') : Grow w w' := ⟨h.os, h.tape, h.output, h.size, fun k hk => h.block k hk (by simp)⟩
theorem Kp.of_grownBy {F : List Nat} {row : Option Nat} {w w' : World} (h : w.grownBy w' row) (hr : ∀ k, row = some k → k ∈ F) : Kp F w w' :=
  ⟨h.os, h.tape, h.output, h.size, fun k hk hn => h.block k hk (fun e => hn (hr k e.symm))⟩
section
variable {P : Program} {ops : Array Oper} {Q : Ex → Env → World → Prop} {e : Env} {w : World} {K : Value → World → Prop} {r : List Oper}
variable {d : Option Nat} {ty : TypeId} {pos : String} {af : Array Edge} {g : Option (Nat × Bool)}
variable {t u : TypeId} {x y : Operand} {k k' : IntKind} {a c : Int}
theorem zW6 {el : TypeId} {sz : Nat} (hu : elS P t = some (el, sz)) : P.underlying t = some (.slice (P.elem t)) ∧ ∃ inf, P.info? (P.elem t) = some inf ∧ inf.size = sz := by
  unfold elS at hu
  split at hu
  · rename_i el' hul
    split at hu
    · rename_i inf hi'
      simp only [Option.some.injEq, Prod.mk.injEq] at hu
      obtain ⟨rfl, rfl⟩ := hu
      have he : P.elem t = el' := by simp [Program.elem, hul]
      exact ⟨by rw [he]; exact hul, inf, by rw [he]; exact hi', rfl⟩
    · cases hu
  · cases hu
theorem yM4 {n cap : Nat} {ad : Option Addr} {el : TypeId} {sz : Nat} [hui : ElI P t el sz] {lo hi : Operand} {l h : Int} (hx : ev e x = .slice ad n cap) (hl : ev e lo = .int k l) (hh : ev e hi = .int k' h) (h0 : 0 ≤ l) (h1 : l ≤ h) (h2 : h ≤ cap)
    (hK : K (.slice (if cap = l.toNat then ad else ad.map (·.add (l.toNat * sz))) (h.toNat - l.toNat) (cap - l.toNat)) w) : Run1 P ⟨d, .slice t x (some lo) (some hi) none, ty, pos, af, g⟩ e w K := by
  obtain ⟨hu, inf, hi', rfl⟩ := zW6 hui.h
  refine zE3 (w' := w) ?_ hK
  simp only [execOp, Option.map_some, Option.map_none, hx, hl, hh, Sem.run_bind, run_sliceAt_slice w t _ _ _ _ hu, run_slice_lh w t ad n cap hu k k' l h h0 h1 h2, sizeOf, typeInfo, program, Sem.run, hi', Sem.run_pure, Result.andThen_ok, sliced]
theorem qH9 {n cap : Nat} {ad : Option Addr} {el : TypeId} {sz : Nat} [hui : ElI P t el sz] {hi : Operand} {h : Int} (hx : ev e x = .slice ad n cap) (hh : ev e hi = .int k' h) (h0 : 0 ≤ h) (h2 : h ≤ cap)
    (hK : K (.slice (if cap = 0 then ad else ad.map (·.add (0 * sz))) h.toNat cap) w) : Run1 P ⟨d, .slice t x none (some hi) none, ty, pos, af, g⟩ e w K := by
  obtain ⟨hu, inf, hi', rfl⟩ := zW6 hui.h
  refine zE3 (w' := w) ?_ hK
  simp only [execOp, Option.map_some, Option.map_none, hx, hh, Sem.run_bind, run_sliceAt_slice w t _ _ _ _ hu, run_slice_h w t ad n cap hu k' h h0 h2, sizeOf, typeInfo, program, Sem.run, hi', Sem.run_pure, Result.andThen_ok, sliced, Nat.sub_zero]
theorem qP8 {n cap : Nat} {ad : Option Addr} {el : TypeId} {sz : Nat} [hui : ElI P t el sz] {lo : Operand} {l : Int} (hx : ev e x = .slice ad n cap) (hl : ev e lo = .int k l) (h0 : 0 ≤ l) (h1 : l ≤ n)
    (hK : K (.slice (if cap = l.toNat then ad else ad.map (·.add (l.toNat * sz))) (n - l.toNat) (cap - l.toNat)) w) : Run1 P ⟨d, .slice t x (some lo) none none, ty, pos, af, g⟩ e w K := by
  obtain ⟨hu, inf, hi', rfl⟩ := zW6 hui.h
  refine zE3 (w' := w) ?_ hK
  simp only [execOp, Option.map_some, Option.map_none, hx, hl, Sem.run_bind, run_sliceAt_slice w t _ _ _ _ hu, run_slice_l w t ad n cap hu k l h0 h1, sizeOf, typeInfo, program, Sem.run, hi', Sem.run_pure, Result.andThen_ok, sliced]
end
def elzS (P : Program) (t : TypeId) : Option (TypeId × Nat × Nat × Value) :=
  match P.underlying t with
  | some (.slice el) => (match P.info? el with
    | some i => (match i.zero with | some z => if z.cells.size = i.size ∧ 0 < i.size then some (el, i.size, i.bytes, z) else none | none => none)
    | none => none)
  | _ => none
class ElzI (P : Program) (t : TypeId) (el : outParam TypeId) (sz : outParam Nat) (by_ : outParam Nat) (z : outParam Value) : Prop where
  h : elzS P t = some (el, sz, by_, z)
theorem qN1 {P : Program} {t el : TypeId} {sz by_ : Nat} {z : Value} (h : elzS P t = some (el, sz, by_, z)) :
    P.underlying t = some (.slice el) ∧ ∃ i, P.info? el = some i ∧ i.zero = some z ∧ i.size = sz ∧ i.bytes = by_ ∧ z.cells.size = sz ∧ 0 < sz := by
  unfold elzS at h
  split at h
  · rename_i el' hul
    split at h
    · rename_i i hi
      split at h
      · rename_i z' hz
        split at h
        · rename_i hc
          simp only [Option.some.injEq, Prod.mk.injEq] at h
          obtain ⟨rfl, rfl, rfl, rfl⟩ := h
          exact ⟨hul, i, hi, hz, rfl, rfl, hc.1, hc.2⟩
        · cases h
      · cases h
    · cases h
  · cases h
section
variable {P : Program} {ops : Array Oper} {Q : Ex → Env → World → Prop} {e : Env} {w : World} {K : Value → World → Prop} {r : List Oper}
variable {d : Option Nat} {ty : TypeId} {pos : String} {af : Array Edge} {g : Option (Nat × Bool)}
variable {t u : TypeId} {x y : Operand} {k k' : IntKind} {a c : Int}
theorem zH1 {xs_ : Array Operand} {at_ : Array TypeId} (hxs : xs_ = #[x, y]) (hat : at_ = #[t, t]) {base n m : Nat} {el : TypeId} {sz by_ : Nat} {z v u : Value} {xs ys : List Value} [hz : ElzI P t el sz by_ z] (hx : ev e x = v) (hy : ev e y = u)
    (hown : w.ownsRow base el sz v n xs) (hr : Row w sz u m ys) (h1 : ∀ q ∈ ys, q.oneCell' = true) (hl : n + m ≤ maxLen) (hby : (n + m) * by_ ≤ 140737488355328) (hbase : base ≤ w.heap.size)
    (h : ∀ v' w', w'.ownsRow base el sz v' (n + m) (xs ++ ys) → w.grownBy w' v.ownBlock → K v' w') : Run1 P ⟨d, .call ⟨.builtin .append, xs_, at_⟩, ty, pos, af, g⟩ e w K := by
  subst hxs; subst hat
  obtain ⟨hu, i, hi, hzz, hsz, hbb, hzs, hpos⟩ := qN1 hz.h
  obtain ⟨ad, cp, rfl, hmc, _, hra⟩ := hr
  have go : ∀ v' w', (Builtin.append_ #[t, t] ty #[v, .slice ad m cp]).run P w = .ok v' w' → w'.ownsRow base el sz v' (n + m) (xs ++ ys) → w.grownBy w' v.ownBlock → Run1 P ⟨d, .call ⟨.builtin .append, #[x, y], #[t, t]⟩, ty, pos, af, g⟩ e w K := by
    intro v' w' hrun ho hg
    refine zE3 (v := v') (w' := w') ?_ (h v' w' ho hg)
    simp only [execOp, resolve, invoke, builtin, Sem.run_bind, Sem.run_pure, Result.andThen_ok, List.map_toArray, List.map_cons, List.map_nil, hx, hy, hrun]
  rcases Nat.eq_zero_or_pos m with hm | hm
  · subst hm
    have hys : ys = [] := List.eq_nil_of_length_eq_zero (by simpa using hra.len)
    subst hys
    cases ad with
    | none =>
      have hrun : (Builtin.append_ #[t, t] ty #[v, .slice none 0 cp]).run P w = .ok v w := by
        rcases hown.2 with ⟨rfl, rfl⟩ | ⟨gg, cap, cur, rfl, _, _, hnc, _⟩
        · simp [Builtin.append_, run_underlying hu, sizeOf, typeInfo, hi, Builtin.lenOf, Builtin.firstCells]
        · simp [Builtin.append_, run_underlying hu, sizeOf, typeInfo, hi, Builtin.lenOf, Builtin.firstCells, hnc, storeCells]
      exact go _ _ hrun (by simpa using hown) ⟨rfl, rfl, rfl, Nat.le_refl _, fun _ _ _ => rfl⟩
    | some ad =>
      obtain ⟨v', w', hrun, ho, hg, _⟩ := run_append_own (P := P) w base t ty el i z sz by_ hu hi hzz hsz hbb hzs hpos v n xs hown ad 0 cp [] (by simp) (fun j u hj => by simp at hj) (by simp) hl hby hbase
      exact go _ _ hrun ho hg
  · obtain ⟨b, o, cs, T, fr, rfl, hb, hrow⟩ := hra.at_ hm
    obtain ⟨v', w', hrun, ho, hg, _⟩ := run_append_own (P := P) w base t ty el i z sz by_ hu hi hzz hsz hbb hzs hpos v n xs hown ⟨b, o, none⟩ m cp ys hra.len (fun j u hj => by
      rw [add_lit, cell_of_row w b (o + j) cs T fr hb]
      exact zL6 hrow hj) h1 hl hby hbase
    exact go _ _ hrun ho hg
theorem jB4 {base : Nat} {n : Nat} {el : TypeId} {sz by_ : Nat} {z : Value} [hz : ElzI P t el sz by_ z] (hx : ev e x = .int k n) (hy : ev e y = .int k' n) (hby : by_ * n ≤ 281474976710656) (hl : n ≤ maxLen) (hbase : base ≤ w.heap.size)
    (h : ∀ b w', w.heap.size ≤ b → w'.ownsRow base el sz (.slice (some ⟨b, 0, none⟩) n n) n (madeCells z.cells (n * sz)).toList → Grow w w' → K (.slice (some ⟨b, 0, none⟩) n n) w') : Run1 P ⟨d, .makeSlice t x y, ty, pos, af, g⟩ e w K := by
  obtain ⟨hu, i, hi, hzz, hsz, hbb, hzs, hpos⟩ := qN1 hz.h
  obtain ⟨w', hrun, ho, hg⟩ := run_make_full (P := P) w base t el i z sz hu hi hzz hsz k k' n (by rw [hbb]; exact hby) hl hbase
  refine zE3 (v := .slice (some ⟨w.heap.size, 0, none⟩) n n) (w' := w') ?_ (h _ w' (Nat.le_refl _) ho ⟨hg.os, hg.tape, hg.output, hg.size, fun q hq => hg.block q hq (by simp)⟩)
  simp only [execOp, hx, hy, Sem.run_bind, hrun, Result.andThen_ok, Sem.run_pure]
/-! ### a cut: what comes behind so many parts knows only so much -/
theorem qT6 {n : Nat} {c1 c : Code} (M : Env → World → Prop) (h1 : W P n c1 (qthen M Q) e w) (h2 : ∀ e w, M e w → W P n c Q e w) : W P n (.seq c1 c) Q e w :=
  zU5 (W.mono (fun x e w h => by cases x <;> first | exact h2 _ _ h | exact h) h1)
theorem jB5 {n : Nat} {c1 c2 c : Code} (M : Env → World → Prop) (h1 : W P n c1 (qthen (W P n c2 (qthen M Q)) Q) e w) (h2 : ∀ e w, M e w → W P n c Q e w) : W P n (.seq c1 (.seq c2 c)) Q e w :=
  zU5 (W.mono (fun x e w h => by cases x <;> first | exact qT6 M h h2 | exact h) h1)
theorem yM5 {fv : Operand} {args : Array Operand} {at_ : Array TypeId} {l : Nat} (hx : ev e fv = .func (.yield l) #[] #[]) (h : qC0 P l (args.toList.map (ev e)).toArray w K) : Run1 P ⟨d, .call ⟨.value fv, args, at_⟩, ty, pos, af, g⟩ e w K := by
  have ha : (args.toList.map (ev e)).toArray = args.map (ev e) := by apply Array.ext'; simp
  rw [ha] at h
  obtain ⟨rc, hrc, hs, hr⟩ := h
  have hrun : (execOp (ev e) ⟨d, .call ⟨.value fv, args, at_⟩, ty, pos, af, g⟩).run P w = .ok (.round l rc.fn ((rc.params.zip (args.map (ev e))).foldl (fun tmps (t, a) => tmps.setIfInBounds t a) rc.tmps) rc.assign rc.body) w := by
    simp only [execOp, resolve, hx, Deferred.ofValue, Sem.run_bind, Sem.run_pure, Result.andThen_ok, invoke]
    simp [run_yield hrc hs]
  unfold Run1
  rw [hrun]
  exact hr
def qN2 : List Nat → List Value → Env → Env
  | p :: ps, a :: aa, e => qN2 ps aa (e.set p a)
  | _, _, e => e
theorem qJ4 (ro : Option Nat) : ∀ (ps : List Nat) (aa : List Value) (T : Array Value), (ps.all fun p => Nat.blt p T.size) = true →
    (⟨fun i => ((ps.zip aa).foldl (fun tmps (x : Nat × Value) => tmps.setIfInBounds x.1 x.2) T).getD i undef, [], ro⟩ : Env) = qN2 ps aa ⟨fun i => T.getD i undef, [], ro⟩
  | [], aa, T, _ => by simp [qN2]
  | _ :: _, [], T, _ => by simp [qN2]
  | p :: ps, a :: aa, T, h => by
    simp only [List.all_cons, Bool.and_eq_true] at h
    have hp : p < T.size := by simpa [Nat.blt_eq] using h.1
    simp only [List.zip_cons_cons, List.foldl_cons, qN2]
    rw [qJ4 ro ps aa (T.setIfInBounds p a) (by rw [Array.size_setIfInBounds]; exact h.2)]
    congr 1
    refine Env.ext' (fun i => ?_) rfl rfl
    show (T.setIfInBounds p a).getD i undef = Env.set _ p a i
    by_cases hi : i = p
    · subst hi
      rw [zR6]
      simp [Array.getD_eq_getD_getElem?, hp]
    · rw [zW1 _ _ hi]
      simp only [Array.getD_eq_getD_getElem?]
      rw [Array.getElem?_setIfInBounds_ne (by omega)]
theorem qJ5 {l n : Nat} {rc : Loop} {ps : List Nat} {vs : List Value} {gt : Nat → Value} (hl : w.heap[l]? = some (.loop rc)) (hp : rc.params = ps.toArray) (hlen : vs.length = ps.length) (hn : rc.tmps.size = n) (hle : (ps.all fun p => Nat.blt p n) = true) (he : ∀ i, rc.tmps.getD i undef = gt i)
    (h : W P n rc.assign (qthen (fun e1 w1 => ∃ r, w1.heap[l]? = some (.loop r) ∧ r.state = .ready ∧ W P n rc.body (yV9 P l K) e1 (w1.putObj l (.loop { r with state := .busy }))) (fun _ _ _ => False)) (qN2 ps vs ⟨gt, [], some l⟩) w) : qC0 P l vs.toArray w K := by
  refine ⟨rc, hl, by rw [hp]; simpa using hlen, ?_⟩
  have hz : (rc.params.zip vs.toArray).foldl (fun tmps (t, a) => tmps.setIfInBounds t a) rc.tmps = (ps.zip vs).foldl (fun tmps (x : Nat × Value) => tmps.setIfInBounds x.1 x.2) rc.tmps := by
    rw [hp, ← Array.foldl_toList]; simp
  rw [hz]
  have hs : ∀ (l : List (Nat × Value)) (T : Array Value), (l.foldl (fun tmps (x : Nat × Value) => tmps.setIfInBounds x.1 x.2) T).size = T.size := by
    intro l; induction l with
    | nil => intro T; rfl
    | cons a l ih => intro T; rw [List.foldl_cons, ih, Array.size_setIfInBounds]
  refine qY9 (n := n) (by rw [hs, hn]) ?_
  rw [qJ4 (some l) ps vs rc.tmps (by rw [hn]; exact hle)]
  have : (fun i => rc.tmps.getD i undef) = gt := funext he
  rw [this]
  exact h
theorem zW7 {l : Nat} {o o' : Obj} (h : w.heap[l]? = some o) : Upd l w (w.putObj l o') := ⟨rfl, rfl, rfl, World.putObj_size, fun k hk => World.putObj_heap_other hk⟩
theorem qI0 {l : Nat} {o o' : Obj} (h : w.heap[l]? = some o) : (w.putObj l o').heap[l]? = some o' := World.putObj_heap_same (zC1 h)
theorem qN3 {rc : Loop} (h1 : rc.state = .ready) (h2 : rc.pending = none) : ({ ({ rc with state := .busy } : Loop) with state := .ready, pending := none } : Loop) = rc := by
  cases rc; simp only at h1 h2; subst h1; subst h2; rfl
theorem qC0.mono {l : Nat} {args : Array Value} {K K' : Value → World → Prop} (hk : ∀ v w, K v w → K' v w) (h : qC0 P l args w K) : qC0 P l args w K' := by
  obtain ⟨rc, h1, h2, h3⟩ := h
  exact ⟨rc, h1, h2, h3.mono hk⟩
theorem yE2 {n : Nat} {gop : Operand} {ps : Array Tmp} {assign body : Code} {f : FuncId} {fst cap : Array Value} (hx : ev e gop = .func (.func f) fst cap) (hro : e.ro = none) [hfi : FuncI P f]
    (h : ∀ rc : Loop, rc.state = .ready → rc.pending = none → rc.params = ps → rc.assign = assign → rc.body = body → rc.tmps.size = n → (∀ i, rc.tmps.getD i undef = e i) →
      ∀ l w', l = w.heap.size + 1 → w'.heap[l]? = some (.loop rc) → w'.heap[w.heap.size]? = some (.deferred (some [])) → Grow w w' → w'.heap.size = w.heap.size + 2 →
      Calls P f (fst.toList ++ ([Value.func (.yield l) #[] #[]] ++ cap.toList)).toArray w' (yL0 l Q ⟨e.get, ⟨.collected w.heap.size, #[]⟩ :: e.ms, none⟩)) :
    W P n (.rangeFunc gop ps assign body) Q e w := by
  obtain ⟨fn, hf, hn⟩ := hfi.h
  simp only [Bool.or_eq_false_iff, beq_eq_false_iff_ne] at hn
  obtain ⟨hn1, hn2⟩ := hn
  have hn3 : ¬ fn.body = none := fun h => by rw [h] at hn2; simp at hn2
  refine yX0 (f := f) (d := fun l => ⟨.fn (.func f) cap, fst ++ #[.func (.yield l) #[] #[]]⟩) (args := fun l => fst ++ #[.func (.yield l) #[] #[]] ++ cap) hro (fun l w => ?_) (fun l w => ?_) (fun rc h1 h2 h3 h4 h5 h6 h7 => ?_)
  · have hm : #[Operand.const (Value.func (Fn.yield l) #[] #[])].map (ev e) = #[Value.func (Fn.yield l) #[] #[]] := by simp [ev]
    simp only [resolve, rangeCall, hx, Deferred.ofValue, Sem.run_pure, hm]
  · simp [invoke, callFunc, program, Sem.run, hf, hn1, hn3]
  · have ha : fst ++ #[.func (.yield (w.heap.size + 1)) #[] #[]] ++ cap = (fst.toList ++ ([Value.func (.yield (w.heap.size + 1)) #[] #[]] ++ cap.toList)).toArray := by apply Array.ext'; simp
    rw [ha]
    refine h rc h1 h2 h3 h4 h5 h6 h7 _ _ rfl ?_ ?_ ?_ ?_
    · have := World.alloc_heap_new (w.alloc (.deferred (some []))) (.loop rc)
      rw [World.size_alloc] at this
      exact this
    · rw [Below.heap_alloc _ _ _ (by rw [World.size_alloc]; omega)]
      exact World.alloc_heap_new w _
    · exact Grow.tr (zT2 w _) (zT2 _ _)
    · rw [World.size_alloc, World.size_alloc]
end
theorem qC6 (z : Value) (m : Nat) : (Builtin.zeroCells #[z] m).toList = List.replicate m z := by
  apply List.ext_getElem?
  intro j
  by_cases hj : j < m
  · simp [Builtin.zeroCells, hj, Nat.mod_one]
  · simp [Builtin.zeroCells, hj]
section
variable {P : Program} (w : World)
theorem qT7 (base : Nat) (t ti ty e : TypeId) (i : TypeInfo) (z : Value) (by_ : Nat) (ki : IntKind) (ht : P.underlying t = some (.slice e)) (hti : P.underlying ti = some (.int ki)) (hi : P.info? e = some i) (hz : i.zero = some z) (hzc : z.cells = #[z]) (hs1 : i.size = 1) (hby : i.bytes = by_)
    (h1 : z.oneCell' = true) (v : Value) (n : Nat) (xs : List Value) (hown : w.ownsRow base e 1 v n xs) (m : Nat) (hnm : n + m ≤ 140737488355328) (hmb : (n + m) * by_ ≤ 140737488355328) (hbase : base ≤ w.heap.size) :
    ∃ v' w', (Builtin.append_ #[t, ti] ty #[v, .int .i64 m]).run P w = .ok v' w' ∧ w'.ownsRow base e 1 v' (n + m) (xs ++ List.replicate m z) ∧ w.grownBy w' v.ownBlock := by
  subst hby
  have hmm : m * i.bytes ≤ 140737488355328 := Nat.le_trans (Nat.mul_le_mul_right _ (by omega)) hmb
  have hw : IntKind.i64.wrap (m : Int) = m := by rw [IntKind.wrap_i64]; omega
  have n1 : ¬ ((m : Int) < 0) := by omega
  have n2 : ¬ (281474976710656 < (m : Int) * (i.bytes : Int)) := by
    have : ((m * i.bytes : Nat) : Int) ≤ 140737488355328 := by omega
    rw [Int.natCast_mul] at this; omega
  have n4 : ¬ (9223372036854775807 < ((n : Int) + (m : Int))) := by omega
  have hlen : (xs ++ List.replicate m z).length = n + m := by rw [List.length_append, hown.1, List.length_replicate, Nat.mul_one]
  have grown : ∀ (old : Nat), old < n + m → ∀ (row : Option Nat),
      (w.drew.alloc (.cells (xs.toArray ++ (List.replicate m z).toArray ++ Builtin.zeroCells #[z] (grownCap w (n + m) old e - (n + m))) e)).ownsRow base e 1
        (.slice (some ⟨w.heap.size, 0, none⟩) (n + m) (grownCap w (n + m) old e)) (n + m) (xs ++ List.replicate m z) ∧
      w.grownBy (w.drew.alloc (.cells (xs.toArray ++ (List.replicate m z).toArray ++ Builtin.zeroCells #[z] (grownCap w (n + m) old e - (n + m))) e)) row := by
    intro old ho row
    have hge := grownCap_ge w (n + m) old e
    have hcm : grownCap w (n + m) old e ≤ maxLen := grownCap_le_maxLen w (n + m) old e (by simp only [maxLen]; omega)
    refine ⟨⟨by rw [hlen, Nat.mul_one], .inr ⟨w.heap.size, _, _, rfl, hbase, heap_alloc_new w.drew _, hge, hcm, ?_, ?_⟩⟩, ⟨rfl, rfl, rfl, by simp, fun k hk _ => Below.heap_alloc w.drew _ k hk⟩⟩
    · have hz2 : (Builtin.zeroCells #[z] (grownCap w (n + m) old e - (n + m))).size = grownCap w (n + m) old e - (n + m) := by rw [← Array.length_toList, qC6, List.length_replicate]
      simp only [Array.size_append, List.size_toArray, hz2, hown.1, List.length_replicate]
      omega
    · simp only [Array.toList_append, List.append_assoc]
      rw [← List.append_assoc, Nat.mul_one, ← hlen]
      exact List.take_left
  rcases hown.2 with ⟨rfl, rfl⟩ | ⟨g, cap, cur, rfl, hbg, hg, hnc, hcm, hcs, htake⟩
  · have hx : xs = [] := List.eq_nil_of_length_eq_zero (by simpa using hown.1)
    subst hx
    by_cases hm : m = 0
    · subst hm
      refine ⟨.slice none 0 0, w, ?_, World.ownsRow_nil w base e 1, ⟨rfl, rfl, rfl, Nat.le_refl _, fun _ _ _ => rfl⟩⟩
      simp [Builtin.append_, run_underlying ht, run_underlying hti, sizeOf, typeInfo, hi, asInt, asIntOf, IntKind.wrap_i64]
    · have hgr := grown 0 (by omega) (Value.ownBlock (.slice none 0 0))
      have h48' : ¬ (281474976710656 < Builtin.nextslicecap m 0 * i.bytes) := by rw [nextslicecap_zero (by omega)]; omega
      simp only [Nat.zero_add, List.nil_append] at hgr n4 ⊢
      refine ⟨_, _, ?_, hgr.1, hgr.2⟩
      have n5 : ¬ (9223372036854775807 < (m : Int)) := by omega
      simp [Builtin.append_, run_underlying ht, run_underlying hti, sizeOf, typeInfo, zeroValue, hi, hz, hzc, hs1, asInt, asIntOf, hw, n1, n2, hm, n5, h48', Question.forced, run_firstCells_none, newRow, grownCap]
      congr 3
      apply Array.ext'
      simp [qC6]
  · by_cases hroom : n + m ≤ cap
    · have hst := run_storeCells_at P g n e (List.replicate m z) 0 cur w hg (by simp; omega) (fun v hv => by rw [(List.mem_replicate.1 hv).2]; exact h1)
      simp only [Nat.add_zero] at hst
      refine ⟨.slice (some ⟨g, 0, none⟩) (n + m) cap, w.setRow g (cur.toList.take n ++ List.replicate m z ++ cur.toList.drop (n + (List.replicate m z).length)).toArray, ?_, ⟨by rw [hlen, Nat.mul_one], .inr ⟨g, cap, _, rfl, hbg, setRow_heap w g cur _ e _ hg, hroom, hcm, ?_, ?_⟩⟩, ⟨rfl, rfl, rfl, by simp, fun k _ hk => setRow_other w g k _ (fun e => hk (by simp [Value.ownBlock, e]))⟩⟩
      · by_cases hm : m = 0
        · subst hm
          have hcur : (cur.toList.take n ++ List.replicate 0 z ++ cur.toList.drop (n + (List.replicate 0 z).length)).toArray = cur := by
            apply Array.ext'
            simp
          rw [hcur, setRow_self w g cur e (0, 0) hg]
          simp [Builtin.append_, run_underlying ht, run_underlying hti, sizeOf, typeInfo, hi, hs1, asInt, asIntOf, IntKind.wrap_i64, hnc, storeCells]
        · simp [Builtin.append_, run_underlying ht, run_underlying hti, sizeOf, typeInfo, zeroValue, hi, hz, hzc, hs1, asInt, asIntOf, hw, n1, n2, hm, hroom, Addr.add_lit, qC6, hst]
      · simp only [List.size_toArray, List.length_append, List.length_take, List.length_drop, Array.length_toList, List.length_replicate]
        omega
      · rw [Nat.mul_one] at htake
        rw [htake, Nat.mul_one, ← hlen]
        exact List.take_left
    · have holds : ∀ j u, xs[j]? = some u → w.cell? ((⟨g, 0, none⟩ : Addr).add j) = some u := hown.cells (g := g) rfl
      have hgr := grown cap (by omega) (Value.ownBlock (.slice (some ⟨g, 0, none⟩) n cap))
      have h48' : ¬ (281474976710656 < Builtin.nextslicecap (n + m) cap * i.bytes) := by have := growslice_fits (old := cap) (by omega) hmb; omega
      have hfo := run_firstCells_some (P := P) w.drew 1 n ⟨g, 0, none⟩ n cap xs hown.1 (by simpa using holds)
      refine ⟨_, _, ?_, hgr.1, hgr.2⟩
      have hm : ¬ m = 0 := by omega
      simp [Builtin.append_, run_underlying ht, run_underlying hti, sizeOf, typeInfo, zeroValue, hi, hz, hzc, hs1, asInt, asIntOf, hw, n1, n2, hm, n4, h48', hroom, Question.forced, hfo, newRow, grownCap]
      congr 3
      apply Array.ext'
      simp [qC6]
end
section
variable {P : Program} {ops : Array Oper} {e : Env} {w : World} {K : Value → World → Prop}
variable {d : Option Nat} {ty : TypeId} {pos : String} {af : Array Edge} {g : Option (Nat × Bool)}
variable {t u : TypeId} {x y : Operand} {k : IntKind}
theorem qT8 {xs_ : Array Operand} {at_ : Array TypeId} {ti : TypeId} (hxs : xs_ = #[x, y]) (hat : at_ = #[t, ti]) {base n m : Nat} {el : TypeId} {by_ : Nat} {z v : Value} {xs : List Value} [hz : ElzI P t el 1 by_ z] [hu : IntI P ti k] (hx : ev e x = v) (hy : ev e y = .int .i64 m) (hzc : z.cells = #[z]) (h1 : z.oneCell' = true)
    (hown : w.ownsRow base el 1 v n xs) (hl : n + m ≤ 140737488355328) (hby : (n + m) * by_ ≤ 140737488355328) (hbase : base ≤ w.heap.size)
    (h : ∀ v' w', w'.ownsRow base el 1 v' (n + m) (xs ++ List.replicate m z) → w.grownBy w' v.ownBlock → K v' w') : Run1 P ⟨d, .call ⟨.builtin .append, xs_, at_⟩, ty, pos, af, g⟩ e w K := by
  subst hxs; subst hat
  obtain ⟨hul, i, hi, hzz, hsz, hbb, hzs, hpos⟩ := qN1 hz.h
  obtain ⟨v', w', hrun, ho, hg⟩ := qT7 (P := P) w base t ti ty el i z by_ k hul hu.h hi hzz hzc hsz hbb h1 v n xs hown m hl hby hbase
  refine zE3 (v := v') (w' := w') ?_ (h v' w' ho hg)
  simp only [execOp, resolve, invoke, builtin, Sem.run_bind, Sem.run_pure, Result.andThen_ok, List.map_toArray, List.map_cons, List.map_nil, hx, hy, hrun]
theorem qP9 {n c : Nat} {ad : Option Addr} {el : TypeId} {sz : Nat} [hui : ElI P t el sz] (hx : ev e x = .slice ad n c) (hy : ev e y = .slice none 0 0) (h : K (.bool ad.isNone) w) : Run1 P ⟨d, .binOp .eql t x y u, ty, pos, af, g⟩ e w K := by
  obtain ⟨hu, _⟩ := zW6 hui.h
  refine zE3 (w' := w) (v := .bool ad.isNone) ?_ h
  have hg : ∀ w : World, (eqGuard .eql t x y (.slice ad n c) (.slice none 0 0)).run P w = .ok () w := fun _ => rfl
  have hb : (binOp .eql t (.slice ad n c) (.slice none 0 0)).run P w = .ok (.bool ad.isNone) w := by
    simp only [binOp]
    simp [run_equal_slice_nil w t _ ad n c hu]
  simp only [execOp, hx, hy, Sem.run_bind, hg, Result.andThen_ok, hb, Sem.run_pure]
theorem yR9 {n cap : Nat} {ad : Option Addr} {el : TypeId} {sz : Nat} {kl kh km : IntKind} [hui : ElI P t el sz] {lo hi mx : Operand} {l h m : Int} (hx : ev e x = .slice ad n cap) (hl : ev e lo = .int kl l) (hh : ev e hi = .int kh h) (hm : ev e mx = .int km m) (h0 : 0 ≤ l) (h1 : l ≤ h) (h2 : h ≤ m) (h3 : m ≤ cap)
    (hK : K (.slice (if m.toNat = l.toNat then ad else ad.map (·.add (l.toNat * sz))) (h.toNat - l.toNat) (m.toNat - l.toNat)) w) : Run1 P ⟨d, .slice t x (some lo) (some hi) (some mx), ty, pos, af, g⟩ e w K := by
  obtain ⟨hu, inf, hi', rfl⟩ := zW6 hui.h
  refine zE3 (w' := w) ?_ hK
  simp only [execOp, Option.map_some, hx, hl, hh, hm, Sem.run_bind, run_sliceAt_slice w t _ _ _ _ hu, run_slice_lhm w t ad n cap hu kl kh km l h m h0 h1 h2 h3, sizeOf, typeInfo, program, Sem.run, hi', Sem.run_pure, Result.andThen_ok, sliced]
theorem yE3 {b base sz : Nat} {T : TypeId} (hc : w.heap[b]? = some (.cells #[] T (0, 0))) (hb : base ≤ b) : w.ownsRow base T sz (.slice (some ⟨b, 0, none⟩) 0 0) 0 [] :=
  ⟨by simp, .inr ⟨b, 0, #[], rfl, hb, hc, Nat.le_refl _, Nat.zero_le _, by simp, by simp⟩⟩
theorem Grow.grown {w w1 w2 : World} {row : Option Nat} (G : Grow w w1) (h : w1.grownBy w2 row) (hr : ∀ k, row = some k → w.heap.size ≤ k) : Grow w w2 := Below.grown G h G.size hr
theorem zJ7 {base n sz : Nat} {T : TypeId} {v : Value} {xs : List Value} (h : w.ownsRow base T sz v n xs) : ∀ k, v.ownBlock = some k → base ≤ k := fun k hk => (h.lt k hk).1
theorem zH3 {base n sz : Nat} {T : TypeId} {v : Value} {xs : List Value} (h : w.ownsRow base T sz v n xs) (hl : n ≤ 140737488355328) : Row w sz v n xs := Row.of_own h hl
theorem zD3 {base n sz k : Nat} {T T' : TypeId} {v : Value} {xs : List Value} {cs : Array Value} {fr : Nat × Nat} (h : w.ownsRow base T sz v n xs) (hk : w.heap[k]? = some (.cells cs T' fr)) (hT : T ≠ T') : v.ownBlock ≠ some k := by
  intro he
  rcases h.2 with ⟨rfl, _⟩ | ⟨g, cap, cur, rfl, _, hg, _⟩
  · simp [Value.ownBlock] at he
  · simp only [Value.ownBlock, Option.some.injEq] at he
    subst he
    rw [hg] at hk
    simp only [Option.some.injEq, Obj.cells.injEq] at hk
    exact hT hk.2.1
theorem zV0 {base n sz k : Nat} {T : TypeId} {v : Value} {xs : List Value} {rc : Loop} (h : w.ownsRow base T sz v n xs) (hk : w.heap[k]? = some (.loop rc)) : v.ownBlock ≠ some k := by
  intro he
  rcases h.2 with ⟨rfl, _⟩ | ⟨g, cap, cur, rfl, _, hg, _⟩
  · simp [Value.ownBlock] at he
  · simp only [Value.ownBlock, Option.some.injEq] at he
    subst he
    rw [hg] at hk
    cases hk
theorem qE6 {base n sz k : Nat} {T : TypeId} {v : Value} {xs : List Value} {ds : Option (List Deferred)} (h : w.ownsRow base T sz v n xs) (hk : w.heap[k]? = some (.deferred ds)) : v.ownBlock ≠ some k := by
  intro he
  rcases h.2 with ⟨rfl, _⟩ | ⟨g, cap, cur, rfl, _, hg, _⟩
  · simp [Value.ownBlock] at he
  · simp only [Value.ownBlock, Option.some.injEq] at he
    subst he
    rw [hg] at hk
    cases hk
theorem zG7 {w' : World} {row : Option Nat} {k : Nat} {o : Obj} (gr : w.grownBy w' row) (hb : w.heap[k]? = some o) (hne : row ≠ some k) : w'.heap[k]? = some o := by
  rw [gr.block k (zC1 hb) (fun h => hne h.symm)]; exact hb
theorem zF1 {w' : World} {base n sz b : Nat} {T : TypeId} {v : Value} {xs : List Value} (h : w.ownsRow base T sz v n xs) (u : Upd b w w') (hne : v.ownBlock ≠ some b) : w'.ownsRow base T sz v n xs := by
  refine ⟨h.1, ?_⟩
  rcases h.2 with hn | ⟨g, cap, cur, rfl, hb, hg, rest⟩
  · exact .inl hn
  · exact .inr ⟨g, cap, cur, rfl, hb, u.heap hg (by simpa [Value.ownBlock] using hne), rest⟩
theorem zB8 {w' : World} {base n sz : Nat} {T : TypeId} {v : Value} {xs : List Value} (h : w.ownsRow base T sz v n xs) (g : Grow w w') : w'.ownsRow base T sz v n xs := by
  refine ⟨h.1, ?_⟩
  rcases h.2 with hn | ⟨q, cap, cur, rfl, hb, hg, rest⟩
  · exact .inl hn
  · exact .inr ⟨q, cap, cur, rfl, hb, g.heap hg, rest⟩
theorem qC7 {base base' n sz : Nat} {T : TypeId} {v : Value} {xs : List Value} (h : w.ownsRow base T sz v n xs) (hb : base' ≤ base) : w.ownsRow base' T sz v n xs := by
  refine ⟨h.1, ?_⟩
  rcases h.2 with hn | ⟨q, cap, cur, rfl, hq, rest⟩
  · exact .inl hn
  · exact .inr ⟨q, cap, cur, rfl, by omega, rest⟩
theorem qQ0 {base n sz : Nat} {T : TypeId} {v : Value} {xs : List Value} (h : w.ownsRow base T sz v n xs) : v.oneCell' = true := by
  rcases h.2 with ⟨rfl, _⟩ | ⟨q, cap, cur, rfl, _⟩ <;> rfl
theorem RowAt.chunk {n l m : Nat} {ad : Option Addr} {xs : List Value} (h : RowAt w 1 ad n xs) (hm : l + m ≤ n) : RowAt w 1 (if l + m = l then ad else ad.map (·.add (l * 1))) m ((xs.drop l).take m) := by
  have h2 := h.part l m hm (by omega)
  rw [Nat.mul_one m] at h2
  split
  · have : m = 0 := by omega
    subst this
    exact RowAt.empty _ _ _
  · have e : l * 1 = l := Nat.mul_one l
    rw [e] at h2 ⊢
    exact h2
end
theorem Grow.kp {F : List Nat} {w w' : World} (g : Grow w w') : Kp F w w' := Kp.of_grow g
theorem Grow.trK {F : List Nat} {w w1 w2 : World} (G : Grow w w1) (k : Kp F w1 w2) (hF : ∀ x ∈ F, w.heap.size ≤ x) : Grow w w2 := Kp.grow ((Kp.of_grow G).trans k fun x hx => .inr (hF x hx))
theorem Kp.tr {F : List Nat} {a b c : World} (h : Kp F a b) (k : Kp F b c) : Kp F a c := h.trans k fun x hx => .inl hx
structure KpR where
  r : World → World → Prop
  refl : ∀ w, r w w
  tr : ∀ {a b c : World}, r a b → r b c → r a c
  grow : ∀ {a b : World}, Grow a b → r a b
abbrev kpR (F : List Nat) : KpR := ⟨Kp F, Kp.refl F, Kp.tr, Grow.kp⟩
def Sp.StabR (F : KpR) : Sp → Prop
  | .ex _ => True
  | .so G => ∀ w w' v, F.r w w' → G w v → G w' v
theorem Sp.keepR {F : KpR} {s : Sp} (h : s.StabR F) {w w' : World} {v : Value} (g : F.r w w') (hv : s.holds w v) : s.holds w' v := by
  cases s with
  | ex x => exact hv
  | so G => exact h w w' v g hv
def zO1 : List Nat → Nat → Nat → Option Nat
  | [], _, _ => none
  | m :: ms, k, p => bif Nat.beq m p then some k else zO1 ms (k + 1) p
def Sp.StabRM (F : KpR) (ms : List Nat) (p : Nat) (s : Sp) : Prop := match zO1 ms 0 p with
  | some k => if k + 1 = ms.length then s.Stab else s.StabR F
  | none => s.StabR F
theorem yE4 {F : KpR} {ms : List Nat} {p : Nat} {s : Sp} (h : s.StabR F) : s.StabRM F ms p := by
  unfold Sp.StabRM
  split
  · split
    · cases s with
      | ex x => trivial
      | so G => exact fun w w' v g hv => h w w' v (F.grow g) hv
    · exact h
  · exact h
def OblR (P : Program) (ops : Array Oper) (F : KpR) (S : Nat → World → Prop) (w0 : World) (e : Env) (o : Oper) (s : Sp) (l : List (Option Nat × Sp)) : Option Nat → Prop
  | none => ∀ w, F.r w0 w → OblEnv l e w fun e' => OpG P ops o e' w fun v w' => Grow w w' ∧ s.holds w' v
  | some k => ∀ w, F.r w0 w → S k w → OblEnv l e w fun e' => OpG P ops o e' w fun v w' => F.r w w' ∧ S (k + 1) w' ∧ s.holds w' v
def AOR (P : Program) (ops : Array Oper) (F : KpR) (S : Nat → World → Prop) (ms : List Nat) (w0 : World) (e : Env) (K : List Dn → Prop) : List Oper → List (List Nat) → List Dn → Prop
  | [], _, rdone => K rdone.reverse
  | o :: r, an, rdone => ∃ s : Sp, s.StabRM F ms rdone.length ∧ OblR P ops F S w0 e o s (selB rdone (an.headD [])) (zO1 ms 0 rdone.length) ∧
      AOR P ops F S ms w0 e K r an.tail (⟨o, s, an.headD []⟩ :: rdone)
section
variable {P : Program} {ops : Array Oper} {F : KpR} {S : Nat → World → Prop} {ms : List Nat} {w0 : World} {e : Env} {K : List Dn → Prop} {o : Oper} {r : List Oper} {a : List Nat} {an : List (List Nat)} {rdone : List Dn}
theorem zO8 (x : Value) (hm : zO1 ms 0 rdone.length = none) (h : ∀ w, F.r w0 w → OblEnv (selB rdone a) e w fun e' => OpG P ops o e' w fun v w' => Grow w w' ∧ v = x)
    (next : AOR P ops F S ms w0 e K r an (⟨o, .ex x, a⟩ :: rdone)) : AOR P ops F S ms w0 e K (o :: r) (a :: an) rdone := ⟨.ex x, yE4 trivial, by rw [hm]; exact h, next⟩
theorem zS7 (k : Nat) (x : Value) (hm : zO1 ms 0 rdone.length = some k) (h : ∀ w, F.r w0 w → S k w → OblEnv (selB rdone a) e w fun e' => OpG P ops o e' w fun v w' => F.r w w' ∧ S (k + 1) w' ∧ v = x)
    (next : AOR P ops F S ms w0 e K r an (⟨o, .ex x, a⟩ :: rdone)) : AOR P ops F S ms w0 e K (o :: r) (a :: an) rdone := ⟨.ex x, yE4 trivial, by rw [hm]; exact h, next⟩
theorem yS0 (k : Nat) (G : World → Value → Prop) (hst : ∀ w w' v, Grow w w' → G w v → G w' v) (hm : zO1 ms 0 rdone.length = some k) (hk : k + 1 = ms.length) (h : ∀ w, F.r w0 w → S k w → OblEnv (selB rdone a) e w fun e' => OpG P ops o e' w fun v w' => F.r w w' ∧ S (k + 1) w' ∧ G w' v)
    (next : AOR P ops F S ms w0 e K r an (⟨o, .so G, a⟩ :: rdone)) : AOR P ops F S ms w0 e K (o :: r) (a :: an) rdone := ⟨.so G, by unfold Sp.StabRM; rw [hm]; simp only [hk, if_true]; exact hst, by rw [hm]; exact h, next⟩
theorem qE7 {an : List (List Nat)} (h : K rdone.reverse) : AOR P ops F S ms w0 e K [] an rdone := h
end
def qT9 (an : List (List Nat)) : List Nat → List Nat → Bool
  | _, [] => true
  | before, m :: ms => (before.all fun b => (an.getD m []).elem b) && qT9 an (before ++ [m]) ms
theorem zY3 {an : List (List Nat)} : ∀ {ms before : List Nat}, qT9 an before ms = true → ∀ (j p : Nat), ms[j]? = some p → (∀ b ∈ before, b ∈ an.getD p []) ∧ ∀ (i q : Nat), i < j → ms[i]? = some q → q ∈ an.getD p []
  | [], _, _, j, p, hj => by simp at hj
  | m :: ms, before, h, j, p, hj => by
    simp only [qT9, Bool.and_eq_true, List.all_eq_true, List.elem_eq_mem, decide_eq_true_eq] at h
    cases j with
    | zero =>
      simp only [List.getElem?_cons_zero, Option.some.injEq] at hj
      subst hj
      exact ⟨h.1, fun i q hi => by omega⟩
    | succ j =>
      obtain ⟨h1, h2⟩ := zY3 h.2 j p (by simpa using hj)
      refine ⟨fun b hb => h1 b (by simp [hb]), fun i q hi hq => ?_⟩
      cases i with
      | zero =>
        simp only [List.getElem?_cons_zero, Option.some.injEq] at hq
        subst hq
        exact h1 m (by simp)
      | succ i => exact h2 i q (by omega) (by simpa using hq)
theorem zT4 : ∀ {ms : List Nat} {k p j : Nat}, zO1 ms k p = some j → k ≤ j ∧ ms[j - k]? = some p
  | [], k, p, j, h => by simp [zO1] at h
  | m :: ms, k, p, j, h => by
    simp only [zO1] at h
    cases hb : Nat.beq m p with
    | true => rw [hb] at h; simp only [cond_true, Option.some.injEq] at h; subst h; exact ⟨Nat.le_refl _, by simp [Nat.eq_of_beq_eq_true hb]⟩
    | false =>
      rw [hb] at h
      simp only [cond_false] at h
      obtain ⟨h1, h2⟩ := zT4 h
      refine ⟨by omega, ?_⟩
      rw [show j - k = (j - (k + 1)) + 1 from by omega, List.getElem?_cons_succ]
      exact h2
theorem qE8 : ∀ {ms : List Nat} {k p : Nat}, zO1 ms k p = none → ∀ j : Nat, ms[j]? ≠ some p
  | [], k, p, _, j => by simp
  | m :: ms, k, p, h, j => by
    simp only [zO1] at h
    cases hb : Nat.beq m p with
    | true => rw [hb] at h; simp at h
    | false =>
      rw [hb] at h
      simp only [cond_false] at h
      cases j with
      | zero => simp only [List.getElem?_cons_zero, ne_eq, Option.some.injEq]; intro he; subst he; simp at hb
      | succ j => rw [List.getElem?_cons_succ]; exact qE8 h j
theorem zO2 {w : World} {G G' : Env → Prop} (h : ∀ e, G e → G' e) : ∀ (l : List (Option Nat × Sp)) (e : Env), OblEnv l e w G → OblEnv l e w G'
  | [], e, hg => h e hg
  | (d, .ex x) :: r, e, hg => zO2 h r _ hg
  | (d, .so F) :: r, e, hg => fun v hv => zO2 h r _ (hg v hv)
def yY0 (P : Program) (ops : Array Oper) (F : KpR) (S : Nat → World → Prop) (ms : List Nat) (w0 : World) (e : Env) (D : List Dn) : Prop :=
  ∀ i d, D[i]? = some d → d.s.StabRM F ms i ∧ OblR P ops F S w0 e d.o d.s (selB (D.take i).reverse d.anc) (zO1 ms 0 i)
theorem yM6 {P : Program} {ops : Array Oper} {F : KpR} {S : Nat → World → Prop} {ms : List Nat} {w0 : World} {e : Env} {K : List Dn → Prop} : ∀ (r : List Oper) (an : List (List Nat)) (rdone : List Dn), r.length = an.length →
    AOR P ops F S ms w0 e K r an rdone → yY0 P ops F S ms w0 e rdone.reverse → ∃ D, K D ∧ yY0 P ops F S ms w0 e D ∧ D.map Dn.o = rdone.reverse.map Dn.o ++ r ∧ D.map Dn.anc = rdone.reverse.map Dn.anc ++ an
  | [], [], rdone, _, h, hg => ⟨rdone.reverse, h, hg, by simp, by simp⟩
  | [], _ :: _, _, hl, _, _ => by simp at hl
  | _ :: _, [], _, hl, _, _ => by simp at hl
  | o :: r, a :: an, rdone, hl, ⟨s, hs, ho, hn⟩, hg => by
    simp only [List.headD_cons, List.tail_cons] at ho hn
    obtain ⟨D, hK, hG, hD, hA⟩ := yM6 r an (⟨o, s, a⟩ :: rdone) (by simpa using hl) hn (by
      intro i d hd
      simp only [List.reverse_cons] at hd ⊢
      rcases Nat.lt_or_ge i rdone.reverse.length with hi | hi
      · rw [List.getElem?_append_left hi] at hd
        rw [List.take_append_of_le_length (by omega)]
        exact hg i d hd
      · rw [List.getElem?_append_right hi] at hd
        have h0 : i - rdone.reverse.length = 0 := by
          rcases Nat.eq_zero_or_pos (i - rdone.reverse.length) with h | h
          · exact h
          · rw [List.getElem?_eq_none (by simp only [List.length_cons, List.length_nil]; omega)] at hd; cases hd
        rw [h0] at hd
        have hi' : i = rdone.reverse.length := by omega
        subst hi'
        simp only [List.getElem?_cons_zero, Option.some.injEq] at hd
        subst hd
        have ht : (rdone.reverse ++ [(⟨o, s, a⟩ : Dn)]).take rdone.reverse.length = rdone.reverse := by simp
        rw [ht, List.reverse_reverse]
        rw [List.length_reverse]
        exact ⟨hs, ho⟩)
    exact ⟨D, hK, hG, by rw [hD]; simp, by rw [hA]; simp⟩
section main
variable {P : Program} {N : Nat} {hd tl : List Oper} {Q : Ex → Env → World → Prop} {F : KpR} {S : Nat → World → Prop} {ms : List Nat}
structure InvR (F : KpR) (S : Nat → World → Prop) (ms : List Nat) (P : Program) (hd tl : List Oper) (D : List Dn) (w0 : World) (e : Env) (L : Array Bool) (E : Env) (w : World) : Prop where
  msro : E.ms = e.ms ∧ E.ro = e.ro
  down : Down (hd ++ tl) L
  head : ∀ i, Ls L i → i < hd.length
  grow : F.r w0 w
  st : ∃ k, k ≤ ms.length ∧ S k w ∧ ∀ (j p : Nat), ms[j]? = some p → (Ls L p ↔ j < k)
  got : ∀ (i : Nat) (d : Dn), D[i]? = some d → Ls L i → ∃ v, d.s.holds w v ∧ ∀ t, d.o.dst = some t → E t = v
  off : ∀ u, (∀ (i : Nat) (o : Oper), (hd ++ tl)[i]? = some o → Ls L i → o.dst ≠ some u) → E u = e u
theorem yY1 (sh : Shape hd tl) {D : List Dn} {w0 : World} {e : Env} (hD : D.map Dn.o = hd) (hA : D.map Dn.anc = ancB (hd ++ tl) hd.length) (hg : yY0 P (hd ++ tl).toArray F S ms w0 e D)
    (hS : ∀ k w w', Grow w w' → S k w → S k w') (hmo : qT9 (ancL (hd ++ tl) []) [] ms = true) (hml : ∀ (j p : Nat), ms[j]? = some p → p < hd.length)
    (hfin : ∀ w, F.r w0 w → S ms.length w → Fin (fun e w => WL P (hd ++ tl).toArray Q tl e w) D e w) : ∀ (fuel : Nat) (L : Array Bool) (E : Env) (w : World),
    InvR F S ms P hd tl D w0 e L E w → left L ≤ fuel → AnyE P (hd ++ tl).toArray Q fuel L E w := by
  have hlen : D.length = hd.length := by rw [← hD]; simp
  have hDo : ∀ (i : Nat) (d : Dn), D[i]? = some d → (hd ++ tl)[i]? = some d.o := fun i d h => by
    have hi : i < D.length := (List.getElem?_eq_some_iff.1 h).1
    rw [List.getElem?_append_left (by omega), ← hD]; simp [h]
  have hanc := qZ1 sh hlen hA
  -- with all of the head listed, what follows stands
  have fin : ∀ (L : Array Bool) (E : Env) (w : World), InvR F S ms P hd tl D w0 e L E w → (∀ i, i < hd.length → Ls L i) → WL P (hd ++ tl).toArray Q tl E w := by
    intro L E w inv hall
    have hSl : S ms.length w := by
      obtain ⟨k0, hk0, hSk, hch⟩ := inv.st
      rcases Nat.lt_or_ge k0 ms.length with hlt | hge
      · have hp := List.getElem?_eq_getElem hlt
        have := (hch k0 _ hp).1 (hall _ (hml k0 _ hp))
        omega
      · rw [show ms.length = k0 from by omega]; exact hSk
    obtain ⟨e', hG, hmr, hu⟩ := qH8 E D e (hfin w inv.grow hSl) (fun d hd' => by
      obtain ⟨i, hi, rfl⟩ := List.getElem_of_mem hd'
      exact inv.got i _ (List.getElem?_eq_getElem hi) (hall i (by omega)))
    have : e' = E := by
      refine Env.ext' (fun u => ?_) (by rw [hmr.1, inv.msro.1]) (by rw [hmr.2, inv.msro.2])
      by_cases hin : ∃ d ∈ D, d.o.dst = some u
      · exact (hu u).1 hin
      · rw [(hu u).2 (fun d hd' he => hin ⟨d, hd', he⟩)]
        refine (inv.off u fun i o ho hl hou => hin ?_).symm
        have hi := inv.head i hl
        have hiD : i < D.length := by omega
        have := hDo i _ (List.getElem?_eq_getElem hiD)
        rw [ho] at this
        exact ⟨D[i], List.getElem_mem hiD, by rw [← Option.some.inj this]; exact hou⟩
    rw [← this]; exact hG
  -- and so the rest of the region
  have rest : ∀ (fuel : Nat) (L : Array Bool) (E : Env) (w : World), InvR F S ms P hd tl D w0 e L E w → (∀ i, i < hd.length → Ls L i) → left L ≤ fuel →
      AnyE P (hd ++ tl).toArray Q fuel L E w := by
    intro fuel L E w inv hall hf
    refine yL1 sh fuel hd.length L E w inv.down (fun i => ⟨inv.head i, hall i⟩) (Nat.le_refl _) (by simp) hf ?_
    rw [List.drop_left]
    exact fin L E w inv hall
  intro fuel
  induction fuel with
  | zero =>
    intro L E w inv hf
    refine rest 0 L E w inv (fun i hi => ?_) hf
    by_cases hl : Ls L i
    · exact hl
    · have := zR7 (L := L) (i := i) (by rw [inv.down.size]; simp; omega) hl; omega
  | succ fuel ih =>
    intro L E w inv hf
    by_cases hall : ∀ i, i < hd.length → Ls L i
    · exact rest _ L E w inv hall hf
    refine ⟨fun hr => absurd (fun i hi => zY1 inv.down.size sh.back hr i (by simp; omega)) hall, fun i hi o' ho' => ?_⟩
    obtain ⟨hn, o, ho, hedge⟩ := (zT1 inv.down.size).1 hi
    have hin : i < (hd ++ tl).length := (List.getElem?_eq_some_iff.1 ho).1
    have hal := zM4 inv.down i o ho hedge
    have hih : i < hd.length := by
      rcases Nat.lt_or_ge i hd.length with h' | h'
      · exact h'
      · exact absurd (fun j hj => hal j (sh.tail i h' hin j (by omega))) hall
    have hi' : i < L.size := by rw [inv.down.size]; exact hin
    have hiD : i < D.length := by omega
    have hd' := List.getElem?_eq_getElem hiD
    generalize hdd : D[i] = d at hd'
    have hod : d.o = o := by have := hDo i d hd'; rw [ho] at this; exact (Option.some.inj this).symm
    obtain ⟨hst, hob⟩ := hg i d hd'
    have ha := hanc i d hd'
    rw [ha] at hob
    have hanI : (ancL (hd ++ tl) []).getD i [] = ancI (hd ++ tl) i := rfl
    have step : OblEnv (sel (D.take i) (ancI (hd ++ tl) i)) e w fun e' => OpG P (hd ++ tl).toArray d.o e' w fun v w' => F.r w w' ∧ (zO1 ms 0 i = none → Grow w w') ∧ (∃ k, k ≤ ms.length ∧ S k w' ∧ ∀ (j p : Nat), ms[j]? = some p → (Ls (L.setIfInBounds i true) p ↔ j < k)) ∧ d.s.holds w' v := by
      obtain ⟨k0, hk0, hSk, hch⟩ := inv.st
      cases hmu : zO1 ms 0 i with
      | none =>
        rw [hmu] at hob
        refine zO2 (fun e' h => h.mono fun v w' ⟨g, hv⟩ => ⟨F.grow g, fun _ => g, ⟨k0, hk0, hS _ _ _ g hSk, fun j p hj => ?_⟩, hv⟩) _ _ (hob w inv.grow)
        rw [zN7 hi', ← hch j p hj]
        have : p ≠ i := fun h => qE8 hmu j (h ▸ hj)
        simp [this]
      | some k =>
        rw [hmu] at hob
        obtain ⟨_, hms⟩ := zT4 hmu
        rw [Nat.sub_zero] at hms
        have hkl : k < ms.length := (List.getElem?_eq_some_iff.1 hms).1
        have hkk : k0 = k := by
          have h1 : ¬ k < k0 := fun h => hn ((hch k i hms).2 h)
          rcases Nat.lt_or_ge k0 k with hlt | hge
          · have hq := List.getElem?_eq_getElem (show k0 < ms.length by omega)
            have h2 := (zY3 hmo k i hms).2 k0 _ hlt hq
            rw [hanI] at h2
            have := (hch k0 _ hq).1 (hal _ h2)
            omega
          · omega
        subst hkk
        refine zO2 (fun e' h => h.mono fun v w' ⟨g, hs', hv⟩ => ⟨g, nofun, ⟨k0 + 1, hkl, hs', fun j p hj => ?_⟩, hv⟩) _ _ (hob w inv.grow hSk)
        rw [zN7 hi', hch j p hj]
        have anc_lt : ∀ q, q ∈ ancI (hd ++ tl) i → q < i := fun q hq => ((zU7 ho).1 hq).1
        constructor
        · rintro (rfl | h)
          · rcases Nat.lt_trichotomy j k0 with h | h | h
            · omega
            · omega
            · have h2 := (zY3 hmo j p hj).2 k0 p h hms
              exact absurd (anc_lt p h2) (by omega)
          · omega
        · intro h
          rcases Nat.lt_or_ge j k0 with h' | h'
          · exact .inr h'
          · have : j = k0 := by omega
            subst this
            rw [hms] at hj
            exact .inl (Option.some.inj hj).symm
    -- the obligation, at the frame that is there
    obtain ⟨e', hG, hu⟩ := zU6 E _ e (by
      intro p hp
      unfold sel at hp
      rw [List.mem_filterMap] at hp
      obtain ⟨j, hj, hp⟩ := hp
      rw [List.getElem?_take] at hp
      split at hp
      · cases hdj : D[j]? with
        | none => rw [hdj] at hp; simp at hp
        | some dj =>
          rw [hdj] at hp
          simp only [Option.map_some, Option.some.injEq] at hp
          subst hp
          exact inv.got j dj hdj (hal j hj)
      · simp at hp) step
    have hmem : ∀ u, (∃ p ∈ sel (D.take i) (ancI (hd ++ tl) i), p.1 = some u) ↔ ∃ j ∈ ancI (hd ++ tl) i, ∃ dj, D[j]? = some dj ∧ dj.o.dst = some u := by
      intro u
      unfold sel
      constructor
      · rintro ⟨p, hp, hpu⟩
        rw [List.mem_filterMap] at hp
        obtain ⟨j, hj, hp⟩ := hp
        rw [List.getElem?_take] at hp
        split at hp
        · cases hdj : D[j]? with
          | none => rw [hdj] at hp; simp at hp
          | some dj =>
            rw [hdj] at hp
            simp only [Option.map_some, Option.some.injEq] at hp
            subst hp
            exact ⟨j, hj, dj, hdj, hpu⟩
        · simp at hp
      · rintro ⟨j, hj, dj, hdj, hdu⟩
        refine ⟨(dj.o.dst, dj.s), ?_, hdu⟩
        rw [List.mem_filterMap]
        refine ⟨j, hj, ?_⟩
        rw [List.getElem?_take, if_pos ((zU7 ho).1 hj).1, hdj]
        rfl
    have hG2 : OpG P (hd ++ tl).toArray o E w fun v w' => F.r w w' ∧ (zO1 ms 0 i = none → Grow w w') ∧ (∃ k, k ≤ ms.length ∧ S k w' ∧ ∀ (j p : Nat), ms[j]? = some p → (Ls (L.setIfInBounds i true) p ↔ j < k)) ∧ d.s.holds w' v := by
      rw [hod] at hG
      refine qI8 (sh.nosel i o ho) (fun u hu' => ?_) hG
      by_cases hin' : ∃ p ∈ sel (D.take i) (ancI (hd ++ tl) i), p.1 = some u
      · exact (hu u).1 hin'
      · rw [(hu u).2 (fun p hp he => hin' ⟨p, hp, he⟩)]
        refine (inv.off u fun k p hp hl hpu => ?_).symm
        have hki : i ≠ k := fun h => hn (h ▸ hl)
        rcases sh.read i k o p ho hp hki u hpu hu' with h | h
        · refine hin' ((hmem u).2 ⟨k, h, ?_⟩)
          have hk := inv.head k hl
          have hkD : k < D.length := by omega
          have := hDo k _ (List.getElem?_eq_getElem hkD)
          rw [hp] at this
          exact ⟨_, List.getElem?_eq_getElem hkD, by rw [← Option.some.inj this]; exact hpu⟩
        · exact hn (zM4 inv.down k p hp (inv.down.down k p hp hl) i h)
    have hoo : o = o' := by rw [List.getElem?_toArray, ho] at ho'; exact Option.some.inj ho'
    subst hoo
    refine OpG.mono ?_ hG2
    rintro v w' ⟨hgr, hgw, hst', hv⟩
    refine ih _ _ w' ⟨⟨by rw [yD7]; exact inv.msro.1, by rw [yD8]; exact inv.msro.2⟩, inv.down.set ho hedge, fun j hj => ?_, F.tr inv.grow hgr, hst', fun j dj hdj hl => ?_, fun u hu' => ?_⟩ (by have := zR7 hi' hn; omega)
    · rw [zN7 hi'] at hj
      rcases hj with rfl | hj
      · exact hih
      · exact inv.head j hj
    · rw [zN7 hi'] at hl
      by_cases hji : j = i
      · subst hji
        rw [hd'] at hdj
        cases hdj
        refine ⟨v, hv, fun t ht => ?_⟩
        rw [hod] at ht
        rw [ht]; exact zR6 _ _ _
      · have hlj := hl.resolve_left hji
        obtain ⟨vj, hvj, htj⟩ := inv.got j dj hdj hlj
        have hkeep : dj.s.holds w' vj := by
          have hsj := (hg j dj hdj).1
          unfold Sp.StabRM at hsj
          cases hmi : zO1 ms 0 i with
          | none =>
            cases hmj : zO1 ms 0 j with
            | none => rw [hmj] at hsj; exact Sp.keepR hsj hgr hvj
            | some k =>
              rw [hmj] at hsj
              simp only at hsj
              split at hsj
              · exact Sp.keep hsj (hgw hmi) hvj
              · exact Sp.keepR hsj hgr hvj
          | some k1 =>
            cases hmj : zO1 ms 0 j with
            | none => rw [hmj] at hsj; exact Sp.keepR hsj hgr hvj
            | some k =>
              rw [hmj] at hsj
              simp only at hsj
              split at hsj
              · rename_i hlast
                exfalso
                obtain ⟨_, e1⟩ := zT4 hmi
                obtain ⟨_, e2⟩ := zT4 hmj
                rw [Nat.sub_zero] at e1 e2
                have hk1 : k1 < ms.length := (List.getElem?_eq_some_iff.1 e1).1
                rcases Nat.lt_or_ge k1 k with h' | h'
                · have h2 := (zY3 hmo k j e2).2 k1 i h' e1
                  exact hn (zM4 inv.down j dj.o (hDo j dj hdj) (inv.down.down j dj.o (hDo j dj hdj) hlj) i h2)
                · have : k1 = k := by omega
                  subst this
                  rw [e1] at e2
                  exact hji (Option.some.inj e2).symm
              · exact Sp.keepR hsj hgr hvj
        refine ⟨vj, hkeep, fun t ht => ?_⟩
        rw [← htj t ht]
        cases hdst' : o.dst with
        | none => rfl
        | some t' =>
          refine zW1 _ _ fun htt => ?_
          exact sh.uniq i j o dj.o ho (hDo j dj hdj) (Ne.symm hji) t' hdst' (by rw [ht, htt])
    · have hne : o.dst ≠ some u := hu' i o ho ((zN7 hi').2 (.inl rfl))
      have : E.put o.dst v u = E u := by
        cases hdst' : o.dst with
        | none => rfl
        | some t' => exact zW1 _ _ fun htt => hne (by rw [hdst', htt])
      rw [this]
      exact inv.off u fun k p hp hl => hu' k p hp ((zN7 hi').2 (.inr hl))
theorem qN4 {id : Nat} {e : Env} {w : World} {l : List Oper} (m : Nat) (an : List (List Nat)) (ms : List Nat) (F : KpR) (S : Nat → World → Prop) (hm : P.follows .mixedOrders = true) (hsh : qE3 (l.take m) (l.drop m) = true)
    (han : ancB l (l.take m).length = an) (hdst : qT2 N l = true) (hmo : (qT9 (ancL l []) [] ms && ms.all fun p => Nat.blt p (l.take m).length) = true) (hS : ∀ k w w', Grow w w' → S k w → S k w') (h0 : ∀ w0, Grow w w0 → S 0 w0)
    (h : ∀ w0, Grow w w0 → AOR P l.toArray F S ms w0 e (fun D => ∀ w', F.r w0 w' → S ms.length w' → Fin (fun e w => WL P l.toArray Q (l.drop m) e w) D e w') (l.take m) an []) :
    W P N (.region id l.toArray true) Q e w := by
  have hl := List.take_append_drop m l
  generalize hhd : l.take m = hd at *
  generalize htl : l.drop m = tl at *
  subst hl
  have h := h { w with drawn := w.drawn + 1 } (Grow.drew' w)
  have h0 := h0 { w with drawn := w.drawn + 1 } (Grow.drew' w)
  simp only [Bool.and_eq_true, List.all_eq_true] at hmo
  have hml : ∀ (j p : Nat), ms[j]? = some p → p < hd.length := fun j p hj => by
    have := hmo.2 p (List.mem_of_getElem? hj)
    simpa [Nat.blt_eq] using this
  intro b a k cs hs he
  subst he
  have sh := qP5 hsh
  obtain ⟨D, hK, hG, hDo, hDa⟩ := yM6 _ _ _ (by rw [← han]; simp [ancB, zO0]) h (fun i d hd' => by simp at hd')
  have hDo' : D.map Dn.o = hd := by simpa using hDo
  have hDa' : D.map Dn.anc = ancB (hd ++ tl) hd.length := by rw [hDa, han]; simp
  have hno : ∀ i, ¬ Ls (Array.replicate (hd ++ tl).toArray.size false) i := fun i => by simp [Ls, Array.getD_eq_getD_getElem?, Array.getElem?_replicate]; split <;> simp
  have hany : AnyE P (hd ++ tl).toArray Q (hd ++ tl).toArray.size (Array.replicate (hd ++ tl).toArray.size false) (env b.roundOf a) { w with drawn := w.drawn + 1 } := by
    refine yY1 sh hDo' hDa' hG hS hmo.1 hml hK _ _ _ _ ⟨⟨rfl, rfl⟩, ⟨by simp, fun i o ho hl => absurd hl (hno i)⟩, fun i hl => absurd hl (hno i), F.refl _, ⟨0, Nat.zero_le _, h0, fun j p hj => ⟨fun hl => absurd hl (hno p), fun h => by omega⟩⟩, fun i d hd' hl => absurd hl (hno i), fun u _ => rfl⟩ ?_
    unfold Go.Proofs.YtkkbbhpbcfcplaaGreat.K.left
    have := List.countP_le_length (p := (!·)) (l := (Array.replicate (hd ++ tl).toArray.size false).toList)
    simpa using this
  have hs2 := qE4 _ ((w.tape w.drawn (.order b.fn id))) _ _ _ hany
  obtain ⟨x, a', w', h1, h2, h3⟩ := zT0 hdst (k := k) (cs := cs) _ a _ hs hs2
  refine ⟨x, a', w', h1, h2, .of (.one stepR_region_draw) ?_⟩
  simp only [Region.schedule, hm, Bool.true_or, if_true]
  exact h3
/-! ### ..of which what is kept is all but some blocks -/
abbrev AOM (P : Program) (ops : Array Oper) (F : List Nat) (S : Nat → World → Prop) (ms : List Nat) (w0 : World) (e : Env) (K : List Dn → Prop) : List Oper → List (List Nat) → List Dn → Prop := AOR P ops (kpR F) S ms w0 e K
section
variable {P : Program} {ops : Array Oper} {F : List Nat} {S : Nat → World → Prop} {ms : List Nat} {w0 : World} {e : Env} {K : List Dn → Prop} {o : Oper} {r : List Oper} {a : List Nat} {an : List (List Nat)} {rdone : List Dn}
theorem zE0 (x : Value) (hm : zO1 ms 0 rdone.length = none) (h : ∀ w, Kp F w0 w → OblEnv (selB rdone a) e w fun e' => OpG P ops o e' w fun v w' => Grow w w' ∧ v = x)
    (next : AOM P ops F S ms w0 e K r an (⟨o, .ex x, a⟩ :: rdone)) : AOM P ops F S ms w0 e K (o :: r) (a :: an) rdone := zO8 x hm h next
theorem zS8 (k : Nat) (x : Value) (hm : zO1 ms 0 rdone.length = some k) (h : ∀ w, Kp F w0 w → S k w → OblEnv (selB rdone a) e w fun e' => OpG P ops o e' w fun v w' => Kp F w w' ∧ S (k + 1) w' ∧ v = x)
    (next : AOM P ops F S ms w0 e K r an (⟨o, .ex x, a⟩ :: rdone)) : AOM P ops F S ms w0 e K (o :: r) (a :: an) rdone := zS7 k x hm h next
theorem yS1 (k : Nat) (G : World → Value → Prop) (hst : ∀ w w' v, Grow w w' → G w v → G w' v) (hm : zO1 ms 0 rdone.length = some k) (hk : k + 1 = ms.length) (h : ∀ w, Kp F w0 w → S k w → OblEnv (selB rdone a) e w fun e' => OpG P ops o e' w fun v w' => Kp F w w' ∧ S (k + 1) w' ∧ G w' v)
    (next : AOM P ops F S ms w0 e K r an (⟨o, .so G, a⟩ :: rdone)) : AOM P ops F S ms w0 e K (o :: r) (a :: an) rdone := yS0 k G hst hm hk h next
theorem zV1 {an : List (List Nat)} (h : K rdone.reverse) : AOM P ops F S ms w0 e K [] an rdone := qE7 h
end
theorem qC8 {id : Nat} {e : Env} {w : World} {l : List Oper} (m : Nat) (an : List (List Nat)) (ms : List Nat) (F : List Nat) (S : Nat → World → Prop) (hm : P.follows .mixedOrders = true) (hsh : qE3 (l.take m) (l.drop m) = true)
    (han : ancB l (l.take m).length = an) (hdst : qT2 N l = true) (hmo : (qT9 (ancL l []) [] ms && ms.all fun p => Nat.blt p (l.take m).length) = true) (hS : ∀ k w w', Grow w w' → S k w → S k w') (h0 : ∀ w0, Grow w w0 → S 0 w0)
    (h : ∀ w0, Grow w w0 → AOM P l.toArray F S ms w0 e (fun D => ∀ w', Kp F w0 w' → S ms.length w' → Fin (fun e w => WL P l.toArray Q (l.drop m) e w) D e w') (l.take m) an []) :
    W P N (.region id l.toArray true) Q e w := qN4 m an ms (kpR F) S hm hsh han hdst hmo hS h0 h
end main
section
variable {P : Program} {ops : Array Oper} {Q : Ex → Env → World → Prop} {e : Env} {w : World} {r : List Oper}
theorem stp {d : Nat} {op : Op} {ty : TypeId} {pos : String} {af : Array Edge} {g : Option (Nat × Bool)} (h : Run1 P ⟨some d, op, ty, pos, af, g⟩ e w fun v w' => WL P ops Q r (Env.set e d v) w') (hw : zN3 ops ⟨some d, op, ty, pos, af, g⟩ e = true := by rfl) : WL P ops Q (⟨some d, op, ty, pos, af, g⟩ :: r) e w := zA4 (og hw h)
theorem stn {op : Op} {ty : TypeId} {pos : String} {af : Array Edge} {g : Option (Nat × Bool)} (h : Run1 P ⟨none, op, ty, pos, af, g⟩ e w fun v w' => WL P ops Q r e w') (hw : zN3 ops ⟨none, op, ty, pos, af, g⟩ e = true := by rfl) : WL P ops Q (⟨none, op, ty, pos, af, g⟩ :: r) e w := yL2 (og hw h)
end
class StrI (P : Program) (t : TypeId) : Prop where
  h : P.underlying t = some .string
theorem sb : (∀ a b : Bool, ((a && b) = true) = (a = true ∧ b = true)) ∧ (∀ a b : Bool, ((a || b) = true) = (a = true ∨ b = true)) ∧ (∀ b : Bool, ((!b) = true) = (b = false)) ∧ (∀ a b : Bool, ((a && b) = false) = (a = false ∨ b = false)) ∧ (∀ a b : Bool, ((a || b) = false) = (a = false ∧ b = false)) ∧ (∀ b : Bool, ((!b) = false) = (b = true)) ∧
    (∀ (p : Prop) [Decidable p], (decide p = true) = p) ∧ (∀ (p : Prop) [Decidable p], (decide p = false) = ¬ p) ∧ ((!true) = false) ∧ ((!false) = true) ∧ (∀ a b : Bool, ((!a) = b) = (a = !b)) ∧ (∀ b : Bool, (b || false) = b) ∧ (∀ b : Bool, (b && true) = b) ∧ (∀ b : Bool, (b || true) = true) ∧ (∀ b : Bool, (b && false) = false) ∧ (∀ b : Bool, (false || b) = b) ∧ (∀ b : Bool, (true && b) = b) ∧ (∀ b : Bool, (true || b) = true) ∧ (∀ b : Bool, (false && b) = false) ∧ ((false = true) = False) ∧ ((true = false) = False) :=
  ⟨by simp, by simp, by simp, by simp, by simp, by simp, by simp, by simp, by simp, by simp, by simp, by simp, by simp, by simp, by simp, by simp, by simp, by simp, by simp, by simp, by simp⟩
def gv (c : Bool) (v : Value) : Value := bif c then v else undef
theorem gvt {c : Bool} {v : Value} (h : c = true) : gv c v = v := by rw [h]; rfl
def wgb (x : Value) (b : Bool) : Bool := match x with | .bool c => c == b | _ => false
theorem zG3 (p : Bool) : wgb (.bool p) true = p := by cases p <;> rfl
theorem zF0 (p : Bool) : wgb (.bool p) false = !p := by cases p <;> rfl
theorem zN9 (c p : Bool) : wgb (gv c (.bool p)) true = (c && p) := by cases c <;> cases p <;> rfl
theorem and_t {a b : Bool} (h : (a && b) = true) : a = true ∧ b = true := by simpa using h
section
variable {P : Program} {ops : Array Oper} {Q : Ex → Env → World → Prop} {e : Env} {w : World} {K : Value → World → Prop} {r : List Oper}
variable {d : Option Nat} {ty : TypeId} {pos : String} {af : Array Edge} {g : Option (Nat × Bool)}
variable {t u : TypeId} {x y z : Operand} {k k' : IntKind} {a : Int}
theorem zB7 {o : Oper} {s : Value} {b c : Bool} {v : Value} (hw : zN3 ops o e = wgb s b) (hc : wgb s b = c) (hr : c = true → Run1 P o e w fun v' w' => v' = v ∧ w' = w) (h : K (gv c v) w) : OpG P ops o e w K := by
  rw [hc] at hw
  cases c with
  | true => exact og hw ((hr rfl).mono fun v' w' ⟨h1, h2⟩ => by subst h1; subst h2; exact h)
  | false => exact zE1 hw h
theorem zZ5 {o : Oper} {s : Value} {b c : Bool} {v : Value} (hw : zN3 ops o e = wgb s b) (hc : wgb s b = c) (hr : c = true → Run1 P o e w fun v' w' => v' = v ∧ Grow w w') (h : ∀ w', Grow w w' → K (gv c v) w') : OpG P ops o e w K := by
  rw [hc] at hw
  cases c with
  | true => exact og hw ((hr rfl).mono fun v' w' ⟨h1, h2⟩ => by subst h1; exact h _ h2)
  | false => exact zE1 hw (h _ (Grow.rfl' _))
theorem zI8 {p q : Bool} (hc : ev e x = .bool p) (hy : ev e y = gv p (.bool q)) (hz : ev e z = .bool false) (h : K (.bool (p && q)) w) : Run1 P ⟨d, .pick x y z, ty, pos, af, g⟩ e w K := by
  cases p
  · exact zH6 hc rfl hz h
  · exact zH0 hc rfl hy h
theorem zJ3 {p q : Bool} (hc : ev e x = .bool p) (hy : ev e y = .bool true) (hz : ev e z = gv (!p) (.bool q)) (h : K (.bool (p || q)) w) : Run1 P ⟨d, .pick x y z, ty, pos, af, g⟩ e w K := by
  cases p
  · exact zH6 hc rfl hz h
  · exact zH0 hc rfl hy h
theorem qG9 {c p q : Bool} (ht : c = true) (hc : ev e x = .bool p) (hy : ev e y = gv (c && p) (.bool q)) (hz : ev e z = .bool false) (h : K (.bool (p && q)) w) : Run1 P ⟨d, .pick x y z, ty, pos, af, g⟩ e w K := by
  subst ht; exact zI8 hc (by simpa using hy) hz h
theorem zO6 {f : FuncId} {fv : Operand} {args : Array Operand} {at_ : Array TypeId} {fst cap : Array Value} {v : Value} {l : List Value}
    (hx : ev e fv = .func (.func f) fst cap) [hfi : FuncI P f] (ha : qM9 e fst args cap = l) (hc : zC5 P f l.toArray w v) (h : ∀ w', Grow w w' → K v w') : Run1 P ⟨d, .call ⟨.value fv, args, at_⟩, ty, pos, af, g⟩ e w K :=
  zA2 hx (by rw [ha]; exact hc) h
/-! ### rows, by their address -/
def eadr (ad : Option Addr) (k : Nat) : Addr := ⟨(ad.getD ⟨0, 0, none⟩).block, (ad.getD ⟨0, 0, none⟩).off + k, none⟩
theorem zL7 {n c sz : Nat} {ad : Option Addr} {el : TypeId} {xs : List Value} {i : Int} [hui : ElI P t el sz] (R : RowAt w sz ad n xs) (hx : ev e x = .slice ad n c) (hy : ev e y = .int k i) (h0 : 0 ≤ i) (h1 : i < n)
    (h : K (.pointer (some (eadr ad (i.toNat * sz)))) w) : Run1 P ⟨d, .indexAddr t x y, ty, pos, af, g⟩ e w K := by
  obtain ⟨b, o, cs, T, fr, rfl, hb, hr⟩ := R.at_ (by omega)
  exact zD4 hx hy h0 h1 h
theorem zD7 {n c sz : Nat} {ad : Option Addr} {el : TypeId} {xs : List Value} {i : Nat} [hui : ElI P t el sz] (R : RowAt w sz ad n xs) (hx : ev e x = .slice ad n c) (hy : ev e y = .int k (i : Int)) (h1 : i < n)
    (h : K (.pointer (some (eadr ad (i * sz)))) w) : Run1 P ⟨d, .indexAddr t x y, ty, pos, af, g⟩ e w K :=
  zL7 R hx hy (by omega) (by omega) (by rw [Int.toNat_natCast]; exact h)
theorem zF2 {n m j : Nat} {ad : Option Addr} {xs : List Value} {v : Value} {sz : Nat} [hti : TyI P t 1 false] (R : RowAt w sz ad n xs) (hx : ev e x = .pointer (some (eadr ad j))) (hj : xs[j]? = some v) (h : K v w) : Run1 P ⟨d, .load t x, ty, pos, af, g⟩ e w K := by
  have hlt : j < xs.length := (List.getElem?_eq_some_iff.1 hj).1
  have hn : 0 < n := by
    rcases Nat.eq_zero_or_pos n with h0 | h0
    · subst h0; have := R.len; rw [Nat.zero_mul] at this; omega
    · exact h0
  obtain ⟨b, o, cs, T, fr, rfl, hb, hr⟩ := R.at_ hn
  exact zD1 hx hb (zL6 hr hj) h
theorem zO7 {n m j : Nat} {ad : Option Addr} {xs : List Value} {vs : List Value} {sz : Nat} [hti : TyI P t m true] (R : RowAt w sz ad n xs) (hx : ev e x = .pointer (some (eadr ad j))) (hm : 0 < m) (hjm : j + m ≤ xs.length) (hj : (xs.drop j).take m = vs) (h : K (.agg vs.toArray) w) : Run1 P ⟨d, .load t x, ty, pos, af, g⟩ e w K := by
  have hn : 0 < n := by
    rcases Nat.eq_zero_or_pos n with h0 | h0
    · subst h0; have := R.len; rw [Nat.zero_mul] at this; omega
    · exact h0
  obtain ⟨b, o, cs, T, fr, rfl, hb, hr⟩ := R.at_ hn
  have hsz := yR8 hr R.len (Nat.lt_of_lt_of_le (by omega) (Nat.le_of_eq R.len))
  have hl := R.len
  refine zF8 (vs := vs.toArray) hx hb (Nat.ble_eq_true_of_le (by show o + j + m ≤ _; omega)) ?_ h
  show ((cs.toList.drop (o + j)).take m).toArray = _
  rw [yE1 hr (by omega), hj]
theorem qQ2 {f off j : Nat} {ad : Option Addr} [hfi : FldI P t f off] (hx : ev e x = .pointer (some (eadr ad j))) (h : K (.pointer (some (eadr ad (j + off)))) w) : Run1 P ⟨d, .fieldAddr t x f, ty, pos, af, g⟩ e w K :=
  zB6 hx (by
    have : (⟨(ad.getD ⟨0, 0, none⟩).block, (ad.getD ⟨0, 0, none⟩).off + j + off, none⟩ : Addr) = eadr ad (j + off) := by simp only [eadr, Nat.add_assoc]
    rw [this]; exact h)
end
theorem qQ3 {α : Type} {f : α → Value} {L : List α} (dflt : α) {j : Nat} (h : j < L.length) : (L.map f)[j]? = some (f (L.getD j dflt)) := by
  rw [List.getElem?_map, List.getElem?_eq_getElem h, List.getD_eq_getElem?_getD, List.getElem?_eq_getElem h]; rfl
theorem zL8 {α : Type} {f : α → Value} {L : List α} (dflt : α) {j : Nat} (h : j < L.length) : (L.map f)[j * 1]? = some (f (L.getD j dflt)) := by rw [Nat.mul_one]; exact qQ3 dflt h
theorem zF5 {α : Type} {L : List α} {dflt : α} {j : Nat} (h : j < L.length) : L.getD j dflt = L[j] := by
  rw [List.getD_eq_getElem?_getD, List.getElem?_eq_getElem h]; rfl
theorem qQ4 (b : Bool) : b = false ∨ b = true := by cases b <;> simp
theorem qF1 {w : World} {b base n sz : Nat} {T : TypeId} {cs : Array Value} (hc : w.heap[b]? = some (.cells cs T (0, 0))) (hb : base ≤ b) (hn : cs.size = n * sz) (hl : n ≤ maxLen) : w.ownsRow base T sz (.slice (some ⟨b, 0, none⟩) n n) n cs.toList :=
  ⟨by rw [Array.length_toList, hn], .inr ⟨b, n, cs, rfl, hb, hc, Nat.le_refl _, hl, hn, by rw [List.take_of_length_le (by rw [Array.length_toList, hn]; exact Nat.le_refl _)]⟩⟩
theorem qQ5 {w w' : World} {n : Nat} (h : w.grownBy w' (Value.slice none n n).ownBlock) : Grow w w' := ⟨h.os, h.tape, h.output, h.size, fun k hk => h.block k hk (by simp [Value.ownBlock])⟩
theorem yW3 {w w' : World} {base base' n m sz sz' : Nat} {T T' : TypeId} {v v' : Value} {xs ys : List Value} (h : w.ownsRow base T sz v n xs) (h' : w.ownsRow base' T' sz' v' m ys) (hT : T ≠ T') (g : w.grownBy w' v'.ownBlock) : w'.ownsRow base T sz v n xs := by
  refine ⟨h.1, ?_⟩
  rcases h.2 with hn | ⟨q, cap, cur, rfl, hb, hg, rest⟩
  · exact .inl hn
  · exact .inr ⟨q, cap, cur, rfl, hb, zG7 g hg (zD3 h' hg hT.symm), rest⟩
theorem qF2 {w : World} {base n sz : Nat} {T : TypeId} {v : Value} {xs : List Value} (h : w.ownsRow base T sz v n xs) (hn : 0 < n) : ∃ g c cur, v = .slice (some ⟨g, 0, none⟩) n c ∧ base ≤ g ∧ w.heap[g]? = some (.cells cur T (0, 0)) ∧ n ≤ c ∧ c ≤ maxLen ∧ cur.size = c * sz ∧ cur.toList.take (n * sz) = xs := by
  rcases h.2 with ⟨_, h0⟩ | h
  · omega
  · obtain ⟨g, c, cur, h1, h2, h3, h4, h5, h6, h7⟩ := h; exact ⟨g, c, cur, h1, h2, h3, h4, h5, h6, h7⟩
theorem zE6 {w : World} {base n sz : Nat} {T : TypeId} {v : Value} {xs : List Value} (h : w.ownsRow base T sz v n xs) : ∃ ad m c, v = .slice ad m c := by
  rcases h.2 with ⟨rfl, rfl⟩ | ⟨q, cap, cur, rfl, _, _, hn, _⟩
  · exact ⟨_, _, _, rfl⟩
  · exact ⟨_, _, _, rfl⟩
def cgL : List Value → Nat → Option Value
  | [], _ => none
  | x :: _, 0 => some x
  | _ :: l, n + 1 => cgL l n
theorem cgL_eq : ∀ (l : List Value) (n : Nat), cgL l n = l[n]?
  | [], n => by simp [cgL]
  | x :: l, 0 => by simp [cgL]
  | x :: l, n + 1 => by simp [cgL, cgL_eq l n]
section
variable {P : Program} {e : Env} {w : World} {K : Value → World → Prop} {d : Option Nat} {ty : TypeId} {pos : String} {af : Array Edge} {g : Option (Nat × Bool)} {t : TypeId} {x : Operand}
theorem r_loadL {b o n : Nat} {cs : Array Value} {T : TypeId} {fr : Nat × Nat} {v : Value} [hti : TyI P t n false] (hx : ev e x = .pointer (some ⟨b, o, none⟩)) (hb : w.heap[b]? = some (.cells cs T fr)) (hv : cgL cs.toList o = some v) (h : K v w) : Run1 P ⟨d, .load t x, ty, pos, af, g⟩ e w K :=
  zD1 hx hb (by rw [cgL_eq] at hv; rw [← hv]; simp) h
theorem r_extractL {i : Nat} {xs : Array Value} {v : Value} (hx : ev e x = .tuple xs) (hv : cgL xs.toList i = some v) (h : K v w) : Run1 P ⟨d, .extract x i, ty, pos, af, g⟩ e w K :=
  zB3 hx (by rw [cgL_eq] at hv; rw [← hv]; simp) h
end
structure Hq (n : Nat) (q : Prop) : Prop where
  h : q
theorem Hq.s {n : Nat} {q : Prop} (h : Hq (n + 1) q) : Hq n q := ⟨h.h⟩
theorem qZ {p q : Prop} (n : Nat) (k : q) (h : Hq n q → p := by
  intro hq_
  repeat (replace hq_ := Hq.s hq_; first
    | refine stp (zE4 rfl ?_) | refine stp (zF6 rfl ?_) | refine zA6 ?_ | refine zU5 ?_ | refine zP8 rfl ?_ | refine stp (zB6 rfl ?_) | refine yG7 ?_ | refine zZ2 ?_ | refine qY7 ?_
    | refine stp (r_loadL rfl (by assumption) (by exact rfl) ?_) | refine stp (zC7 rfl (by assumption) (by rfl) ?_)
    | refine stp (zJ1 rfl ?_) | refine stp (zK3 rfl ?_) | refine stp (zG6 rfl ?_) | refine stp (zI0 rfl ?_) | refine stp (zE8 rfl ?_) | refine stp (zM5 rfl ?_) | refine stp (qA1 rfl rfl rfl ?_) | refine stp (zE5 rfl ?_)
    | refine stp (zY2 rfl ?_) | refine stp (zR8 rfl ?_) | refine stp (zS0 rfl ?_) | refine stp (r_extractL rfl rfl ?_) | refine yD3 ?_ | refine yK8 ?_ | refine stp (zR9 rfl ?_) | refine stp (zO4 rfl ?_) | refine stp (zU8 rfl ?_) | refine stp (zP9 rfl ?_) | refine stp (qM8 rfl ?_) | refine stp (qG5 rfl ?_))
  exact hq_.h) : p := h ⟨k⟩
theorem qO {p q : Prop} (n : Nat) (k : q) (h : Hq n q → p := by
  intro hq_
  repeat (replace hq_ := Hq.s hq_; first
    | refine stp (zE4 rfl ?_) | refine stp (zF6 rfl ?_) | refine zA6 ?_ | refine zU5 ?_ | refine zP8 rfl ?_ | refine stp (zB6 rfl ?_) | refine yG7 ?_ | refine zZ2 ?_ | refine qY7 ?_
    | refine stp (r_loadL rfl (by assumption) (by exact rfl) ?_) | refine stp (zC7 rfl (by assumption) (by rfl) ?_)
    | refine stp (zJ1 rfl ?_) | refine stp (zK3 rfl ?_) | refine stp (zG6 rfl ?_) | refine stp (zI0 rfl ?_) | refine stp (zE8 rfl ?_) | refine stp (zM5 rfl ?_) | refine stp (qA1 rfl rfl rfl ?_) | refine stp (zE5 rfl ?_)
    | refine stp (zY2 rfl ?_) | refine stp (zR8 rfl ?_) | refine stp (zS0 rfl ?_) | refine stp (r_extractL rfl rfl ?_) | refine yD3 ?_ | refine yK8 ?_ | refine stp (zR9 rfl ?_) | refine stp (zO4 rfl ?_) | refine stp (zU8 rfl ?_) | refine stp (zP9 rfl ?_) | refine stp (qM8 rfl ?_) | refine stp (qG5 rfl ?_) | refine stp (zD0 rfl ?_) | refine stp (zE7 rfl ?_))
  exact hq_.h) : p := h ⟨k⟩
theorem qA {p q : Prop} (n : Nat) (k : q) (h : Hq n q → p := by
  intro hq_
  repeat (replace hq_ := Hq.s hq_; apply zA5; · (intro w_ g_; first
    | (refine og rfl ?_; (first | refine zB6 rfl ?_ | refine zE4 rfl ?_ | refine r_loadL rfl (g_.heap (by assumption)) (by exact rfl) ?_ | refine zC7 rfl (g_.heap (by assumption)) (by rfl) ?_ | refine qA1 rfl rfl rfl ?_ | refine zF6 rfl ?_ | refine zJ1 rfl ?_ | refine zG6 rfl ?_ | refine zI0 rfl ?_ | refine zE8 rfl ?_ | refine zK3 rfl ?_ | refine zM5 rfl ?_ | refine zE5 rfl ?_ | refine r_extractL rfl rfl ?_ | refine zY2 rfl ?_ | refine zR8 rfl ?_ | refine zS0 rfl ?_ | refine zR9 rfl ?_ | refine zU8 rfl ?_); exact ⟨Grow.rfl' _, rfl⟩)
    | (refine zE1 rfl ?_; exact ⟨Grow.rfl' _, rfl⟩)))
  exact hq_.h) : p := h ⟨k⟩
theorem qM {p q : Prop} (n : Nat) (k : q) (h : Hq n q → p := by
  intro hq_
  repeat (replace hq_ := Hq.s hq_; (first | apply zE0 (hm := by rfl) | apply zO8 (hm := by rfl)); · (intro w_ g_; first
    | (refine og rfl ?_; (first | refine zB6 rfl ?_ | refine zE4 rfl ?_ | refine qA1 rfl rfl rfl ?_ | refine zF6 rfl ?_ | refine zJ1 rfl ?_ | refine zG6 rfl ?_ | refine zI0 rfl ?_ | refine zE8 rfl ?_ | refine zK3 rfl ?_ | refine zM5 rfl ?_ | refine zE5 rfl ?_ | refine r_extractL rfl rfl ?_ | refine zY2 rfl ?_ | refine zR8 rfl ?_ | refine zS0 rfl ?_ | refine zR9 rfl ?_ | refine zU8 rfl ?_); exact ⟨Grow.rfl' _, rfl⟩)
    | (refine zE1 rfl ?_; exact ⟨Grow.rfl' _, rfl⟩)))
  exact hq_.h) : p := h ⟨k⟩
theorem qG {p q : Prop} (n : Nat) (k : q) (h : Hq n q → p := by
  intro hq_
  repeat (replace hq_ := Hq.s hq_; first
    | (refine zA4 ?_; apply zB7 (s := .bool _) rfl (zG3 _); · (intro hc_; (first | refine zE4 (by first | exact rfl | exact gvt hc_) ?_ | refine zB6 rfl ?_ | refine r_loadL (by first | exact rfl | exact gvt hc_) (by assumption) (by exact rfl) ?_ | refine zJ1 (by first | exact rfl | exact gvt hc_) ?_ | refine qA1 rfl rfl (by first | exact rfl | exact gvt hc_) ?_ | refine zG6 (by first | exact rfl | exact gvt hc_) ?_); exact ⟨rfl, rfl⟩))
    | (refine zA4 ?_; apply zB7 (s := .bool _) rfl (zF0 _); · (intro hc_; (first | refine zE4 (by first | exact rfl | exact gvt hc_) ?_ | refine zB6 rfl ?_ | refine r_loadL (by first | exact rfl | exact gvt hc_) (by assumption) (by exact rfl) ?_ | refine zJ1 (by first | exact rfl | exact gvt hc_) ?_ | refine qA1 rfl rfl (by first | exact rfl | exact gvt hc_) ?_ | refine zG6 (by first | exact rfl | exact gvt hc_) ?_); exact ⟨rfl, rfl⟩)))
  exact hq_.h) : p := h ⟨k⟩
theorem qC {p q : Prop} (k : q) (h : Hq 1 q → p := by
  intro hq_
  first
    | (refine zQ8 rfl rfl ?_ ?_; (first | assumption | omega)) | (refine qP6 rfl rfl ?_ ?_; (first | assumption | omega)) | refine zE2 rfl rfl ?_
    | (refine yX3 rfl rfl ?_ ?_; (first | assumption | omega)) | (refine yL5 rfl rfl ?_ ?_; (first | assumption | omega)) | refine zI5 rfl rfl ?_
    | (refine yX4 rfl rfl ?_ ?_; (first | assumption | omega)) | (refine yL6 rfl rfl ?_ ?_; (first | assumption | omega)) | refine zI1 rfl rfl ?_
    | (refine zW3 rfl rfl ?_ ?_; (first | assumption | omega)) | (refine zW4 rfl rfl ?_ ?_; (first | assumption | omega)) | refine zQ6 rfl rfl ?_
    | (refine yX5 rfl rfl ?_ ?_; (first | assumption | omega)) | (refine yL7 rfl rfl ?_ ?_; (first | assumption | omega)) | refine zQ7 rfl rfl ?_
    | (refine yX6 rfl rfl ?_ ?_; (first | assumption | omega)) | (refine yX7 rfl rfl ?_ ?_; (first | assumption | omega)) | refine qE5 rfl rfl ?_
    | (refine zH0 rfl ?_ rfl ?_; (first | rfl | assumption)) | (refine zH6 rfl ?_ rfl ?_; (first | rfl | assumption))
    | refine yL8 rfl ?_ | refine yL9 rfl ?_ | refine qZ3 rfl ?_ | refine yR6 rfl rfl ?_
  exact hq_.h) : p := h ⟨k⟩
theorem qX {w : World} {v : Value} : Grow w w ∧ v = v := ⟨Grow.rfl' _, rfl⟩
theorem qT {p : Prop} [Decidable p] (h : decide p = true) : p := of_decide_eq_true h
theorem qF {p : Prop} [Decidable p] (h : decide p = false) : ¬ p := of_decide_eq_false h
theorem qN {w : World} {b c : Nat} {o : Obj} (h : w.heap[b]? = some o) (h2 : w.heap.size ≤ c) : b ≠ c := Nat.ne_of_lt (Nat.lt_of_lt_of_le (zC1 h) h2)
section
variable {P : Program} {ops : Array Oper} {e : Env} {w : World} {K : Value → World → Prop} {d : Option Nat} {ty : TypeId} {pos : String} {af : Array Edge} {g : Option (Nat × Bool)}
variable {t u : TypeId} {x y : Operand}
theorem qS {b n : Nat} {ag : Bool} {cs vs : Array Value} {T : TypeId} [hti : TyI P t n ag] (hb : w.heap[b]? = some (.cells cs T (0, 0)))
    (h : ∀ w' : World, w'.heap[b]? = some (.cells vs T (0, 0)) → Upd b w w' → K undef w') (hx : ev e x = .pointer (some ⟨b, 0, none⟩) := by exact rfl) (hy : ev e y = .agg vs := by exact rfl) (hn : vs.size = n := by rfl) (hf : cs.size = n := by rfl) (h1 : vs.toList.all Value.oneCell' = true := by rfl) : Run1 P ⟨d, .store t x y, ty, pos, af, g⟩ e w K := yH2 hx hy hb hn hf h1 h
end
end Go.Proofs.YtkkbbhpbcfcplaaGreat.K
namespace Go.Proofs.YtkkbbhpbcfcplaaGreat.K
open Go Go.RowKit Go.Proofs
instance : UndI Tryz.prog 3 := ⟨⟨_, Tryz.underlying3⟩⟩
instance : TyI Tryz.prog 3 1 false := ⟨by kernel_rfl⟩
instance : IntI Tryz.prog 3 .i64 := ⟨Tryz.underlying3⟩
instance : TyI Tryz.prog 4 1 false := ⟨by kernel_rfl⟩
instance : UndI Tryz.prog 5 := ⟨⟨_, Tryz.underlying5⟩⟩
instance : TyI Tryz.prog 5 1 false := ⟨by kernel_rfl⟩
instance : IntI Tryz.prog 5 .u8 := ⟨Tryz.underlying5⟩
instance : StrI Tryz.prog 9 := ⟨Tryz.underlying9⟩
instance : TyI Tryz.prog 22 1 false := ⟨by kernel_rfl⟩
instance : ElI Tryz.prog 22 5 1 := ⟨by kernel_rfl⟩
instance : ElzI Tryz.prog 22 5 1 1 (.int .u8 0) := ⟨by kernel_rfl⟩
instance : UndI Tryz.prog 23 := ⟨⟨_, Tryz.underlying23⟩⟩
instance : TyI Tryz.prog 23 1 false := ⟨by kernel_rfl⟩
instance : ZeroI Tryz.prog 23 #[.int .u64 0] := ⟨by kernel_rfl⟩
instance : IntI Tryz.prog 23 .u64 := ⟨Tryz.underlying23⟩
instance : TyI Tryz.prog 26 1 false := ⟨by kernel_rfl⟩
instance : ElI Tryz.prog 26 37 1 := ⟨by kernel_rfl⟩
instance : ElzI Tryz.prog 26 37 1 24 (.slice none 0 0) := ⟨by kernel_rfl⟩
instance : TyI Tryz.prog 28 1 false := ⟨by kernel_rfl⟩
instance : ElI Tryz.prog 28 3 1 := ⟨by kernel_rfl⟩
instance : ElzI Tryz.prog 28 3 1 8 (.int .i64 0) := ⟨by kernel_rfl⟩
instance : TyI Tryz.prog 30 2 true := ⟨by kernel_rfl⟩
instance : FldI Tryz.prog 30 0 0 := ⟨by kernel_rfl⟩
instance : FldI Tryz.prog 30 1 1 := ⟨by kernel_rfl⟩
instance : TyI Tryz.prog 32 1 false := ⟨by kernel_rfl⟩
instance : ElI Tryz.prog 32 61 2 := ⟨by kernel_rfl⟩
instance : ElzI Tryz.prog 32 61 2 16 (.agg #[.int .i64 0, .int .i64 0]) := ⟨by kernel_rfl⟩
instance : TyI Tryz.prog 37 1 false := ⟨by kernel_rfl⟩
instance : ZeroI Tryz.prog 37 #[.slice none 0 0] := ⟨by kernel_rfl⟩
instance : ElI Tryz.prog 37 23 1 := ⟨by kernel_rfl⟩
instance : ElzI Tryz.prog 37 23 1 8 (.int .u64 0) := ⟨by kernel_rfl⟩
instance : TyI Tryz.prog 40 5 true := ⟨by kernel_rfl⟩
instance : ZeroI Tryz.prog 40 #[.int .i64 0, .int .i64 0, .int .i64 0, .int .i64 0, .int .u64 0] := ⟨by kernel_rfl⟩
instance : FldI Tryz.prog 40 2 2 := ⟨by kernel_rfl⟩
instance : FldI Tryz.prog 40 3 3 := ⟨by kernel_rfl⟩
instance : TyI Tryz.prog 46 1 false := ⟨by kernel_rfl⟩
instance : ElI Tryz.prog 46 48 5 := ⟨by kernel_rfl⟩
instance : ElzI Tryz.prog 46 48 5 88 (.agg #[.int .i64 0, .int .i64 0, .slice none 0 0, .slice none 0 0, .slice none 0 0]) := ⟨by kernel_rfl⟩
instance : TyI Tryz.prog 48 5 true := ⟨by kernel_rfl⟩
instance : ZeroI Tryz.prog 48 #[.int .i64 0, .int .i64 0, .slice none 0 0, .slice none 0 0, .slice none 0 0] := ⟨by kernel_rfl⟩
instance : FldI Tryz.prog 48 0 0 := ⟨by kernel_rfl⟩
instance : FldI Tryz.prog 48 1 1 := ⟨by kernel_rfl⟩
instance : FldI Tryz.prog 48 2 2 := ⟨by kernel_rfl⟩
instance : FldI Tryz.prog 48 3 3 := ⟨by kernel_rfl⟩
instance : FldI Tryz.prog 48 4 4 := ⟨by kernel_rfl⟩
instance : TyI Tryz.prog 61 2 true := ⟨by kernel_rfl⟩
instance : ZeroI Tryz.prog 61 #[.int .i64 0, .int .i64 0] := ⟨by kernel_rfl⟩
instance : FlatI Tryz.prog 61 [.i .i64, .i .i64] := ⟨by kernel_rfl⟩
instance : FldI Tryz.prog 61 0 0 := ⟨by kernel_rfl⟩
instance : FldI Tryz.prog 61 1 1 := ⟨by kernel_rfl⟩
instance : TyI Tryz.prog 70 8 true := ⟨by kernel_rfl⟩
instance : ZeroI Tryz.prog 70 #[.int .i64 0, .int .i64 0, .int .i64 0, .int .i64 0, .int .i64 0, .int .i64 0, .int .i64 0, .bool false] := ⟨by kernel_rfl⟩
instance : FlatI Tryz.prog 70 [.i .i64, .i .i64, .i .i64, .i .i64, .i .i64, .i .i64, .i .i64, .b] := ⟨by kernel_rfl⟩
instance : FldI Tryz.prog 70 0 0 := ⟨by kernel_rfl⟩
instance : FldI Tryz.prog 70 1 1 := ⟨by kernel_rfl⟩
instance : FldI Tryz.prog 70 2 2 := ⟨by kernel_rfl⟩
instance : FldI Tryz.prog 70 3 3 := ⟨by kernel_rfl⟩
instance : FldI Tryz.prog 70 4 4 := ⟨by kernel_rfl⟩
instance : FldI Tryz.prog 70 5 5 := ⟨by kernel_rfl⟩
instance : FldI Tryz.prog 70 6 6 := ⟨by kernel_rfl⟩
instance : FldI Tryz.prog 70 7 7 := ⟨by kernel_rfl⟩
instance : ConcI Tryz.prog 74 := ⟨by kernel_rfl⟩
instance : TyI Tryz.prog 76 1 false := ⟨by kernel_rfl⟩
instance : FtI Tryz.prog 79 0 76 := ⟨by kernel_rfl⟩
instance : FldI Tryz.prog 79 0 0 := ⟨by kernel_rfl⟩
instance : FldI Tryz.prog 79 1 1 := ⟨by kernel_rfl⟩
instance : IntI Tryz.prog 96 .u64 := ⟨Tryz.underlying96⟩
instance : TyI Tryz.prog 99 3 true := ⟨by kernel_rfl⟩
instance : ZeroI Tryz.prog 99 #[.slice none 0 0, .int .i64 0, .bool false] := ⟨by kernel_rfl⟩
instance : FldI Tryz.prog 99 0 0 := ⟨by kernel_rfl⟩
instance : FldI Tryz.prog 99 1 1 := ⟨by kernel_rfl⟩
instance : FldI Tryz.prog 99 2 2 := ⟨by kernel_rfl⟩
instance : FldI Tryz.prog 110 0 0 := ⟨by kernel_rfl⟩
instance : ConcI Tryz.prog 110 := ⟨by kernel_rfl⟩
instance : TyI Tryz.prog 112 7 true := ⟨by kernel_rfl⟩
instance : ZeroI Tryz.prog 112 #[.int .i64 0, .int .i64 0, .int .i64 0, .int .i64 0, .int .i64 0, .int .i64 0, .int .i64 0] := ⟨by kernel_rfl⟩
instance : FldI Tryz.prog 112 0 0 := ⟨by kernel_rfl⟩
instance : FldI Tryz.prog 112 1 1 := ⟨by kernel_rfl⟩
instance : FldI Tryz.prog 112 2 2 := ⟨by kernel_rfl⟩
instance : FldI Tryz.prog 112 3 3 := ⟨by kernel_rfl⟩
instance : FldI Tryz.prog 112 4 4 := ⟨by kernel_rfl⟩
instance : FldI Tryz.prog 112 5 5 := ⟨by kernel_rfl⟩
instance : FldI Tryz.prog 112 6 6 := ⟨by kernel_rfl⟩
instance : FldI Tryz.prog 117 0 0 := ⟨by kernel_rfl⟩
instance : FldI Tryz.prog 117 1 1 := ⟨by kernel_rfl⟩
instance : FldI Tryz.prog 117 2 8 := ⟨by kernel_rfl⟩
instance : FldI Tryz.prog 144 0 0 := ⟨by kernel_rfl⟩
instance : FldI Tryz.prog 144 1 1 := ⟨by kernel_rfl⟩
instance : FldI Tryz.prog 144 2 2 := ⟨by kernel_rfl⟩
instance : FldI Tryz.prog 172 0 0 := ⟨by kernel_rfl⟩
instance : FldI Tryz.prog 172 1 1 := ⟨by kernel_rfl⟩
instance : TyI Tryz.prog 205 2 true := ⟨by kernel_rfl⟩
instance : ZeroI Tryz.prog 205 #[.int .i64 0, .int .i64 0] := ⟨by kernel_rfl⟩
instance : FldI Tryz.prog 205 0 0 := ⟨by kernel_rfl⟩
instance : FtI Tryz.prog 205 1 3 := ⟨by kernel_rfl⟩
instance : FldI Tryz.prog 205 1 1 := ⟨by kernel_rfl⟩
instance : TyI Tryz.prog 218 3 true := ⟨by kernel_rfl⟩
instance : ZeroI Tryz.prog 218 #[.int .i64 0, .int .i64 0, .int .i64 0] := ⟨by kernel_rfl⟩
instance : FldI Tryz.prog 218 0 0 := ⟨by kernel_rfl⟩
instance : FldI Tryz.prog 218 1 2 := ⟨by kernel_rfl⟩
instance : ElI Tryz.prog 225 218 3 := ⟨by kernel_rfl⟩
instance : FuncI Tryz.prog 9 := ⟨⟨Tryz.f9, Tryz.func9, rfl⟩⟩   -- sculler/scullerlaw11.known
instance : FuncI Tryz.prog 12 := ⟨⟨Tryz.f12, Tryz.func12, rfl⟩⟩   -- sculler/valid.Touched
instance : FuncI Tryz.prog 16 := ⟨⟨Tryz.f16, Tryz.func16, rfl⟩⟩   -- sculler/valid.Check
instance : FuncI Tryz.prog 20 := ⟨⟨Tryz.f20, Tryz.func20, rfl⟩⟩   -- sculler/scullerlaw08.Tree
instance : FuncI Tryz.prog 21 := ⟨⟨Tryz.f21, Tryz.func21, rfl⟩⟩   -- sculler/scullerref08.Build
instance : FuncI Tryz.prog 26 := ⟨⟨Tryz.f26, Tryz.func26, rfl⟩⟩   -- sculler/valid.Canon
instance : FuncI Tryz.prog 27 := ⟨⟨Tryz.f27, Tryz.func27, rfl⟩⟩   -- sculler/valid.Equal
instance : FuncI Tryz.prog 28 := ⟨⟨Tryz.f28, Tryz.func28, rfl⟩⟩   -- sculler/scullerref07.Same
instance : FuncI Tryz.prog 29 := ⟨⟨Tryz.f29, Tryz.func29, rfl⟩⟩   -- sculler/scullerref06.Encode
instance : FuncI Tryz.prog 30 := ⟨⟨Tryz.f30, Tryz.func30, rfl⟩⟩   -- sculler/arena.Right
instance : FuncI Tryz.prog 31 := ⟨⟨Tryz.f31, Tryz.func31, rfl⟩⟩   -- sculler/read.Whole
instance : FuncI Tryz.prog 32 := ⟨⟨Tryz.f32, Tryz.func32, rfl⟩⟩   -- sculler/read.Walk
instance : FuncI Tryz.prog 33 := ⟨⟨Tryz.f33, Tryz.func33, rfl⟩⟩   -- sculler/span.Norm
instance : FuncI Tryz.prog 36 := ⟨⟨Tryz.f36, Tryz.func36, rfl⟩⟩   -- sculler/valid.decoded
instance : FuncI Tryz.prog 41 := ⟨⟨Tryz.f41, Tryz.func41, rfl⟩⟩   -- sculler/scullerref08.Right
instance : FuncI Tryz.prog 42 := ⟨⟨Tryz.f42, Tryz.func42, rfl⟩⟩   -- sculler/scullerref08.lay
instance : FuncI Tryz.prog 46 := ⟨⟨Tryz.f46, Tryz.func46, rfl⟩⟩   -- sculler/build.Build
instance : FuncI Tryz.prog 47 := ⟨⟨Tryz.f47, Tryz.func47, rfl⟩⟩   -- sculler/build.Same
instance : FuncI Tryz.prog 48 := ⟨⟨Tryz.f48, Tryz.func48, rfl⟩⟩   -- sculler/scullerref06.low
instance : FuncI Tryz.prog 49 := ⟨⟨Tryz.f49, Tryz.func49, rfl⟩⟩   -- sculler/scullerref06.Decode
instance : FuncI Tryz.prog 50 := ⟨⟨Tryz.f50, Tryz.func50, rfl⟩⟩   -- sculler/arena.Fits
instance : FuncI Tryz.prog 51 := ⟨⟨Tryz.f51, Tryz.func51, rfl⟩⟩   -- sculler/arena.Sizes
instance : FuncI Tryz.prog 52 := ⟨⟨Tryz.f52, Tryz.func52, rfl⟩⟩   -- sculler/read.Follow
instance : FuncI Tryz.prog 53 := ⟨⟨Tryz.f53, Tryz.func53, rfl⟩⟩   -- (*sculler/read.walker).pay
instance : FuncI Tryz.prog 54 := ⟨⟨Tryz.f54, Tryz.func54, rfl⟩⟩   -- (*sculler/read.walker).step
instance : FuncI Tryz.prog 55 := ⟨⟨Tryz.f55, Tryz.func55, rfl⟩⟩   -- (*sculler/read.walker).is
instance : FuncI Tryz.prog 56 := ⟨⟨Tryz.f56, Tryz.func56, rfl⟩⟩   -- (*sculler/read.walker).word
instance : FuncI Tryz.prog 57 := ⟨⟨Tryz.f57, Tryz.func57, rfl⟩⟩   -- slices.DeleteFunc[[]sculler/api.Span,sculler/api.Span]
instance : FuncI Tryz.prog 58 := ⟨⟨Tryz.f58, Tryz.func58, rfl⟩⟩   -- slices.Clone[[]sculler/api.Span,sculler/api.Span]
instance : FuncI Tryz.prog 59 := ⟨⟨Tryz.f59, Tryz.func59, rfl⟩⟩   -- sculler/span.none
instance : FuncI Tryz.prog 60 := ⟨⟨Tryz.f60, Tryz.func60, rfl⟩⟩   -- slices.SortFunc[[]sculler/api.Span,sculler/api.Span]
instance : FuncI Tryz.prog 62 := ⟨⟨Tryz.f62, Tryz.func62, rfl⟩⟩   -- cmp.Or[int]
instance : FuncI Tryz.prog 63 := ⟨⟨Tryz.f63, Tryz.func63, rfl⟩⟩   -- cmp.Compare[int]
instance : FuncI Tryz.prog 70 := ⟨⟨Tryz.f70, Tryz.func70, rfl⟩⟩   -- sculler/tree.Decode
instance : FuncI Tryz.prog 71 := ⟨⟨Tryz.f71, Tryz.func71, rfl⟩⟩   -- sculler/build.Right
instance : FuncI Tryz.prog 73 := ⟨⟨Tryz.f73, Tryz.func73, rfl⟩⟩   -- sculler/scullerref08.deep
instance : FuncI Tryz.prog 74 := ⟨⟨Tryz.f74, Tryz.func74, rfl⟩⟩   -- sculler/scullerref08.Need
instance : FuncI Tryz.prog 75 := ⟨⟨Tryz.f75, Tryz.func75, rfl⟩⟩   -- sculler/scullerref08.set
instance : FuncI Tryz.prog 76 := ⟨⟨Tryz.f76, Tryz.func76, rfl⟩⟩   -- sculler/scullerref08.near
instance : FuncI Tryz.prog 77 := ⟨⟨Tryz.f77, Tryz.func77, rfl⟩⟩   -- sculler/scullerref08.more
instance : FuncI Tryz.prog 78 := ⟨⟨Tryz.f78, Tryz.func78, rfl⟩⟩   -- sculler/scullerref08.far
instance : FuncI Tryz.prog 79 := ⟨⟨Tryz.f79, Tryz.func79, rfl⟩⟩   -- sculler/scullerref08.content
instance : FuncI Tryz.prog 81 := ⟨⟨Tryz.f81, Tryz.func81, rfl⟩⟩   -- (*sculler/build.builder).lay
instance : FuncI Tryz.prog 82 := ⟨⟨Tryz.f82, Tryz.func82, rfl⟩⟩   -- slices.Equal[[]uint64,uint64]
instance : FuncI Tryz.prog 83 := ⟨⟨Tryz.f83, Tryz.func83, rfl⟩⟩   -- bytes.Equal
instance : FuncI Tryz.prog 84 := ⟨⟨Tryz.f84, Tryz.func84, rfl⟩⟩   -- slices.EqualFunc[[]sculler/api.Node,[]sculler/api.Node,sculler/api.Node,sculler/api.Node]
instance : FuncI Tryz.prog 85 := ⟨⟨Tryz.f85, Tryz.func85, rfl⟩⟩   -- sculler/scullerref06.bits
instance : FuncI Tryz.prog 86 := ⟨⟨Tryz.f86, Tryz.func86, rfl⟩⟩   -- sculler/scullerref01.Signed
instance : FuncI Tryz.prog 87 := ⟨⟨Tryz.f87, Tryz.func87, rfl⟩⟩   -- sculler/word.Add
instance : FuncI Tryz.prog 88 := ⟨⟨Tryz.f88, Tryz.func88, rfl⟩⟩   -- sculler/read.pointer
instance : FuncI Tryz.prog 89 := ⟨⟨Tryz.f89, Tryz.func89, rfl⟩⟩   -- sculler/read.near
instance : FuncI Tryz.prog 90 := ⟨⟨Tryz.f90, Tryz.func90, rfl⟩⟩   -- sculler/read.found
instance : FuncI Tryz.prog 91 := ⟨⟨Tryz.f91, Tryz.func91, rfl⟩⟩   -- sculler/read.twice
instance : FuncI Tryz.prog 92 := ⟨⟨Tryz.f92, Tryz.func92, rfl⟩⟩   -- sculler/read.landed
instance : FuncI Tryz.prog 93 := ⟨⟨Tryz.f93, Tryz.func93, rfl⟩⟩   -- sculler/read.Words
instance : FuncI Tryz.prog 94 := ⟨⟨Tryz.f94, Tryz.func94, rfl⟩⟩   -- slices.IndexFunc[[]sculler/api.Span,sculler/api.Span]
instance : FuncI Tryz.prog 97 := ⟨⟨Tryz.f97, Tryz.func97, rfl⟩⟩   -- cmp.isNaN[int]
instance : FuncI Tryz.prog 105 := ⟨⟨Tryz.f105, Tryz.func105, rfl⟩⟩   -- (*sculler/tree.decoder).node
instance : FuncI Tryz.prog 106 := ⟨⟨Tryz.f106, Tryz.func106, rfl⟩⟩   -- sculler/build.right
instance : FuncI Tryz.prog 109 := ⟨⟨Tryz.f109, Tryz.func109, rfl⟩⟩   -- sculler/scullerref07.Words
instance : FuncI Tryz.prog 110 := ⟨⟨Tryz.f110, Tryz.func110, rfl⟩⟩   -- sculler/scullerref01.Get
instance : FuncI Tryz.prog 111 := ⟨⟨Tryz.f111, Tryz.func111, rfl⟩⟩   -- sculler/build.Need
instance : FuncI Tryz.prog 112 := ⟨⟨Tryz.f112, Tryz.func112, rfl⟩⟩   -- sculler/build.near
instance : FuncI Tryz.prog 113 := ⟨⟨Tryz.f113, Tryz.func113, rfl⟩⟩   -- (*sculler/build.builder).place
instance : FuncI Tryz.prog 114 := ⟨⟨Tryz.f114, Tryz.func114, rfl⟩⟩   -- (*sculler/build.builder).grow
instance : FuncI Tryz.prog 115 := ⟨⟨Tryz.f115, Tryz.func115, rfl⟩⟩   -- sculler/build.content
instance : FuncI Tryz.prog 116 := ⟨⟨Tryz.f116, Tryz.func116, rfl⟩⟩   -- sculler/ptr.Decode
instance : FuncI Tryz.prog 117 := ⟨⟨Tryz.f117, Tryz.func117, rfl⟩⟩   -- sculler/ptr.Words
instance : FuncI Tryz.prog 118 := ⟨⟨Tryz.f118, Tryz.func118, rfl⟩⟩   -- sculler/read.of
instance : FuncI Tryz.prog 119 := ⟨⟨Tryz.f119, Tryz.func119, rfl⟩⟩   -- sculler/arena.Within
instance : FuncI Tryz.prog 131 := ⟨⟨Tryz.f131, Tryz.func131, rfl⟩⟩   -- (*sculler/tree.decoder).words
instance : FuncI Tryz.prog 132 := ⟨⟨Tryz.f132, Tryz.func132, rfl⟩⟩   -- (*sculler/tree.decoder).bytes
instance : FuncI Tryz.prog 133 := ⟨⟨Tryz.f133, Tryz.func133, rfl⟩⟩   -- sculler/build.own
instance : FuncI Tryz.prog 134 := ⟨⟨Tryz.f134, Tryz.func134, rfl⟩⟩   -- slices.ContainsFunc[[]sculler/api.Node,sculler/api.Node]
instance : FuncI Tryz.prog 135 := ⟨⟨Tryz.f135, Tryz.func135, rfl⟩⟩   -- sculler/build.right$1
instance : FuncI Tryz.prog 136 := ⟨⟨Tryz.f136, Tryz.func136, rfl⟩⟩   -- sculler/word.Ceil
instance : FuncI Tryz.prog 137 := ⟨⟨Tryz.f137, Tryz.func137, rfl⟩⟩   -- sculler/ptr.Encode
instance : FuncI Tryz.prog 138 := ⟨⟨Tryz.f138, Tryz.func138, rfl⟩⟩   -- slices.Clone[[]uint64,uint64]
instance : FuncI Tryz.prog 139 := ⟨⟨Tryz.f139, Tryz.func139, rfl⟩⟩   -- slices.Chunk[[]byte,byte]
instance : FuncI Tryz.prog 140 := ⟨⟨Tryz.f140, Tryz.func140, rfl⟩⟩   -- sculler/word.Get
instance : FuncI Tryz.prog 141 := ⟨⟨Tryz.f141, Tryz.func141, rfl⟩⟩   -- sculler/ptr.kind
instance : FuncI Tryz.prog 142 := ⟨⟨Tryz.f142, Tryz.func142, rfl⟩⟩   -- (sculler/ptr.field).get
instance : FuncI Tryz.prog 143 := ⟨⟨Tryz.f143, Tryz.func143, rfl⟩⟩   -- sculler/ptr.data
instance : FuncI Tryz.prog 144 := ⟨⟨Tryz.f144, Tryz.func144, rfl⟩⟩   -- sculler/ptr.ptrs
instance : FuncI Tryz.prog 145 := ⟨⟨Tryz.f145, Tryz.func145, rfl⟩⟩   -- sculler/ptr.size
instance : FuncI Tryz.prog 146 := ⟨⟨Tryz.f146, Tryz.func146, rfl⟩⟩   -- sculler/ptr.count
instance : FuncI Tryz.prog 147 := ⟨⟨Tryz.f147, Tryz.func147, rfl⟩⟩   -- sculler/ptr.place
instance : FuncI Tryz.prog 148 := ⟨⟨Tryz.f148, Tryz.func148, rfl⟩⟩   -- sculler/ptr.seg
instance : FuncI Tryz.prog 149 := ⟨⟨Tryz.f149, Tryz.func149, rfl⟩⟩   -- sculler/ptr.double
instance : FuncI Tryz.prog 150 := ⟨⟨Tryz.f150, Tryz.func150, rfl⟩⟩   -- sculler/word.Signed
instance : FuncI Tryz.prog 151 := ⟨⟨Tryz.f151, Tryz.func151, rfl⟩⟩   -- sculler/ptr.off
instance : FuncI Tryz.prog 157 := ⟨⟨Tryz.f157, Tryz.func157, rfl⟩⟩   -- sculler/word.Put
instance : FuncI Tryz.prog 158 := ⟨⟨Tryz.f158, Tryz.func158, rfl⟩⟩   -- slices.IndexFunc[[]sculler/api.Node,sculler/api.Node]
instance : FuncI Tryz.prog 159 := ⟨⟨Tryz.f159, Tryz.func159, rfl⟩⟩   -- sculler/ptr.join
instance : FuncI Tryz.prog 160 := ⟨⟨Tryz.f160, Tryz.func160, rfl⟩⟩   -- slices.Chunk[[]byte,byte]$1
instance : FuncI Tryz.prog 161 := ⟨⟨Tryz.f161, Tryz.func161, rfl⟩⟩   -- slices.Backward[[]byte,byte]
instance : FuncI Tryz.prog 163 := ⟨⟨Tryz.f163, Tryz.func163, rfl⟩⟩   -- slices.Backward[[]byte,byte]$1
instance : FuncI Tryz.prog 181 := ⟨⟨Tryz.f181, Tryz.func181, rfl⟩⟩   -- sculler/arena.Place
instance : FuncI Tryz.prog 184 := ⟨⟨Tryz.f184, Tryz.func184, rfl⟩⟩   -- sculler/arena.Word
theorem mixed : Tryz.prog.follows .mixedOrders = true := by kernel_rfl
end Go.Proofs.YtkkbbhpbcfcplaaGreat.K
namespace Go.Proofs.YtkkbbhpbcfcplaaGreat.K
open Go Go.RowKit
theorem wrap_u64 (n : Int) : IntKind.u64.wrap n = n % 18446744073709551616 := by simp [IntKind.wrap, IntKind.bits, IntKind.signed]
theorem yM7 {k : IntKind} {a b : Int} (ha : 0 ≤ a) (hb : 0 ≤ b) (ha' : a < 2 ^ k.bits) (hb' : b < 2 ^ k.bits) : qC3 .and k a b = k.wrap ((a.toNat &&& b.toNat : Nat) : Int) := by
  simp only [qC3, BitVec.toNat_and, BitVec.toNat_ofInt]
  congr 2
  have h1 : (a % ((2 ^ k.bits : Nat) : Int)).toNat = a.toNat := by rw [Int.emod_eq_of_lt ha (by simpa using ha')]
  have h2 : (b % ((2 ^ k.bits : Nat) : Int)).toNat = b.toNat := by rw [Int.emod_eq_of_lt hb (by simpa using hb')]
  rw [h1, h2]
theorem yE5 {k : IntKind} {a b : Int} (ha : 0 ≤ a) (hb : 0 ≤ b) (ha' : a < 2 ^ k.bits) (hb' : b < 2 ^ k.bits) : qC3 .or k a b = k.wrap ((a.toNat ||| b.toNat : Nat) : Int) := by
  simp only [qC3, BitVec.toNat_or, BitVec.toNat_ofInt]
  congr 2
  have h1 : (a % ((2 ^ k.bits : Nat) : Int)).toNat = a.toNat := by rw [Int.emod_eq_of_lt ha (by simpa using ha')]
  have h2 : (b % ((2 ^ k.bits : Nat) : Int)).toNat = b.toNat := by rw [Int.emod_eq_of_lt hb (by simpa using hb')]
  rw [h1, h2]
def getF (at_ wide x : Int) : Int := qC3 .and .u64 (x / 2 ^ min at_.toNat 64) (IntKind.u64.wrap (IntKind.u64.wrap (1 * 2 ^ min wide.toNat 64) - 1))
theorem zQ9 (a b : Nat) (ha : a ≤ 63) (hb : b ≤ 63) (x : Int) (h0 : 0 ≤ x) (h1 : x ≤ 18446744073709551615) : getF a b x = x / 2 ^ a % 2 ^ b := by
  unfold getF
  have e1 : min ((a : Int)).toNat 64 = a := by simp; omega
  have e2 : min ((b : Int)).toNat 64 = b := by simp; omega
  rw [e1, e2, Int.one_mul]
  have hp : (2 : Int) ^ b ≤ 2 ^ 63 := by
    have := Nat.pow_le_pow_right (show 0 < 2 by omega) hb
    exact_mod_cast this
  have hp1 : (1 : Int) ≤ 2 ^ b := by
    have := Nat.one_le_two_pow (n := b)
    exact_mod_cast this
  have hw1 : IntKind.u64.wrap ((2 : Int) ^ b) = 2 ^ b := by rw [wrap_u64]; omega
  have hw2 : IntKind.u64.wrap ((2 : Int) ^ b - 1) = 2 ^ b - 1 := by rw [wrap_u64]; omega
  rw [hw1, hw2]
  have hq0 : 0 ≤ x / 2 ^ a := Int.ediv_nonneg h0 (by have := Nat.one_le_two_pow (n := a); have : (1 : Int) ≤ 2 ^ a := by exact_mod_cast this
                                                     omega)
  have hq1 : x / 2 ^ a ≤ x := Int.ediv_le_self _ h0
  rw [yM7 hq0 (by omega) (by show _ < (18446744073709551616 : Int); omega) (by show _ < (18446744073709551616 : Int); omega)]
  have ht : ((2 : Int) ^ b - 1).toNat = 2 ^ b - 1 := by
    have : ((2 : Int) ^ b - 1) = ((2 ^ b - 1 : Nat) : Int) := by
      have := Nat.one_le_two_pow (n := b); push_cast [this]; rfl
    rw [this]; simp
  rw [ht, Nat.and_two_pow_sub_one_eq_mod]
  have hx : ((((x / 2 ^ a).toNat % 2 ^ b : Nat)) : Int) = x / 2 ^ a % 2 ^ b := by
    rw [Int.natCast_emod, Int.toNat_of_nonneg hq0]; simp
  rw [hx]
  have hm0 := Int.emod_nonneg (x / 2 ^ a) (show (2 : Int) ^ b ≠ 0 by omega)
  have hm1 := Int.emod_lt_of_pos (x / 2 ^ a) (show (0 : Int) < 2 ^ b by omega)
  rw [wrap_u64]; omega
def zW0 (n : Int) : Int := if n < 536870912 then n else n - 1073741824
theorem yM8 (n : Int) (h0 : 0 ≤ n) (h1 : n < 1073741824) :
    IntKind.i64.wrap (IntKind.u64.wrap (n * 2 ^ min ((64 : Int) - 30).toNat IntKind.u64.bits)) / 2 ^ min ((64 : Int) - 30).toNat IntKind.i64.bits = zW0 n := by
  show IntKind.i64.wrap (IntKind.u64.wrap (n * 17179869184)) / 17179869184 = zW0 n
  rw [wrap_u64, IntKind.wrap_i64]
  unfold zW0
  split <;> omega
def yS2 (acc : Int) (p : Int × Int × Int) : Int :=
  qC3 .or .u64 acc (IntKind.u64.wrap (qC3 .and .u64 (IntKind.u64.wrap p.2.2) (IntKind.u64.wrap (IntKind.u64.wrap (1 * 2 ^ min p.2.1.toNat 64) - 1)) * 2 ^ min p.1.toNat 64))
def qU0 (l : List (Int × Int × Int)) : Int := l.foldl yS2 0
theorem qI1 (a b : Nat) (hb : b ≤ 63) (hab : a + b ≤ 64) (acc n : Int) (h0 : 0 ≤ acc) (h1 : acc < 2 ^ a) : yS2 acc (a, b, n) = acc + n % 2 ^ b * 2 ^ a := by
  have hm0 : 0 ≤ n % 18446744073709551616 := by omega
  have hg := zQ9 0 b (by omega) hb (n % 18446744073709551616) hm0 (by omega)
  unfold getF at hg
  simp only [Int.natCast_zero, Int.toNat_zero, Nat.zero_min, Int.pow_zero, Int.ediv_one] at hg
  unfold yS2
  simp only
  rw [wrap_u64 n, hg]
  have hp1 : (1 : Int) ≤ 2 ^ b := by have := Nat.one_le_two_pow (n := b); exact_mod_cast this
  have hp2 : (1 : Int) ≤ 2 ^ a := by have := Nat.one_le_two_pow (n := a); exact_mod_cast this
  have hdvd : ((2 : Int) ^ b) ∣ 18446744073709551616 := by
    have : (18446744073709551616 : Int) = 2 ^ b * 2 ^ (64 - b) := by rw [← Int.pow_add]; rw [show b + (64 - b) = 64 from by omega]; rfl
    rw [this]; exact Int.dvd_mul_right _ _
  rw [Int.emod_emod_of_dvd n hdvd]
  have hr0 := Int.emod_nonneg n (show (2 : Int) ^ b ≠ 0 by omega)
  have hr1 := Int.emod_lt_of_pos n (show (0 : Int) < 2 ^ b by omega)
  by_cases ha : a = 64
  · subst ha
    have hb0 : b = 0 := by omega
    subst hb0
    have : n % 2 ^ 0 = 0 := by simp
    rw [this]
    simp only [Int.zero_mul, Int.add_zero]
    rw [yE5 h0 (by rw [wrap_u64]; omega) (by exact h1) (by rw [wrap_u64]; show _ < (18446744073709551616 : Int); omega)]
    have h1' : acc < 18446744073709551616 := h1
    rw [wrap_u64, wrap_u64]
    simp
    omega
  have e1 : min ((a : Int)).toNat 64 = a := by simp; omega
  rw [e1]
  have hprod : (n % 2 ^ b) * 2 ^ a < 18446744073709551616 := by
    have h3 : (n % 2 ^ b) * 2 ^ a < 2 ^ b * 2 ^ a := Int.mul_lt_mul_of_pos_right hr1 (by omega)
    have h4 : (2 : Int) ^ b * 2 ^ a ≤ 18446744073709551616 := by
      rw [← Int.pow_add]
      have := Nat.pow_le_pow_right (show 0 < 2 by omega) (show b + a ≤ 64 by omega)
      have h5 : ((2 ^ (b + a) : Nat) : Int) ≤ ((2 ^ 64 : Nat) : Int) := by exact_mod_cast this
      simpa using h5
    omega
  have hprod0 : 0 ≤ (n % 2 ^ b) * 2 ^ a := Int.mul_nonneg hr0 (by omega)
  have hacc : acc < 18446744073709551616 := by
    have := Nat.pow_le_pow_right (show 0 < 2 by omega) (show a ≤ 64 by omega)
    have h5 : ((2 ^ a : Nat) : Int) ≤ ((2 ^ 64 : Nat) : Int) := by exact_mod_cast this
    have h6 : (2 : Int) ^ a ≤ 18446744073709551616 := by simpa using h5
    omega
  rw [show IntKind.u64.wrap (n % 2 ^ b * 2 ^ a) = n % 2 ^ b * 2 ^ a from by rw [wrap_u64]; omega]
  rw [yE5 h0 hprod0 (by exact hacc) (by exact hprod)]
  obtain ⟨x, hx⟩ := Int.eq_ofNat_of_zero_le h0
  obtain ⟨y, hy⟩ := Int.eq_ofNat_of_zero_le hr0
  rw [hx, hy]
  have hxa : x < 2 ^ a := by have : ((x : Nat) : Int) < ((2 ^ a : Nat) : Int) := by rw [← hx]; simpa using h1
                             exact_mod_cast this
  have ht : ((y : Int) * 2 ^ a).toNat = y * 2 ^ a := by
    have : ((y : Int) * 2 ^ a) = ((y * 2 ^ a : Nat) : Int) := by push_cast; rfl
    rw [this, Int.toNat_natCast]
  rw [ht]
  simp only [Int.toNat_natCast]
  rw [Nat.or_comm, Nat.mul_comm y, ← Nat.two_pow_add_eq_or_of_lt hxa, wrap_u64]
  have hsum : ((2 ^ a * y + x : Nat) : Int) = x + y * 2 ^ a := by push_cast; rw [Int.mul_comm]; omega
  rw [hsum, Int.emod_eq_of_lt]
  · rw [hx, hy] at *; omega
  · -- the sum stays below 2^64
    have h7 : (y : Int) + 1 ≤ 2 ^ b := by rw [← hy]; omega
    have h8 : ((y : Int) + 1) * 2 ^ a ≤ 2 ^ b * 2 ^ a := Int.mul_le_mul_of_nonneg_right h7 (by omega)
    have h4 : (2 : Int) ^ b * 2 ^ a ≤ 18446744073709551616 := by
      rw [← Int.pow_add]
      have := Nat.pow_le_pow_right (show 0 < 2 by omega) (show b + a ≤ 64 by omega)
      have h5 : ((2 ^ (b + a) : Nat) : Int) ≤ ((2 ^ 64 : Nat) : Int) := by exact_mod_cast this
      simpa using h5
    rw [Int.add_mul, Int.one_mul] at h8
    rw [hx] at h1
    omega
structure Pt where
  kind : Int
  off : Int
  data : Int
  ptrs : Int
  size : Int
  count : Int
  seg : Int
  dbl : Bool
  deriving DecidableEq
def Pt.v (p : Pt) : Value := .agg #[.int .i64 p.kind, .int .i64 p.off, .int .i64 p.data, .int .i64 p.ptrs, .int .i64 p.size, .int .i64 p.count, .int .i64 p.seg, .bool p.dbl]
def Pt0 : Pt := ⟨0, 0, 0, 0, 0, 0, 0, false⟩
def decP (x : Int) : Pt :=
  if x = 0 then Pt0
  else if x % 4 = 0 then ⟨1, zW0 (x / 4 % 1073741824), x / 4294967296 % 65536, x / 281474976710656 % 65536, 0, 0, 0, false⟩
  else if x % 4 = 1 then ⟨2, zW0 (x / 4 % 1073741824), 0, 0, x / 4294967296 % 8, x / 34359738368 % 536870912, 0, false⟩
  else if x % 4 = 2 then ⟨3, x / 8 % 536870912, 0, 0, 0, 0, x / 4294967296 % 4294967296, decide (x / 4 % 2 = 1)⟩
  else Pt0
def decE (x : Int) : Int := if x = 0 then 0 else if x % 4 = 3 then 23 else 0
def encW (p : Pt) : Int :=
  if p.kind = 1 then p.off % 1073741824 * 4 + p.data % 65536 * 4294967296 + p.ptrs % 65536 * 281474976710656
  else if p.kind = 2 then 1 + p.off % 1073741824 * 4 + p.size % 8 * 4294967296 + p.count % 536870912 * 34359738368
  else if p.kind = 3 then 2 + (if p.dbl then 4 else 0) + p.off % 536870912 * 8 + p.seg % 4294967296 * 4294967296
  else 0
def zK7 (p : Pt) : Bool := decide (decE (encW p) = 0 ∧ decP (encW p) = p)
def encR (p : Pt) : Int := if zK7 p then encW p else 0
def encE (p : Pt) : Int := if zK7 p then 0 else 1
theorem zJ8 (p : Pt) : 0 ≤ encW p ∧ encW p ≤ 18446744073709551615 := by
  unfold encW
  split
  · omega
  · split
    · omega
    · split
      · split <;> omega
      · omega
def zH4 (p : Pt) : Int :=
  if p.kind = 0 then 0
  else if p.kind = 1 then IntKind.i64.wrap (p.data + p.ptrs)
  else if p.kind = 3 then (if p.dbl then 2 else 1)
  else if p.kind = 2 then (if p.size = 2 then IntKind.i64.wrap ((IntKind.i64.wrap (IntKind.i64.wrap (p.count + 8) - 1)).tdiv 8) else if p.size = 5 ∨ p.size = 6 then p.count else 0)
  else 0
def zI4 (p : Pt) : Int :=
  if p.kind = 0 then 0
  else if p.kind = 1 then 0
  else if p.kind = 3 then 0
  else if p.kind = 2 then (if p.size = 2 then 0 else if p.size = 5 ∨ p.size = 6 then 0 else 23)
  else 23
def fieldsOf (p : Pt) : List (Int × Int × Int) :=
  if p.kind = 1 then [(0, 2, 0), (2, 30, p.off), (32, 16, p.data), (48, 16, p.ptrs)]
  else if p.kind = 2 then [(0, 2, 1), (2, 30, p.off), (32, 3, p.size), (35, 29, p.count)]
  else [(0, 2, 2), (2, 1, if p.dbl then 1 else 0), (3, 29, p.off), (32, 32, p.seg)]
theorem yM9 (a0 b0 a1 b1 a2 b2 a3 b3 : Nat) (h0 : a0 = 0) (h1 : a1 = b0) (h2 : a1 + b1 ≤ a2) (h3 : a2 + b2 ≤ a3) (h4 : a3 + b3 ≤ 64) (hb0 : b0 ≤ 63) (hb1 : b1 ≤ 63) (hb2 : b2 ≤ 63) (hb3 : b3 ≤ 63) (n0 n1 n2 n3 : Int) :
    qU0 [(a0, b0, n0), (a1, b1, n1), (a2, b2, n2), (a3, b3, n3)] = 0 + n0 % 2 ^ b0 * 2 ^ a0 + n1 % 2 ^ b1 * 2 ^ a1 + n2 % 2 ^ b2 * 2 ^ a2 + n3 % 2 ^ b3 * 2 ^ a3 := by
  have pw : ∀ x : Nat, (1 : Int) ≤ 2 ^ x := fun x => by have := Nat.one_le_two_pow (n := x); exact_mod_cast this
  have step : ∀ (a b c : Nat) (acc n : Int), 0 ≤ acc → acc < 2 ^ a → a + b ≤ c → 0 ≤ acc + n % 2 ^ b * 2 ^ a ∧ acc + n % 2 ^ b * 2 ^ a < 2 ^ c := by
    intro a b c acc n g0 g1 hc
    have r0 := Int.emod_nonneg n (show (2 : Int) ^ b ≠ 0 by have := pw b; omega)
    have r1 := Int.emod_lt_of_pos n (show (0 : Int) < 2 ^ b by have := pw b; omega)
    have r2 : 0 ≤ n % 2 ^ b * 2 ^ a := Int.mul_nonneg r0 (by have := pw a; omega)
    refine ⟨by omega, ?_⟩
    have r3 : (n % 2 ^ b + 1) * 2 ^ a ≤ 2 ^ b * 2 ^ a := Int.mul_le_mul_of_nonneg_right (by omega) (by have := pw a; omega)
    rw [Int.add_mul, Int.one_mul, ← Int.pow_add] at r3
    have r4 : (2 : Int) ^ (b + a) ≤ 2 ^ c := by
      have := Nat.pow_le_pow_right (show 0 < 2 by omega) (show b + a ≤ c by omega)
      exact_mod_cast this
    omega
  subst h0
  have s0 := step 0 b0 a1 0 n0 (by omega) (by simp) (by omega)
  have s1 := step a1 b1 a2 _ n1 s0.1 s0.2 (by omega)
  have s2 := step a2 b2 a3 _ n2 s1.1 s1.2 (by omega)
  unfold qU0
  simp only [List.foldl_cons, List.foldl_nil]
  rw [qI1 0 b0 hb0 (by omega) 0 n0 (by omega) (by simp), qI1 a1 b1 hb1 (by omega) _ n1 s0.1 s0.2, qI1 a2 b2 hb2 (by omega) _ n2 s1.1 s1.2, qI1 a3 b3 hb3 h4 _ n3 s2.1 s2.2]
theorem qQ1 (p : Pt) (hk : p.kind = 1 ∨ p.kind = 2 ∨ p.kind = 3) : qU0 (fieldsOf p) = encW p := by
  unfold fieldsOf encW
  by_cases h1 : p.kind = 1
  · rw [if_pos h1, if_pos h1]
    have := yM9 0 2 2 30 32 16 48 16 rfl rfl (by omega) (by omega) (by omega) (by omega) (by omega) (by omega) (by omega) 0 p.off p.data p.ptrs
    refine this.trans ?_
    simp
  · by_cases h2 : p.kind = 2
    · rw [if_neg h1, if_pos h2, if_neg h1, if_pos h2]
      have := yM9 0 2 2 30 32 3 35 29 rfl rfl (by omega) (by omega) (by omega) (by omega) (by omega) (by omega) (by omega) 1 p.off p.size p.count
      refine this.trans ?_
      simp
    · have h3 : p.kind = 3 := by omega
      rw [if_neg h1, if_neg h2, if_neg h1, if_neg h2, if_pos h3]
      have := yM9 0 2 2 1 3 29 32 32 rfl rfl (by omega) (by omega) (by omega) (by omega) (by omega) (by omega) (by omega) 2 (if p.dbl then 1 else 0) p.off p.seg
      refine this.trans ?_
      cases p.dbl <;> simp
def zO9 (l : List (Int × Int × Int)) : List Value := l.flatMap fun p => [.int .i64 p.1, .int .i64 p.2.1, .int .i64 p.2.2]
theorem qZ4 (l : List (Int × Int × Int)) : (zO9 l).length = 3 * l.length := by
  induction l with
  | nil => rfl
  | cons p l ih => simp only [zO9, List.flatMap_cons, List.length_append, List.length_cons, List.length_nil] at *; omega
theorem yN0 : ∀ (l : List (Int × Int × Int)) (k : Nat) (h : k < l.length), ((zO9 l).drop (k * 3)).take 3 = [.int .i64 l[k].1, .int .i64 l[k].2.1, .int .i64 l[k].2.2]
  | p :: l, 0, _ => by simp [zO9]
  | p :: l, k + 1, h => by
    have ih := yN0 l k (by simpa using h)
    have : zO9 (p :: l) = [.int .i64 p.1, .int .i64 p.2.1, .int .i64 p.2.2] ++ zO9 l := rfl
    rw [this, show (k + 1) * 3 = 3 + k * 3 from by omega, ← List.drop_drop]
    simp only [List.getElem_cons_succ]
    exact ih
theorem yH3 (l : List (Int × Int × Int)) (k : Nat) (h : k < l.length) : qU0 (l.take (k + 1)) = yS2 (qU0 (l.take k)) l[k] := by
  unfold qU0
  rw [List.take_succ_eq_append_getElem h, List.foldl_append]
  rfl
theorem yY2 (x : Int) (k : Nat) : x / 2 ^ (k + 1) = x / 2 ^ k / 2 := by
  have h1 : (1 : Int) ≤ 2 ^ k := by have := Nat.one_le_two_pow (n := k); exact_mod_cast this
  rw [Int.pow_succ, Int.ediv_ediv_of_nonneg (by omega)]
theorem qC9 (k : Nat) (h : k ≤ 62) : (1 : Int) ≤ 2 ^ k ∧ (2 : Int) ^ k ≤ 4611686018427387904 ∧ (2 : Int) ^ (k + 1) = 2 * 2 ^ k := by
  refine ⟨?_, ?_, ?_⟩
  · have := Nat.one_le_two_pow (n := k); exact_mod_cast this
  · have := Nat.pow_le_pow_right (show 0 < 2 by omega) h
    have h5 : ((2 ^ k : Nat) : Int) ≤ ((2 ^ 62 : Nat) : Int) := by exact_mod_cast this
    simpa using h5
  · rw [Int.pow_succ]; omega
theorem qU1 (x : Int) (k : Nat) (h0 : 0 ≤ x) : 0 ≤ x / 2 ^ k ∧ x / 2 ^ k ≤ x := by
  have : (1 : Int) ≤ 2 ^ k := by have := Nat.one_le_two_pow (n := k); exact_mod_cast this
  exact ⟨Int.ediv_nonneg h0 (by omega), Int.ediv_le_self _ h0⟩
theorem qZ5 (k : Nat) (h : k ≤ 29) : (1 : Int) ≤ 2 ^ k ∧ (2 : Int) ^ k ≤ 536870912 ∧ (2 : Int) ^ (k + 1) = 2 * 2 ^ k := by
  refine ⟨(qC9 k (by omega)).1, ?_, (qC9 k (by omega)).2.2⟩
  have := Nat.pow_le_pow_right (show 0 < 2 by omega) h
  have h5 : ((2 ^ k : Nat) : Int) ≤ ((2 ^ 29 : Nat) : Int) := by exact_mod_cast this
  simpa using h5
theorem decN (x : Int) (h : x % 4 ≠ 3) : decE x = 0 := by
  unfold decE
  by_cases h0 : x = 0
  · rw [if_pos h0]
  · rw [if_neg h0, if_neg h]
def okP (p : Pt) : Prop :=
  (p = ⟨1, p.off, p.data, p.ptrs, 0, 0, 0, false⟩ ∧ -536870912 ≤ p.off ∧ p.off ≤ 536870911 ∧ 0 ≤ p.data ∧ p.data ≤ 65535 ∧ 0 ≤ p.ptrs ∧ p.ptrs ≤ 65535 ∧ ¬ (p.off = 0 ∧ p.data = 0 ∧ p.ptrs = 0)) ∨
  (p = ⟨2, p.off, 0, 0, p.size, p.count, 0, false⟩ ∧ -536870912 ≤ p.off ∧ p.off ≤ 536870911 ∧ 0 ≤ p.size ∧ p.size ≤ 7 ∧ 0 ≤ p.count ∧ p.count ≤ 536870911) ∨
  (p = ⟨3, p.off, 0, 0, 0, 0, p.seg, p.dbl⟩ ∧ 0 ≤ p.off ∧ p.off ≤ 536870911 ∧ 0 ≤ p.seg ∧ p.seg ≤ 4294967295) ∨ p = Pt0
theorem yW2 (p : Pt) (h : okP p) : zK7 p = true := by
  have key : decE (encW p) = 0 ∧ decP (encW p) = p := by
    obtain ⟨kind, o, d, q, s, n, g, b⟩ := p
    simp only [okP, Pt.mk.injEq, Pt0] at h
    rcases h with ⟨⟨rfl, _, _, _, rfl, rfl, rfl, rfl⟩, r1, r2, r3, r4, r5, r6, r7⟩ | ⟨⟨rfl, _, rfl, rfl, _, _, rfl, rfl⟩, r1, r2, r3, r4, r5, r6⟩ | ⟨⟨rfl, _, rfl, rfl, rfl, rfl, _, _⟩, r1, r2, r3, r4⟩ | ⟨rfl, rfl, rfl, rfl, rfl, rfl, rfl, rfl⟩
    · have hw : encW ⟨1, o, d, q, 0, 0, 0, false⟩ = o % 1073741824 * 4 + d * 4294967296 + q * 281474976710656 := by unfold encW; simp; omega
      rw [hw]
      generalize hx : o % 1073741824 * 4 + d * 4294967296 + q * 281474976710656 = x
      have h0 : x ≠ 0 := by omega
      have h1 : x % 4 = 0 := by omega
      refine ⟨decN x (by omega), ?_⟩
      unfold decP
      rw [if_neg h0, if_pos h1]
      have e1 : x / 4 % 1073741824 = o % 1073741824 := by omega
      have e2 : zW0 (o % 1073741824) = o := by unfold zW0; split <;> omega
      rw [e1, e2]
      congr 1 <;> omega
    · have hw : encW ⟨2, o, 0, 0, s, n, 0, false⟩ = 1 + o % 1073741824 * 4 + s * 4294967296 + n * 34359738368 := by unfold encW; simp; omega
      rw [hw]
      generalize hx : 1 + o % 1073741824 * 4 + s * 4294967296 + n * 34359738368 = x
      have h0 : x ≠ 0 := by omega
      have h1 : x % 4 = 1 := by omega
      refine ⟨decN x (by omega), ?_⟩
      unfold decP
      rw [if_neg h0, if_neg (by omega), if_pos h1]
      have e1 : x / 4 % 1073741824 = o % 1073741824 := by omega
      have e2 : zW0 (o % 1073741824) = o := by unfold zW0; split <;> omega
      rw [e1, e2]
      congr 1 <;> omega
    · have hw : encW ⟨3, o, 0, 0, 0, 0, g, b⟩ = 2 + (if b then 4 else 0) + o * 8 + g * 4294967296 := by unfold encW; cases b <;> simp <;> omega
      rw [hw]
      generalize hc : (if b = true then (4 : Int) else 0) = c
      have hc2 : (b = true ∧ c = 4) ∨ (b = false ∧ c = 0) := by
        cases b
        · exact .inr ⟨rfl, by simpa using hc.symm⟩
        · exact .inl ⟨rfl, by simpa using hc.symm⟩
      generalize hx : 2 + c + o * 8 + g * 4294967296 = x
      have h0 : x ≠ 0 := by omega
      have h1 : x % 4 = 2 := by omega
      refine ⟨decN x (by omega), ?_⟩
      unfold decP
      rw [if_neg h0, if_neg (by omega), if_neg (by omega), if_pos h1]
      rcases hc2 with ⟨rfl, rfl⟩ | ⟨rfl, rfl⟩
      · congr 1 <;> first | omega | (simp; omega)
      · congr 1 <;> first | omega | (simp; omega)
    · exact ⟨rfl, rfl⟩
  unfold zK7
  simp [key]
theorem yY3 (p : Pt) (h : okP p) : encE p = 0 ∧ encR p = encW p := by unfold encE encR; rw [yW2 p h]; exact ⟨rfl, rfl⟩
theorem five {c : List Value} (h : c.length = 5) : ∃ x0 x1 x2 x3 x4, c = [x0, x1, x2, x3, x4] := by
  match c, h with
  | [x0, x1, x2, x3, x4], _ => exact ⟨_, _, _, _, _, rfl⟩
def getP : List Int → Int
  | [] => 0
  | x :: xs => x + 256 * getP xs
theorem zY4 : ∀ (xs : List Int), (∀ x ∈ xs, inR .u8 x) → 0 ≤ getP xs ∧ getP xs < 256 ^ xs.length
  | [], _ => by simp [getP]
  | x :: xs, h => by
    have h1 := h x (by simp)
    have h2 := zY4 xs fun y hy => h y (by simp [hy])
    simp only [inR] at h1
    simp only [getP, List.length_cons, Int.pow_succ]
    omega
theorem yN1 {n : Nat} {xs : List Int} (hn : n = xs.length) : xs.take (min n 8) = xs.take 8 := by
  subst hn
  rcases Nat.le_total xs.length 8 with h | h
  · rw [Nat.min_eq_left h, List.take_of_length_le (Nat.le_refl _), List.take_of_length_le h]
  · rw [Nat.min_eq_right h]
theorem yN2 {k : Nat} (h : k ≤ 7) : (256 : Int) ^ k ≤ 72057594037927936 := by
  match k, h with
  | 0, _ | 1, _ | 2, _ | 3, _ | 4, _ | 5, _ | 6, _ | 7, _ => decide
  | n + 8, h => omega
theorem qU2 {ys : List Int} {m i : Nat} (hm : m = ys.length) (hi : i < m) : getP (ys.drop (m - (i + 1))) = ys[m - 1 - i]'(by omega) + 256 * getP (ys.drop (m - i)) := by
  rw [show m - (i + 1) = m - 1 - i from by omega, List.drop_eq_getElem_cons (by omega : m - 1 - i < ys.length), show m - 1 - i + 1 = m - i from by omega]
  rfl
def zH5 (n j : Nat) : Nat := min 8 (n - 8 * j)
def zL5 (bs : List Int) (j : Nat) : Int := getP ((bs.drop (8 * j)).take 8)
theorem qN5 (bs : List Int) (j : Nat) : (bs.drop (8 * j)).take (zH5 bs.length j) = (bs.drop (8 * j)).take 8 := by
  rw [List.take_eq_take_iff, List.length_drop, zH5]; omega
def zF3 (bs : List Int) : List Int := (List.range ((bs.length + 7) / 8)).map (zL5 bs)
theorem jB6 (a x : Int) (h0 : 0 ≤ a) (h1 : a < 72057594037927936) (hx0 : 0 ≤ x) (hx1 : x ≤ 255) : qC3 .or .u64 (a * 256) x = x + 256 * a := by
  simp only [qC3, BitVec.toNat_or, BitVec.toNat_ofInt]
  have e1 : ((a * 256) % ((2 ^ IntKind.u64.bits : Nat) : Int)).toNat = a.toNat * 2 ^ 8 := by
    have : (a * 256) % ((2 ^ IntKind.u64.bits : Nat) : Int) = a * 256 := Int.emod_eq_of_lt (by omega) (by simp [IntKind.bits]; omega)
    rw [this]; omega
  have e2 : (x % ((2 ^ IntKind.u64.bits : Nat) : Int)).toNat = x.toNat := by
    rw [Int.emod_eq_of_lt hx0 (by simp [IntKind.bits]; omega)]
  rw [e1, e2, Nat.mul_comm, ← Nat.two_pow_add_eq_or_of_lt (by omega : x.toNat < 2 ^ 8)]
  rw [wrap_u64]
  omega
mutual
def Nd.sz : Nd → Nat
  | .mk _ _ _ _ ks => 1 + Nd.szs ks
def Nd.szs : List Nd → Nat
  | [] => 0
  | t :: ts => Nd.sz t + Nd.szs ts
end
theorem Nd.sz_pos (t : Nd) : 0 < t.sz := by cases t; simp only [Nd.sz]; omega
theorem Nd.szs_at : ∀ (ts : List Nd) (i : Nat) (t : Nd), ts[i]? = some t → t.sz ≤ Nd.szs ts
  | [], i, t, h => by simp at h
  | t :: ts, 0, u, h => by simp only [List.getElem?_cons_zero, Option.some.injEq] at h; subst h; simp only [Nd.szs]; omega
  | t :: ts, i + 1, u, h => by have := Nd.szs_at ts i u (by simpa using h); simp only [Nd.szs]; omega
def Nd.need : Nd → Int
  | .mk k _ w b ks => if k = 1 then (w.length : Int) + ks.length else if k = 2 then (w.length : Int) + ks.length + ((b.length : Int) + 7) / 8 else 0
def Nd.own : Nd → Bool
  | .mk k s w b ks =>
    if k = 0 then decide (s = 0) && decide ((w.length : Int) + b.length + ks.length = 0)
    else if k = 1 then decide (s = 0) && (decide ((b.length : Int) = 0) && decide ((if (ks.length : Int) > w.length then (ks.length : Int) else w.length) ≤ 100))
    else if k = 2 then
      if s = 2 then decide ((w.length : Int) + ks.length = 0) && decide ((b.length : Int) ≤ 4096)
      else if s = 5 then decide ((b.length : Int) + ks.length = 0) && decide ((w.length : Int) ≤ 4096)
      else if s = 6 then decide ((b.length : Int) + w.length = 0) && decide ((ks.length : Int) ≤ 4096)
      else false
    else false
mutual
def Nd.right : Nd → Nat → Bool
  | .mk k s w b ks, left => (Nd.mk k s w b ks).own && !(decide (k ≠ 0) && decide (left = 0)) && Nd.rights ks (left - 1)
def Nd.rights : List Nd → Nat → Bool
  | [], _ => true
  | t :: ts, left => Nd.right t left && Nd.rights ts left
end
def zT5 (p : Nat → Bool) : Nat → Nat → Int
  | 0, i => -1
  | n + 1, i => if p i then i else zT5 p n (i + 1)
theorem qE9 {p : Nat → Bool} : ∀ (n i : Nat), (∀ j, i ≤ j → j < i + n → p j = false) → zT5 p n i = -1
  | 0, _, _ => rfl
  | n + 1, i, h => by
    simp only [zT5, h i (Nat.le_refl _) (by omega), Bool.false_eq_true, if_false]
    exact qE9 n (i + 1) fun j h1 h2 => h j (by omega) (by omega)
theorem qF0 {p : Nat → Bool} : ∀ (n i k : Nat), i ≤ k → k < i + n → p k = true → (∀ j, i ≤ j → j < k → p j = false) → zT5 p n i = k
  | 0, i, k, h1, h2, _, _ => by omega
  | n + 1, i, k, h1, h2, h3, h4 => by
    by_cases hik : i = k
    · subst hik; simp only [zT5, h3, if_true]
    · simp only [zT5, h4 i (Nat.le_refl _) (by omega), Bool.false_eq_true, if_false]
      exact qF0 n (i + 1) k (by omega) (by omega) h3 fun j h5 h6 => h4 j (by omega) h6
theorem qU3 (p : Nat → Bool) : ∀ (n i : Nat), decide (zT5 p n i ≥ 0) = (List.range' i n).any p
  | 0, i => rfl
  | n + 1, i => by
    simp only [zT5, List.range'_succ, List.any_cons]
    by_cases h : p i = true
    · simp only [h, if_true, Bool.true_or]; exact decide_eq_true (by omega)
    · have h : p i = false := by simpa using h
      simp only [h, Bool.false_eq_true, if_false, Bool.false_or]; exact qU3 p n (i + 1)
theorem qN6 (left : Nat) : ∀ (ks : List Nd), Nd.rights ks left = !((List.range' 0 ks.length).any fun i => !((ks.getD i (.mk 0 0 [] [] [])).right left))
  | [] => by simp [Nd.rights]
  | t :: ts => by
    simp only [Nd.rights, List.length_cons, List.range'_succ, List.any_cons, List.getD_cons_zero]
    rw [qN6 left ts]
    have : (List.range' (0 + 1) ts.length).any (fun i => !(((t :: ts).getD i (.mk 0 0 [] [] [])).right left)) = (List.range' 0 ts.length).any fun i => !((ts.getD i (.mk 0 0 [] [] [])).right left) := by
      rw [show List.range' (0 + 1) ts.length = (List.range' 0 ts.length).map (· + 1) from by
        apply List.ext_getElem?
        intro i
        simp [List.getElem?_range', Nat.add_comm]
        by_cases h : i < ts.length <;> simp [h, Nat.add_comm]]
      rw [List.any_map]
      rfl
    rw [this, Bool.not_or, Bool.not_not]
def Nd.content : Nd → List Int
  | .mk _ _ w b ks => w ++ zF3 b ++ List.replicate ks.length 0
def Nd.ptr (off : Int) : Nd → Pt
  | .mk k s w b ks => if k = 1 then ⟨k, off, w.length, ks.length, 0, 0, 0, false⟩ else if k = 2 then ⟨k, off, 0, 0, s, (w.length : Int) + ks.length + b.length, 0, false⟩ else ⟨k, off, 0, 0, 0, 0, 0, false⟩
def Nd.near (t : Nd) (off : Int) : Int := encR (t.ptr off)
def farP (seg at_ : Int) : Int := encR ⟨3, at_, 0, 0, 0, 0, seg, false⟩
mutual
def Nd.needs : Nd → Int
  | .mk k s w b ks => (Nd.mk k s w b ks).need + Nd.needsL ks
def Nd.needsL : List Nd → Int
  | [] => 0
  | t :: ts => Nd.needs t + Nd.needsL ts
end
theorem Nd.need_nn (t : Nd) : 0 ≤ t.need := by
  cases t
  simp only [Nd.need]
  split
  · omega
  · split <;> omega
mutual
theorem Nd.needs_nn : ∀ (t : Nd), 0 ≤ t.needs
  | .mk k s w b ks => by have := Nd.need_nn (.mk k s w b ks); have := Nd.needsL_nn ks; simp only [Nd.needs]; omega
theorem Nd.needsL_nn : ∀ (ts : List Nd), 0 ≤ Nd.needsL ts
  | [] => by simp [Nd.needsL]
  | t :: ts => by have := Nd.needs_nn t; have := Nd.needsL_nn ts; simp only [Nd.needsL]; omega
end
theorem qD0 : ∀ (a b : List Nd), Nd.needsL (a ++ b) = Nd.needsL a + Nd.needsL b
  | [], b => by simp [Nd.needsL]
  | t :: a, b => by simp only [List.cons_append, Nd.needsL, qD0 a b]; omega
theorem qD1 (left : Nat) : ∀ (a b : List Nd), Nd.rights (a ++ b) left = (Nd.rights a left && Nd.rights b left)
  | [], b => by simp [Nd.rights]
  | t :: a, b => by simp [Nd.rights, qD1 left a b, Bool.and_assoc]
theorem qG6 {left : Nat} : ∀ {ks : List Nd} {k : Nat} (h : k < ks.length), ks[k].right left = false → Nd.rights ks left = false
  | t :: ts, 0, _, h => by simp at h; simp [Nd.rights, h]
  | t :: ts, k + 1, hk, h => by
    have := qG6 (ks := ts) (k := k) (by simpa using hk) (by simpa using h)
    simp [Nd.rights, this]
theorem qG7 {w b : List Int} {ks : List Nd} (h : (w.length : Int) + b.length + ks.length = 0) : ks = [] := List.eq_nil_of_length_eq_zero (by omega)
theorem qI2 {k s : Int} {w b : List Int} {ks : List Nd} (h : (Nd.mk k s w b ks).own = true) (hk : ¬ k ≠ 0) : ks = [] := by
  have hk : k = 0 := by omega
  subst hk
  simp only [Nd.own, if_true, Bool.and_eq_true, decide_eq_true_eq] at h
  exact qG7 h.2
theorem yE6 {k s : Int} {w b : List Int} {ks : List Nd} (h0 : ¬ k = 0) (h2 : ¬ k = 2) : ((((decide (k = 1) && decide (s = 0)) && decide ((w.length : Int) ≤ 100)) && decide ((b.length : Int) = 0)) && decide ((ks.length : Int) ≤ 100)) = (Nd.mk k s w b ks).own := by
  simp only [Nd.own, if_neg h0, if_neg h2]
  rw [Bool.eq_iff_iff]
  by_cases h1 : k = 1
  · simp only [h1, decide_true, Bool.true_and, if_true, Bool.and_eq_true, decide_eq_true_eq]
    split <;> omega
  · simp [h1]
theorem yE7 {k s : Int} {w b : List Int} {ks : List Nd} (h2 : k = 2) : ((((decide (s = 2) && decide ((w.length : Int) = 0)) && decide ((ks.length : Int) = 0)) && decide ((b.length : Int) ≤ 4096)) || (((decide (s = 5) && decide ((b.length : Int) = 0)) && decide ((ks.length : Int) = 0)) && decide ((w.length : Int) ≤ 4096)) || (((decide (s = 6) && decide ((b.length : Int) = 0)) && decide ((w.length : Int) = 0)) && decide ((ks.length : Int) ≤ 4096))) = (Nd.mk k s w b ks).own := by
  subst h2
  simp only [Nd.own, show ¬ ((2 : Int) = 0) from by decide, show ¬ ((2 : Int) = 1) from by decide, if_false, if_true]
  rw [Bool.eq_iff_iff]
  by_cases s2 : s = 2
  · simp only [if_pos s2, Bool.or_eq_true, Bool.and_eq_true, decide_eq_true_eq]; omega
  · by_cases s5 : s = 5
    · simp only [if_neg s2, if_pos s5, Bool.or_eq_true, Bool.and_eq_true, decide_eq_true_eq]; omega
    · by_cases s6 : s = 6
      · simp only [if_neg s2, if_neg s5, if_pos s6, Bool.or_eq_true, Bool.and_eq_true, decide_eq_true_eq]; omega
      · simp [s2, s5, s6]
def zI7 (ws : List Int) : List Value := ws.map (.int .u64)
def zB9 : List (List Int) → Int
  | [] => 0
  | s :: A => (s.length : Int) + zB9 A
theorem zQ0 : ∀ (a b : List (List Int)), zB9 (a ++ b) = zB9 a + zB9 b
  | [], b => by simp [zB9]
  | s :: a, b => by simp only [List.cons_append, zB9, zQ0 a b]; omega
theorem qA5 {A : List (List Int)} {k : Nat} (h : k < A.length) : zB9 (A.take (k + 1)) = zB9 (A.take k) + (A[k].length : Int) := by
  rw [List.take_add_one, List.getElem?_eq_getElem h, zQ0]; simp [zB9]
theorem qG8 : ∀ {A : List (List Int)}, (∀ s ∈ A, s.length ≤ 100000) → 0 ≤ zB9 A ∧ zB9 A ≤ 100000 * (A.length : Int)
  | [], _ => by simp [zB9]
  | s :: A, h => by
    have h1 := h s (by simp)
    have h2 := qG8 (A := A) fun t ht => h t (by simp [ht])
    simp only [zB9, List.length_cons]
    omega
theorem zK5 : ∀ (A : List (List Int)), 0 ≤ zB9 A
  | [] => by simp [zB9]
  | s :: A => by have := zK5 A; simp only [zB9]; omega
theorem qU4 {A : List (List Int)} (k : Nat) : zB9 (A.take k) ≤ zB9 A := by
  have h := zQ0 (A.take k) (A.drop k)
  rw [List.take_append_drop] at h
  have := zK5 (A.drop k)
  omega
def blks (bB : Nat) (so : Value) (segs : List Value) : List Nat := bB :: (so.ownBlock.toList ++ segs.filterMap Value.ownBlock)
theorem zG2 {bB : Nat} {so : Value} {segs : List Value} {k : Nat} : k ∈ blks bB so segs ↔ k = bB ∨ so.ownBlock = some k ∨ ∃ (i : Nat) (v : Value), segs[i]? = some v ∧ v.ownBlock = some k := by
  simp only [blks, List.mem_cons, List.mem_append, Option.mem_toList, List.mem_filterMap]
  constructor
  · rintro (h | h | ⟨v, hv, hk⟩)
    · exact .inl h
    · exact .inr (.inl h)
    · obtain ⟨i, hi, rfl⟩ := List.getElem_of_mem hv
      exact .inr (.inr ⟨i, _, List.getElem?_eq_getElem hi, hk⟩)
  · rintro (h | h | ⟨i, v, hv, hk⟩)
    · exact .inl h
    · exact .inr (.inl h)
    · exact .inr (.inr ⟨v, List.mem_of_getElem? hv, hk⟩)
structure BldAt (TB TO TW : TypeId) (w : World) (bB : Nat) (so : Value) (segs : List Value) (A : List (List Int)) (size all : Int) : Prop where
  box : w.heap[bB]? = some (.cells #[so, .int .i64 size, .int .i64 all] TB (0, 0))
  out : w.ownsRow 0 TO 1 so A.length segs
  seg : ∀ (i : Nat) (v : Value) (ws : List Int), segs[i]? = some v → A[i]? = some ws → w.ownsRow 0 TW 1 v ws.length (zI7 ws)
  dis : ∀ (i j : Nat) (v u : Value) (b : Nat), segs[i]? = some v → segs[j]? = some u → v.ownBlock = some b → u.ownBlock = some b → i = j
section
variable {TB TO TW : TypeId} {w w' : World} {bB : Nat} {so : Value} {segs : List Value} {A : List (List Int)} {size all : Int}
theorem BldAt.len (h : BldAt TB TO TW w bB so segs A size all) : segs.length = A.length := by rw [h.out.1, Nat.mul_one]
theorem BldAt.at_ (h : BldAt TB TO TW w bB so segs A size all) {i : Nat} (hi : i < A.length) : ∃ v, segs[i]? = some v ∧ w.ownsRow 0 TW 1 v A[i].length (zI7 A[i]) :=
  ⟨segs[i]'(by rw [h.len]; exact hi), List.getElem?_eq_getElem _, h.seg i _ _ (List.getElem?_eq_getElem _) (List.getElem?_eq_getElem hi)⟩
theorem BldAt.lt (h : BldAt TB TO TW w bB so segs A size all) : ∀ k ∈ blks bB so segs, k < w.heap.size := by
  intro k hk
  rcases zG2.1 hk with rfl | hk | ⟨i, v, hv, hk⟩
  · exact zC1 h.box
  · exact (h.out.lt k hk).2
  · have hi : i < A.length := by rw [← h.len]; exact (List.getElem?_eq_some_iff.1 hv).1
    exact ((h.seg i v _ hv (List.getElem?_eq_getElem hi)).lt k hk).2
theorem BldAt.keep {F : List Nat} (h : BldAt TB TO TW w bB so segs A size all) (g : Kp F w w') (hF : ∀ k ∈ blks bB so segs, k ∉ F) : BldAt TB TO TW w' bB so segs A size all := by
  have own : ∀ {T : TypeId} {v : Value} {n : Nat} {xs : List Value}, w.ownsRow 0 T 1 v n xs → (∀ k, v.ownBlock = some k → k ∉ F) → w'.ownsRow 0 T 1 v n xs := by
    intro T v n xs ho hk
    refine ⟨ho.1, ?_⟩
    rcases ho.2 with hn | ⟨q, cap, cur, rfl, hb, hg, rest⟩
    · exact .inl hn
    · exact .inr ⟨q, cap, cur, rfl, hb, g.heap hg (hk q rfl), rest⟩
  exact ⟨g.heap h.box (hF _ (zG2.2 (.inl rfl))), own h.out fun k hk => hF k (zG2.2 (.inr (.inl hk))), fun i v ws hv hw => own (h.seg i v ws hv hw) fun k hk => hF k (zG2.2 (.inr (.inr ⟨i, v, hv, hk⟩))), h.dis⟩
theorem BldAt.grow (h : BldAt TB TO TW w bB so segs A size all) (g : Grow w w') : BldAt TB TO TW w' bB so segs A size all := h.keep (F := []) (Kp.of_grow g) fun k _ => by simp
theorem qJ6 {T : TypeId} {v : Value} {n k : Nat} {xs : List Value} (h : w.ownsRow 0 T 1 v n xs) (hk : v.ownBlock = some k) : ∃ cap cur, v = .slice (some ⟨k, 0, none⟩) n cap ∧ w.heap[k]? = some (.cells cur T (0, 0)) ∧ n ≤ cap ∧ cap ≤ maxLen ∧ cur.size = cap ∧ cur.toList.take n = xs := by
  rcases h.2 with ⟨rfl, _⟩ | ⟨q, cap, cur, rfl, _, hg, h1, h2, h3, h4⟩
  · simp [Value.ownBlock] at hk
  · simp only [Value.ownBlock, Option.some.injEq] at hk
    subst hk
    exact ⟨cap, cur, rfl, hg, h1, h2, by simpa using h3, by simpa using h4⟩
theorem BldAt.push {so' : Value} {w1 : World} (hOB : TO ≠ TB) (hWB : TW ≠ TB) (hOW : TO ≠ TW) (h : BldAt TB TO TW w bB so segs A size all) (ho : w1.ownsRow 0 TO 1 so' (A.length + 1) (segs ++ [.slice none 0 0])) (gr : w.grownBy w1 so.ownBlock)
    (hb : w'.heap[bB]? = some (.cells #[so', .int .i64 size, .int .i64 all] TB (0, 0))) (u : Upd bB w1 w') :
    BldAt TB TO TW w' bB so' (segs ++ [.slice none 0 0]) (A ++ [[]]) size all := by
  have hbox1 := zG7 gr h.box (zD3 h.out h.box hOB)
  refine ⟨hb, by rw [List.length_append]; exact zF1 ho u (zD3 ho hbox1 hOB), fun i v ws hv hw => ?_, fun i j v u b hv hu h1 h2 => ?_⟩
  · rcases Nat.lt_or_ge i segs.length with hi | hi
    · rw [List.getElem?_append_left hi] at hv
      rw [List.getElem?_append_left (by rw [← h.len]; exact hi)] at hw
      have hs := h.seg i v ws hv hw
      have hs1 : w1.ownsRow 0 TW 1 v ws.length (zI7 ws) := hs.kept gr (by
        cases hvb : v.ownBlock with
        | none => exact .inl rfl
        | some k =>
          refine .inr fun he => ?_
          obtain ⟨_, _, _, h3, _⟩ := qJ6 hs hvb
          exact zD3 h.out h3 hOW he.symm)
      exact zF1 hs1 u (zD3 hs1 hbox1 hWB)
    · rw [List.getElem?_append_right hi] at hv
      rw [List.getElem?_append_right (by rw [← h.len]; exact hi), h.len.symm] at hw
      have : i - segs.length = 0 := by
        have := (List.getElem?_eq_some_iff.1 hv).1
        simp at this; omega
      rw [this] at hv hw
      simp only [List.getElem?_cons_zero, Option.some.injEq] at hv hw
      subst hv; subst hw
      exact World.ownsRow_nil _ _ _ _
  · rcases Nat.lt_or_ge i segs.length with hi | hi
    · rw [List.getElem?_append_left hi] at hv
      rcases Nat.lt_or_ge j segs.length with hj | hj
      · rw [List.getElem?_append_left hj] at hu
        exact h.dis i j v u b hv hu h1 h2
      · rw [List.getElem?_append_right hj] at hu
        have : u = .slice none 0 0 := by
          have := List.mem_of_getElem? hu
          simpa using this
        subst this; simp [Value.ownBlock] at h2
    · rw [List.getElem?_append_right hi] at hv
      have : v = .slice none 0 0 := by
        have := List.mem_of_getElem? hv
        simpa using this
      subst this; simp [Value.ownBlock] at h1
end
theorem qU5 {P : Program} {w w' : World} {base n m cp : Nat} {t ty el : TypeId} {sz by_ : Nat} {z v v' : Value} {ad : Option Addr} {xs ys : List Value} [hz : ElzI P t el sz by_ z] (hown : w.ownsRow base el sz v n xs) (hra : RowAt w sz ad m ys)
    (h1 : ∀ q ∈ ys, q.oneCell' = true) (hl : n + m ≤ maxLen) (hby : (n + m) * by_ ≤ 140737488355328) (hrun : (Builtin.append_ #[t, t] ty #[v, .slice ad m cp]).run P w = .ok v' w') : v'.ownBlock = v.ownBlock ∨ v'.ownBlock = some w.heap.size := by
  obtain ⟨hu, i, hi, hzz, hsz, hbb, hzs, hpos⟩ := qN1 hz.h
  subst hsz; subst hbb
  have hsmall : n + m ≤ 9223372036854775807 := by simp only [maxLen] at hl; omega
  rcases Nat.eq_zero_or_pos m with hm | hm
  · subst hm
    have hys : ys = [] := List.eq_nil_of_length_eq_zero (by simpa using hra.len)
    subst hys
    rcases hown.2 with ⟨rfl, rfl⟩ | ⟨g, cap, cur, rfl, _, hg, hnc, _, hcs, _⟩
    · have hr : (Builtin.append_ #[t, t] ty #[.slice none 0 0, .slice ad 0 cp]).run P w = .ok (.slice none 0 0) w := by
        cases ad <;> simp [Builtin.append_, run_underlying hu, sizeOf, typeInfo, hi, Builtin.lenOf, Builtin.firstCells, loadCells, loadCellsFrom]
      rw [hr] at hrun
      simp only [Result.ok.injEq] at hrun
      exact .inl (by rw [← hrun.1])
    · cases ad with
      | none =>
        have hr : (Builtin.append_ #[t, t] ty #[.slice (some ⟨g, 0, none⟩) n cap, .slice none 0 cp]).run P w = .ok (.slice (some ⟨g, 0, none⟩) n cap) w := by
          simp [Builtin.append_, run_underlying hu, sizeOf, typeInfo, hi, Builtin.lenOf, Builtin.firstCells, hnc, storeCells]
        rw [hr] at hrun
        simp only [Result.ok.injEq] at hrun
        exact .inl (by rw [← hrun.1])
      | some ad =>
        have hr := run_append_room (P := P) w t ty el i hu hi g n cap cur hg ad 0 cp [] (by simp) (fun j u hj => by simp at hj) (by simp) (by omega) (by simp [hcs]; exact Nat.mul_le_mul_right _ hnc)
        rw [hr] at hrun
        simp only [Result.ok.injEq] at hrun
        exact .inl (by rw [← hrun.1]; rfl)
  · obtain ⟨b, o, cs, T, fr, rfl, hb, hrow⟩ := hra.at_ hm
    have hcell : ∀ j u, ys[j]? = some u → w.cell? ((⟨b, o, none⟩ : Addr).add j) = some u := fun j u hj => by
      rw [add_lit, cell_of_row w b (o + j) cs T fr hb]
      exact zL6 hrow hj
    rcases hown.2 with ⟨rfl, rfl⟩ | ⟨g, cap, cur, rfl, _, hg, hnc, _, hcs, _⟩
    · have hr := run_append_nil (P := P) w t ty el i z hu hi hzz ⟨b, o, none⟩ m cp ys hra.len hcell hm (by omega) (by have := hby; simp only [Nat.zero_add] at this; omega)
      rw [hr] at hrun
      simp only [Result.ok.injEq] at hrun
      exact .inr (by rw [← hrun.1]; rfl)
    · by_cases hroom : n + m ≤ cap
      · have hr := run_append_room (P := P) w t ty el i hu hi g n cap cur hg ⟨b, o, none⟩ m cp ys hra.len hcell h1 hroom (by rw [hra.len, hcs, ← Nat.add_mul]; exact Nat.mul_le_mul_right _ hroom)
        rw [hr] at hrun
        simp only [Result.ok.injEq] at hrun
        exact .inl (by rw [← hrun.1]; rfl)
      · have hr := run_append_grow (P := P) w t ty el i z hu hi hzz ⟨g, 0, none⟩ n cap xs hown.1 (hown.cells (g := g) rfl) ⟨b, o, none⟩ m cp ys hra.len hcell (by omega) (by omega) (growslice_fits (by omega) hby)
        rw [hr] at hrun
        simp only [Result.ok.injEq] at hrun
        exact .inr (by rw [← hrun.1]; rfl)
theorem yH4 {P : Program} {w : World} {base n m cp : Nat} {t ty el : TypeId} {sz by_ : Nat} {z v : Value} {ad : Option Addr} {xs ys : List Value} [hz : ElzI P t el sz by_ z] (hown : w.ownsRow base el sz v n xs) (hra : RowAt w sz ad m ys)
    (h1 : ∀ q ∈ ys, q.oneCell' = true) (hl : n + m ≤ maxLen) (hby : (n + m) * by_ ≤ 140737488355328) (hbase : base ≤ w.heap.size) :
    ∃ v' w', (Builtin.append_ #[t, t] ty #[v, .slice ad m cp]).run P w = .ok v' w' ∧ w'.ownsRow base el sz v' (n + m) (xs ++ ys) ∧ w.grownBy w' v.ownBlock ∧ (v'.ownBlock = v.ownBlock ∨ v'.ownBlock = some w.heap.size) := by
  obtain ⟨hu, i, hi, hzz, hsz, hbb, hzs, hpos⟩ := qN1 hz.h
  suffices h : ∃ v' w', (Builtin.append_ #[t, t] ty #[v, .slice ad m cp]).run P w = .ok v' w' ∧ w'.ownsRow base el sz v' (n + m) (xs ++ ys) ∧ w.grownBy w' v.ownBlock by
    obtain ⟨v', w', hr, ho, hg⟩ := h
    exact ⟨v', w', hr, ho, hg, qU5 (cp := cp) (ty := ty) hown hra h1 hl hby hr⟩
  rcases Nat.eq_zero_or_pos m with hm | hm
  · subst hm
    have hys : ys = [] := List.eq_nil_of_length_eq_zero (by simpa using hra.len)
    subst hys
    cases ad with
    | none =>
      have hrun : (Builtin.append_ #[t, t] ty #[v, .slice none 0 cp]).run P w = .ok v w := by
        rcases hown.2 with ⟨rfl, rfl⟩ | ⟨gg, cap, cur, rfl, _, _, hnc, _⟩
        · simp [Builtin.append_, run_underlying hu, sizeOf, typeInfo, hi, Builtin.lenOf, Builtin.firstCells]
        · simp [Builtin.append_, run_underlying hu, sizeOf, typeInfo, hi, Builtin.lenOf, Builtin.firstCells, hnc, storeCells]
      exact ⟨_, _, hrun, by simpa using hown, ⟨rfl, rfl, rfl, Nat.le_refl _, fun _ _ _ => rfl⟩⟩
    | some ad =>
      obtain ⟨v', w', hrun, ho, hg, _⟩ := run_append_own (P := P) w base t ty el i z sz by_ hu hi hzz hsz hbb hzs hpos v n xs hown ad 0 cp [] (by simp) (fun j u hj => by simp at hj) (by simp) hl hby hbase
      exact ⟨v', w', hrun, ho, hg⟩
  · obtain ⟨b, o, cs, T, fr, rfl, hb, hrow⟩ := hra.at_ hm
    obtain ⟨v', w', hrun, ho, hg, _⟩ := run_append_own (P := P) w base t ty el i z sz by_ hu hi hzz hsz hbb hzs hpos v n xs hown ⟨b, o, none⟩ m cp ys hra.len (fun j u hj => by
      rw [add_lit, cell_of_row w b (o + j) cs T fr hb]
      exact zL6 hrow hj) h1 hl hby hbase
    exact ⟨v', w', hrun, ho, hg⟩
theorem zW8 {P : Program} {e : Env} {w : World} {K : Value → World → Prop} {d : Option Nat} {ty : TypeId} {pos : String} {af : Array Edge} {g : Option (Nat × Bool)} {t : TypeId} {x y : Operand} {xs_ : Array Operand} {at_ : Array TypeId} (hxs : xs_ = #[x, y]) (hat : at_ = #[t, t]) {base n m : Nat} {el : TypeId} {sz by_ : Nat} {z v u : Value} {xs ys : List Value} [hz : ElzI P t el sz by_ z] (hx : ev e x = v) (hy : ev e y = u)
    (hown : w.ownsRow base el sz v n xs) (hr : Row w sz u m ys) (h1 : ∀ q ∈ ys, q.oneCell' = true) (hl : n + m ≤ maxLen) (hby : (n + m) * by_ ≤ 140737488355328) (hbase : base ≤ w.heap.size)
    (h : ∀ v' w', w'.ownsRow base el sz v' (n + m) (xs ++ ys) → w.grownBy w' v.ownBlock → (v'.ownBlock = v.ownBlock ∨ v'.ownBlock = some w.heap.size) → K v' w') : Run1 P ⟨d, .call ⟨.builtin .append, xs_, at_⟩, ty, pos, af, g⟩ e w K := by
  subst hxs; subst hat
  obtain ⟨ad, cp, rfl, hmc, _, hra⟩ := hr
  obtain ⟨v', w', hrun, ho, hg, hbk⟩ := yH4 (P := P) (t := t) (ty := ty) (cp := cp) hown hra h1 hl hby hbase
  refine zE3 (v := v') (w' := w') ?_ (h v' w' ho hg hbk)
  simp only [execOp, resolve, invoke, builtin, Sem.run_bind, Sem.run_pure, Result.andThen_ok, List.map_toArray, List.map_cons, List.map_nil, hx, hy, hrun]
theorem qD2 {w w' : World} {F : List Nat} {base n sz : Nat} {T : TypeId} {v : Value} {xs : List Value} (h : w.ownsRow base T sz v n xs) (g : Kp F w w') (hF : ∀ k, v.ownBlock = some k → k ∉ F) : w'.ownsRow base T sz v n xs := by
  refine ⟨h.1, ?_⟩
  rcases h.2 with hn | ⟨q, cap, cur, rfl, hb, hg, rest⟩
  · exact .inl hn
  · exact .inr ⟨q, cap, cur, rfl, hb, g.heap hg (hF q rfl), rest⟩
def growB (A : List (List Int)) (q : Nat) : List (List Int) := if q = A.length then A ++ [[]] else A
def zI9 (A : List (List Int)) (q : Nat) (l : List Int) : List (List Int) := (growB A q).set q ((growB A q).getD q [] ++ l)
theorem zT6 {A : List (List Int)} {q : Nat} (hq : q ≤ A.length) : q < (growB A q).length ∧ (growB A q).length ≤ A.length + 1 := by
  unfold growB; split
  · simp; omega
  · omega
theorem yS3 {A : List (List Int)} {q : Nat} {m : Nat} (hA : ∀ s ∈ A, s.length ≤ m) : ((growB A q).getD q []).length ≤ m := by
  unfold growB
  split
  · subst_vars; simp
  · rw [List.getD_eq_getElem?_getD]
    cases h : A[q]? with
    | none => simp
    | some s => simpa using hA s (List.mem_of_getElem? h)
section
variable {TB TO TW : TypeId} {w w1 w' : World} {bB : Nat} {so : Value} {segs : List Value} {A : List (List Int)} {size all : Int}
theorem BldAt.more {i go : Nat} {sv sv' : Value} {ws l : List Int} {cap : Nat} {cur cur' : Array Value} (hOB : TO ≠ TB) (hWB : TW ≠ TB) (hOW : TO ≠ TW) (h : BldAt TB TO TW w bB so segs A size all) (hA : A[i]? = some ws) (hs : segs[i]? = some sv)
    (ho : w1.ownsRow 0 TW 1 sv' (ws ++ l).length (zI7 (ws ++ l))) (gr : Kp sv.ownBlock.toList w w1) (hnew : ∀ k, sv'.ownBlock = some k → sv.ownBlock = some k ∨ w.heap.size ≤ k)
    (hso : so = .slice (some ⟨go, 0, none⟩) A.length cap) (hcur : w.heap[go]? = some (.cells cur TO (0, 0))) (hcur' : w'.heap[go]? = some (.cells cur' TO (0, 0))) (hset : cur'.toList = cur.toList.set i sv') (u : Upd go w1 w') :
    BldAt TB TO TW w' bB so (segs.set i sv') (A.set i (ws ++ l)) size all := by
  have hiA : i < A.length := (List.getElem?_eq_some_iff.1 hA).1
  have his : i < segs.length := (List.getElem?_eq_some_iff.1 hs).1
  have hsv := h.seg i sv ws hs hA
  have hbox1 := gr.heap h.box (by rw [Option.mem_toList]; exact zD3 hsv h.box hWB)
  have hgo1 := gr.heap hcur (by rw [Option.mem_toList]; exact zD3 hsv hcur hOW.symm)
  have hgB : go ≠ bB := by intro he; subst he; have := hcur.symm.trans h.box; simp only [Option.some.injEq, Obj.cells.injEq] at this; exact hOB this.2.1
  refine ⟨u.heap hbox1 hgB.symm, ?_, fun j v wj hv hw => ?_, fun j k v q b hv hq h1 h2 => ?_⟩
  · obtain ⟨hl, hc⟩ := h.out
    refine ⟨by rw [List.length_set, List.length_set]; exact hl, .inr ?_⟩
    rcases hc with ⟨h0, _⟩ | ⟨g, cap', cur0, hv, hb, hg, h1, h2, h3, h4⟩
    · rw [hso] at h0; cases h0
    · rw [hso] at hv
      simp only [Value.slice.injEq, Option.some.injEq, Addr.mk.injEq, and_true, true_and] at hv
      obtain ⟨rfl, rfl⟩ := hv
      rw [hcur] at hg
      simp only [Option.some.injEq, Obj.cells.injEq, and_true] at hg
      subst hg
      refine ⟨go, cap, cur', by rw [List.length_set]; exact hso, Nat.zero_le _, hcur', by rw [List.length_set]; exact h1, h2, ?_, ?_⟩
      · rw [← Array.length_toList, hset, List.length_set, Array.length_toList, h3]
      · rw [hset, List.length_set, List.take_set, h4]
  · by_cases hji : j = i
    · subst hji
      rw [List.getElem?_set_self his] at hv
      rw [List.getElem?_set_self hiA] at hw
      simp only [Option.some.injEq] at hv hw
      subst hv; subst hw
      exact zF1 ho u (zD3 ho hgo1 hOW.symm)
    · rw [List.getElem?_set_ne (Ne.symm hji)] at hv hw
      have hsj := h.seg j v wj hv hw
      have hs1 : w1.ownsRow 0 TW 1 v wj.length (zI7 wj) := qD2 hsj gr fun b hvb => by
        rw [Option.mem_toList]; intro he; exact hji (h.dis j i v sv b hv hs hvb he)
      exact zF1 hs1 u (zD3 hs1 hgo1 hOW.symm)
  · have key : ∀ (j k : Nat) (v q : Value), (segs.set i sv')[j]? = some v → (segs.set i sv')[k]? = some q → v.ownBlock = some b → q.ownBlock = some b → j = i → k = i := by
      intro j k v q hv hq h1 h2 hji
      subst hji
      rw [List.getElem?_set_self his] at hv
      simp only [Option.some.injEq] at hv
      subst hv
      refine Classical.byContradiction fun hne => ?_
      rw [List.getElem?_set_ne (Ne.symm hne)] at hq
      rcases hnew b h1 with hn | hn
      · exact hne (h.dis k j q sv b hq hs h2 hn)
      · have hk : k < A.length := by rw [← h.len]; exact (List.getElem?_eq_some_iff.1 hq).1
        have := (h.seg k q _ hq (List.getElem?_eq_getElem hk)).lt b h2
        omega
    by_cases hji : j = i
    · rw [key j k v q hv hq h1 h2 hji, hji]
    · by_cases hki : k = i
      · rw [key k j q v hq hv h2 h1 hki, hki]
      · rw [List.getElem?_set_ne (Ne.symm hji)] at hv
        rw [List.getElem?_set_ne (Ne.symm hki)] at hq
        exact h.dis j k v q b hv hq h1 h2
theorem BldAt.count {all' : Int} (hOB : TO ≠ TB) (hWB : TW ≠ TB) (h : BldAt TB TO TW w bB so segs A size all) (hb : w'.heap[bB]? = some (.cells #[so, .int .i64 size, .int .i64 all'] TB (0, 0))) (u : Upd bB w w') : BldAt TB TO TW w' bB so segs A size all' :=
  ⟨hb, zF1 h.out u (zD3 h.out h.box hOB), fun i v ws hv hw => zF1 (h.seg i v ws hv hw) u (zD3 (h.seg i v ws hv hw) h.box hWB), h.dis⟩
end
def zG1 (w : World) (v : Value) (A : List (List Int)) : Prop := ∃ segs, Row w 1 v A.length segs ∧ ∀ (i : Nat) (s : List Int), A[i]? = some s → ∃ u, segs[i]? = some u ∧ Row w 1 u s.length (zI7 s)
theorem zG1.grow {w w' : World} {v : Value} {A : List (List Int)} (h : zG1 w v A) (g : Grow w w') : zG1 w' v A := by
  obtain ⟨segs, h1, h2⟩ := h
  refine ⟨segs, h1.grow g, fun i s hs => ?_⟩
  obtain ⟨u, hu, hr⟩ := h2 i s hs
  exact ⟨u, hu, hr.grow g⟩
end Go.Proofs.YtkkbbhpbcfcplaaGreat.K
