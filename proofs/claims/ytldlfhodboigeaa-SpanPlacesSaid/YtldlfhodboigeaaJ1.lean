/- The calculus of this claim's walks, with rounds of a range over a function: frames as functions from slots to values, their marks, and the loop whose round they are. Generic in the program. -/
import Derived.RangeFuncRecord
import Derived.Orders
import Derived.Tactics
import Derived.Below
import Derived.KernelRfl
set_option linter.unusedVariables false
set_option linter.unusedSimpArgs false
namespace Go.Proofs.Ytldlfhodboigeaa.K
open Go Go.RowKit

theorem beq_false {a b : Nat} (h : a ≠ b) : Nat.beq a b = false := by
  cases hb : Nat.beq a b with
  | false => rfl
  | true => exact absurd (Nat.eq_of_beq_eq_true hb) h
structure Env where
  get : Nat → Value
  ms : List Deferred
  ro : Option Nat
instance : CoeFun Env (fun _ => Nat → Value) := ⟨Env.get⟩
def Env.set (e : Env) (d : Nat) (v : Value) : Env := ⟨fun i => bif Nat.beq i d then v else e.get i, e.ms, e.ro⟩
def Env.put (e : Env) (d : Option Nat) (v : Value) : Env := match d with | some d => Env.set e d v | none => e
theorem Env.ext' {e e' : Env} (h : ∀ i, e.get i = e'.get i) (hm : e.ms = e'.ms) (hr : e.ro = e'.ro) : e = e' := by
  obtain ⟨g, m, r⟩ := e
  obtain ⟨g', m', r'⟩ := e'
  simp only at hm hr h
  subst hm; subst hr
  have : g = g' := funext h
  rw [this]
def ev (e : Env) : Operand → Value
  | .tmp t => e t
  | .const v => v
  | .global g => .pointer (some ⟨g, 0, none⟩)
  | .func f => .func (.func f) #[] #[]
def env (ro : Option Nat) (a : Act) : Env := ⟨fun i => a.tmps.getD i undef, a.defers, ro⟩

theorem eval_env (ro : Option Nat) (a : Act) : a.eval = ev (env ro a) := by
  funext x; cases x <;> rfl
theorem set_same (e : Env) (d : Nat) (v : Value) : Env.set e d v d = v := by simp [Env.set]
theorem set_ne (e : Env) {d i : Nat} (v : Value) (h : i ≠ d) : Env.set e d v i = e i := by
  have : Nat.beq i d = false := beq_false h
  simp [Env.set, this]
theorem env_put (ro : Option Nat) (a : Act) (d : Option Nat) (v : Value) (h : ∀ t, d = some t → t < a.tmps.size) : env ro (a.put d v) = (env ro a).put d v := by
  cases d with
  | none => rfl
  | some t =>
    have ht := h t rfl
    refine Env.ext' (fun i => ?_) rfl rfl
    show (a.tmps.setIfInBounds t v).getD i undef = Env.set (env ro a) t v i
    by_cases hi : i = t
    · subst hi
      rw [set_same]
      simp [Array.getD_eq_getD_getElem?, ht]
    · rw [set_ne _ _ hi]
      simp only [env, Array.getD_eq_getD_getElem?]
      rw [Array.getElem?_setIfInBounds_ne (by omega)]
theorem size_put (a : Act) (d : Option Nat) (v : Value) : (a.put d v).tmps.size = a.tmps.size := by
  cases d <;> simp [Act.put]

/-- A round comes back to its caller with a value. -/
def Rounds (P : Program) (l : Nat) (f : FuncId) (tmps : Array Value) (assign body : Code) (w : World) (K : Value → World → Prop) : Prop :=
  ∀ (c : Frame) (cs : List Frame), ∃ v w', K v w' ∧ Steps P (lone (Frame.round l f tmps assign body .normal) (c :: cs) w) (lone (c.finish v) cs w')
theorem Rounds.mono {P : Program} {l : Nat} {f : FuncId} {tmps : Array Value} {assign body : Code} {w : World} {K K' : Value → World → Prop} (hk : ∀ v w, K v w → K' v w) (h : Rounds P l f tmps assign body w K) : Rounds P l f tmps assign body w K' :=
  fun c cs => let ⟨v, w', hv, hs⟩ := h c cs; ⟨v, w', hk _ _ hv, hs⟩

/-- An operation comes to a value (by itself, by a call that returns, or by a round that comes back). -/
def Run1 (P : Program) (o : Oper) (e : Env) (w : World) (K : Value → World → Prop) : Prop :=
  match (execOp (ev e) o).run P w with
  | .ok (.value v) w' => K v w'
  | .ok .skip w' => K undef w'
  | .ok (.enter f args) w' => Calls P f args w' fun r w'' => ∃ v, r = .returned v ∧ K v w''
  | .ok (.round l f tmps assign body) w' => Rounds P l f tmps assign body w' K
  | _ => False

theorem Run1.mono {P : Program} {o : Oper} {e : Env} {w : World} {K K' : Value → World → Prop} (hk : ∀ v w, K v w → K' v w) (h : Run1 P o e w K) : Run1 P o e w K' := by
  unfold Run1 at *
  split at h <;> rename_i hr
  · exact hk _ _ h
  · exact hk _ _ h
  · exact h.mono fun r w' ⟨v, e, hv⟩ => ⟨v, e, hk _ _ hv⟩
  · exact h.mono hk
  · exact h.elim
theorem no_defer {P : Program} {o : Oper} {e : Env} {w : World} {K : Value → World → Prop} (h : Run1 P o e w K) (c : Call) : o.op ≠ .defer c := by
  intro ho
  unfold Run1 at h
  obtain ⟨dst, op, type, pos, after, guard⟩ := o
  simp only at ho
  subst ho
  simp only [execOp, Sem.run_bind] at h
  cases hr : (resolve (ev e) c type).run P w with
  | ok d w' => rw [hr] at h; simp only [Result.andThen_ok, Sem.run_pure] at h
  | halt x w' => rw [hr] at h; simp only [Result.andThen] at h

def wantedE (ops : Array Oper) (o : Oper) (e : Env) : Bool :=
  match o.guard with
  | none => true
  | some (j, b) =>
    match (ops[j]?).bind (·.dst) with
    | some d => (match e d with | .bool c => c == b | _ => false)
    | none => false

theorem wanted_eq (ro : Option Nat) (ops : Array Oper) (o : Oper) (a : Act) : Region.wanted o (yielded ops a.tmps) = wantedE ops o (env ro a) := by
  unfold Region.wanted wantedE
  cases o.guard with
  | none => rfl
  | some jb =>
    obtain ⟨j, b⟩ := jb
    simp only [yielded]
    cases hd : (ops[j]?).bind (·.dst) with
    | none => simp
    | some d =>
      simp only [Option.bind_some, env, Array.getD_eq_getD_getElem?]
      cases ht : a.tmps[d]? with
      | none => simp [undef]
      | some v => cases v <;> simp

def OpG (P : Program) (ops : Array Oper) (o : Oper) (e : Env) (w : World) (K : Value → World → Prop) : Prop :=
  bif wantedE ops o e then Run1 P o e w K else K undef w

theorem OpG.mono {P : Program} {ops : Array Oper} {o : Oper} {e : Env} {w : World} {K K' : Value → World → Prop} (hk : ∀ v w, K v w → K' v w) (h : OpG P ops o e w K) : OpG P ops o e w K' := by
  unfold OpG at *
  cases hc : wantedE ops o e <;> simp only [hc, cond_true, cond_false] at *
  · exact hk _ _ h
  · exact h.mono hk

/-- One operation, run by the machine. -/
theorem op_steps {P : Program} {ops : Array Oper} {i : Nat} {o : Oper} {b : Frame} {a : Act} {w : World} {K : Value → World → Prop} {rest : List Nat} {k : List Item} {cs : List Frame} (ho : ops[i]? = some o)
    (h : OpG P ops o (env b.roundOf a) w K) : ∃ v w', K v w' ∧ Steps P (lone (b.atR a (.inRegion ops (i :: rest) :: k)) cs w) (lone (b.atR (a.put o.dst v) (.inRegion ops rest :: k)) cs w') := by
  unfold OpG at h
  cases hc : wantedE ops o (env b.roundOf a) <;> simp only [hc, cond_true, cond_false] at h
  · have hs := stepR_op_skip (P := P) (b := b) (a := a) (k := k) (cs := cs) (w := w) (ops := ops) (i := i) (rest := rest) (by simp [ho, wanted_eq b.roundOf, hc])
    simp only [ho, Option.bind_some] at hs
    exact ⟨_, _, h, .one hs⟩
  have hw : Region.wanted o (yielded ops a.tmps) = true := by rw [wanted_eq b.roundOf, hc]
  have hg := stepGR_op (P := P) (b := b) (k := k) (cs := cs) (w := w) (rest := rest) ho hw
  rw [Oper.semAt_eq _ _ _ (no_defer h), eval_env b.roundOf] at hg
  have hfin : ∀ v, (b.atR a (.inRegion ops (i :: rest) :: k)).finish v = b.atR (a.put o.dst v) (.inRegion ops rest :: k) := by
    intro v; rw [Frame.finish_atR, ho]; rfl
  unfold Run1 at h
  split at h
  · rename_i v w' hr
    refine ⟨v, w', h, .one (step_lone_go ?_)⟩
    rw [hg, ← hfin]; simp [stepG.apply, hr]
  · rename_i w' hr
    refine ⟨_, w', h, .one (step_lone_go ?_)⟩
    rw [hg, ← hfin]; simp [stepG.apply, hr]
  · rename_i f args w' hr
    obtain ⟨e, w'', fr, ⟨v, hv, hK⟩, hsteps, _, hleave⟩ := h (b.atR a (.inRegion ops (i :: rest) :: k) :: cs)
    subst hv
    have henter : step P (lone (b.atR a (.inRegion ops (i :: rest) :: k)) cs w) =
        .next (lone (Frame.enter P f args .normal) (b.atR a (.inRegion ops (i :: rest) :: k) :: cs) w') :=
      step_lone_go (by rw [hg]; simp [stepG.apply, hr, Frame.atR])
    refine ⟨v, w'', hK, .head henter (Steps.trans hsteps (.one ?_))⟩
    rw [← hfin]; exact step_leave_returned hleave
  · rename_i l f tmps as bd w' hr
    obtain ⟨v, w'', hK, hsteps⟩ := h (b.atR a (.inRegion ops (i :: rest) :: k)) cs
    have henter : step P (lone (b.atR a (.inRegion ops (i :: rest) :: k)) cs w) =
        .next (lone (Frame.round l f tmps as bd .normal) (b.atR a (.inRegion ops (i :: rest) :: k) :: cs) w') :=
      step_lone_go (by rw [hg]; simp [stepG.apply, hr, Frame.atR])
    refine ⟨v, w'', hK, .head henter ?_⟩
    rw [← hfin]; exact hsteps
  · exact h.elim

/-! ### how code is left -/
inductive Ex where
  | normal
  | exit (id : Nat)
  | ret
def Arr (P : Program) (m : Machine) (b : Frame) (k : List Item) (cs : List Frame) : Ex → Act → World → Prop
  | .normal, a, w => Steps P m (lone (b.atR a k) cs w)
  | .exit id, a, w => ∃ k0, exitTo id k0 = exitTo id k ∧ Steps P m (lone (b.atR a (.code (.exit id) :: k0)) cs w)
  | .ret, a, w => ∃ k0, Steps P m (lone (b.atR a (.code .ret :: k0)) cs w)
theorem Arr.of {P : Program} {m m1 : Machine} {b : Frame} {k : List Item} {cs : List Frame} {x : Ex} {a : Act} {w : World} (h : Steps P m m1) (h' : Arr P m1 b k cs x a w) : Arr P m b k cs x a w := by
  cases x with
  | normal => exact h.trans h'
  | exit id => obtain ⟨k0, hk, hs⟩ := h'; exact ⟨k0, hk, h.trans hs⟩
  | ret => obtain ⟨k0, hs⟩ := h'; exact ⟨k0, h.trans hs⟩
/-- Past an item that holds nothing back. -/
theorem Arr.past {P : Program} {m : Machine} {b : Frame} {y : Item} {k : List Item} {cs : List Frame} {x : Ex} {a : Act} {w : World} (hy : ∀ id, exitTo id (y :: k) = exitTo id k) (hn : x ≠ .normal) (h : Arr P m b (y :: k) cs x a w) : Arr P m b k cs x a w := by
  cases x with
  | normal => exact absurd rfl hn
  | exit id => obtain ⟨k0, hk, hs⟩ := h; exact ⟨k0, by rw [hk, hy], hs⟩
  | ret => exact h

/-- The operations of a region in the text's order. -/
def WL (P : Program) (ops : Array Oper) (Q : Ex → Env → World → Prop) : List Oper → Env → World → Prop
  | [], e, w => Q .normal e w
  | o :: r, e, w => OpG P ops o e w fun v w' => WL P ops Q r (e.put o.dst v) w'
def W (P : Program) (n : Nat) (c : Code) (Q : Ex → Env → World → Prop) (e : Env) (w : World) : Prop :=
  ∀ (b : Frame) (a : Act) (k : List Item) (cs : List Frame), a.tmps.size = n → env b.roundOf a = e →
    ∃ x a' w', a'.tmps.size = n ∧ Q x (env b.roundOf a') w' ∧ Arr P (lone (b.atR a (.code c :: k)) cs w) b k cs x a' w'

def dstOk (n : Nat) (l : List Oper) : Bool := l.all fun o => match o.dst with | some d => Nat.blt d n | none => true
theorem dstOk_mem {n : Nat} {l : List Oper} (h : dstOk n l = true) {o : Oper} (ho : o ∈ l) : ∀ d, o.dst = some d → d < n := by
  intro d hd
  simp only [dstOk, List.all_eq_true] at h
  have := h o ho
  rw [hd] at this
  simpa [Nat.blt_eq] using this

/-- The operations of a list, by their numbers. -/
def OpsE (P : Program) (ops : Array Oper) (Q : Ex → Env → World → Prop) : List Nat → Env → World → Prop
  | [], e, w => Q .normal e w
  | i :: r, e, w => match ops[i]? with
    | none => OpsE P ops Q r e w
    | some o => OpG P ops o e w fun v w' => OpsE P ops Q r (e.put o.dst v) w'
theorem ops_sound {P : Program} {n : Nat} {l : List Oper} {Q : Ex → Env → World → Prop} (hd : dstOk n l = true) {b : Frame} {k : List Item} {cs : List Frame} : ∀ (L : List Nat) (a : Act) (w : World), a.tmps.size = n →
    OpsE P l.toArray Q L (env b.roundOf a) w → ∃ x a' w', a'.tmps.size = n ∧ Q x (env b.roundOf a') w' ∧ Arr P (lone (b.atR a (.inRegion l.toArray L :: k)) cs w) b k cs x a' w'
  | [], a, w, hs, h => ⟨.normal, a, w, hs, h, .one stepR_region_end⟩
  | i :: r, a, w, hs, h => by
    simp only [OpsE] at h
    cases ho : l.toArray[i]? with
    | none =>
      rw [ho] at h
      obtain ⟨x, a', w', h1, h2, h3⟩ := ops_sound hd r a w hs h
      have hst := stepR_op_skip (P := P) (b := b) (a := a) (k := k) (cs := cs) (w := w) (ops := l.toArray) (i := i) (rest := r) (by simp [ho])
      simp only [ho, Option.bind_none, Act.put] at hst
      exact ⟨x, a', w', h1, h2, .of (.one hst) h3⟩
    | some o =>
      rw [ho] at h
      simp only at h
      obtain ⟨v, w1, hv, hst⟩ := op_steps (rest := r) (k := k) (cs := cs) ho h
      have hm : o ∈ l := by rw [List.getElem?_toArray] at ho; exact List.mem_of_getElem? ho
      rw [← env_put _ _ _ _ (fun t ht => by rw [hs]; exact dstOk_mem hd hm t ht)] at hv
      obtain ⟨x, a', w', h1, h2, h3⟩ := ops_sound hd r (a.put o.dst v) w1 (by rw [size_put]; exact hs) hv
      exact ⟨x, a', w', h1, h2, .of hst h3⟩
theorem WL_ops {P : Program} {Q : Ex → Env → World → Prop} : ∀ (tl hd : List Oper) (e : Env) (w : World), WL P (hd ++ tl).toArray Q tl e w → OpsE P (hd ++ tl).toArray Q (List.range' hd.length tl.length) e w
  | [], hd, e, w, h => h
  | o :: r, hd, e, w, h => by
    simp only [List.length_cons, List.range'_succ, OpsE]
    have ho : (hd ++ o :: r).toArray[hd.length]? = some o := by simp
    rw [ho]
    refine OpG.mono (fun v w' hv => ?_) h
    have := WL_ops r (hd ++ [o]) (e.put o.dst v) w' (by simpa using hv)
    simpa using this

section rules
variable {P : Program} {n : Nat} {Q : Ex → Env → World → Prop} {e : Env} {w : World}

theorem W_region {id : Nat} {l : List Oper} (hd : dstOk n l = true) (h : WL P l.toArray Q l e w) : W P n (.region id l.toArray false) Q e w := by
  intro b a k cs hs he
  subst he
  have h' := WL_ops l [] _ _ h
  simp only [List.nil_append, List.length_nil] at h'
  obtain ⟨x, a', w', h1, h2, h3⟩ := ops_sound hd (k := k) (cs := cs) _ a w hs h'
  refine ⟨x, a', w', h1, h2, .of (.one stepR_region) ?_⟩
  rw [List.range_eq_range']
  simpa using h3

@[reducible] def qthen (K : Env → World → Prop) (Q : Ex → Env → World → Prop) : Ex → Env → World → Prop
  | .normal, e, w => K e w
  | .exit i, e, w => Q (.exit i) e w
  | .ret, e, w => Q .ret e w
@[reducible] def qblock (id : Nat) (Q : Ex → Env → World → Prop) : Ex → Env → World → Prop
  | .exit i, e, w => bif Nat.beq i id then Q .normal e w else Q (.exit i) e w
  | .normal, e, w => Q .normal e w
  | .ret, e, w => Q .ret e w

theorem W.mono {c : Code} {Q' : Ex → Env → World → Prop} (hq : ∀ x e w, Q x e w → Q' x e w) (h : W P n c Q e w) : W P n c Q' e w :=
  fun b a k cs hs he => let ⟨x, a', w', h1, h2, h3⟩ := h b a k cs hs he; ⟨x, a', w', h1, hq _ _ _ h2, h3⟩

theorem W_seq {x y : Code} (h : W P n x (qthen (W P n y Q) Q) e w) : W P n (.seq x y) Q e w := by
  intro b a k cs hs he
  obtain ⟨t, a1, w1, h1, h2, h3⟩ := h b a (.code y :: k) cs hs he
  cases t with
  | normal =>
    obtain ⟨t2, a2, w2, g1, g2, g3⟩ := h2 b a1 k cs h1 rfl
    exact ⟨t2, a2, w2, g1, g2, .of (.head stepR_seq h3) g3⟩
  | exit i => exact ⟨.exit i, a1, w1, h1, h2, .past (y := .code y) (fun _ => rfl) (by simp) (.of (.one stepR_seq) h3)⟩
  | ret => exact ⟨.ret, a1, w1, h1, h2, .past (y := .code y) (fun _ => rfl) (by simp) (.of (.one stepR_seq) h3)⟩
theorem W_skip (h : Q .normal e w) : W P n .skip Q e w := fun b a k cs hs he => ⟨.normal, a, w, hs, he ▸ h, .one stepR_skip⟩
theorem W_label {l : Nat} (h : Q .normal e w) : W P n (.label l) Q e w := fun b a k cs hs he => ⟨.normal, a, w, hs, he ▸ h, .one stepR_label⟩
theorem W_exit {i : Nat} (h : Q (.exit i) e w) : W P n (.exit i) Q e w := fun b a k cs hs he => ⟨.exit i, a, w, hs, he ▸ h, k, rfl, .refl _ _⟩
theorem W_ret (h : Q .ret e w) : W P n .ret Q e w := fun b a k cs hs he => ⟨.ret, a, w, hs, he ▸ h, k, .refl _ _⟩
theorem W_cond {c : Operand} {x y : Code} {b : Bool} (hc : ev e c = .bool b) (h : W P n (bif b then x else y) Q e w) : W P n (.cond c x y) Q e w := by
  intro fr a k cs hs he
  obtain ⟨t, a1, w1, h1, h2, h3⟩ := h fr a k cs hs he
  refine ⟨t, a1, w1, h1, h2, .of (.one (stepR_cond (t := b) (by rw [eval_env fr.roundOf, he]; exact hc))) ?_⟩
  cases b <;> exact h3
theorem W_cond2 {c : Operand} {x y : Code} {b : Bool} (hc : ev e c = .bool b) (ht : b = true → W P n x Q e w) (hf : b = false → W P n y Q e w) : W P n (.cond c x y) Q e w := by
  cases b
  · exact W_cond hc (hf rfl)
  · exact W_cond hc (ht rfl)
theorem W_true {c : Operand} {x y : Code} (hc : ev e c = .bool true) (h : W P n x Q e w) : W P n (.cond c x y) Q e w := W_cond hc h
theorem W_false {c : Operand} {x y : Code} (hc : ev e c = .bool false) (h : W P n y Q e w) : W P n (.cond c x y) Q e w := W_cond hc h
theorem W_block {id : Nat} {c : Code} (h : W P n c (qblock id Q) e w) : W P n (.block id c) Q e w := by
  intro b a k cs hs he
  obtain ⟨t, a1, w1, h1, h2, h3⟩ := h b a (.inBlock id :: k) cs hs he
  cases t with
  | normal => exact ⟨.normal, a1, w1, h1, h2, .head stepR_block (Steps.trans h3 (.one stepR_inBlock))⟩
  | exit i =>
    obtain ⟨k0, hk, hst⟩ := h3
    simp only [qblock] at h2
    by_cases hi : i = id
    · subst hi
      simp at h2
      refine ⟨.normal, a1, w1, h1, h2, .head stepR_block (Steps.trans hst (.one (stepR_exit ?_)))⟩
      rw [hk]; simp [exitTo]
    · rw [beq_false hi] at h2
      refine ⟨.exit i, a1, w1, h1, h2, k0, ?_, .head stepR_block hst⟩
      rw [hk]
      have : (id == i) = false := by simp; exact fun h => hi h.symm
      simp [exitTo, this]
  | ret => exact ⟨.ret, a1, w1, h1, h2, .of (.one stepR_block) h3⟩
theorem W_loop {c : Code} (I : Nat → Env → World → Prop) (m : Nat) (h0 : I m e w)
    (round : ∀ m e w, I m e w → W P n c (qthen (fun e' w' => ∃ m', m' < m ∧ I m' e' w') Q) e w) : W P n (.loop c) Q e w := by
  intro b a k cs hs he
  subst he
  have key : ∀ m (a : Act) w, a.tmps.size = n → I m (env b.roundOf a) w →
      ∃ x a' w', a'.tmps.size = n ∧ Q x (env b.roundOf a') w' ∧ Arr P (lone (b.atR a (.code c :: .inLoop c :: k)) cs w) b k cs x a' w' := by
    intro m
    induction m using Nat.strongRecOn with
    | _ m ih =>
      intro a w hs hI
      obtain ⟨x, a1, w1, h1, h2, h3⟩ := round m _ w hI b a (.inLoop c :: k) cs hs rfl
      cases x with
      | normal =>
        obtain ⟨m', hlt, hI'⟩ := h2
        obtain ⟨x2, a2, w2, g1, g2, g3⟩ := ih m' hlt a1 w1 h1 hI'
        exact ⟨x2, a2, w2, g1, g2, .of (Steps.trans h3 (.one stepR_inLoop)) g3⟩
      | exit i => exact ⟨.exit i, a1, w1, h1, h2, .past (y := .inLoop c) (fun _ => rfl) (by simp) h3⟩
      | ret => exact ⟨.ret, a1, w1, h1, h2, .past (y := .inLoop c) (fun _ => rfl) (by simp) h3⟩
  obtain ⟨x, a', w', g1, g2, g3⟩ := key m a w hs h0
  exact ⟨x, a', w', g1, g2, .of (.one stepR_loop) g3⟩
end rules

/-! ### a call's frame -/
def Res1 (P : Program) (e : Env) (w : World) : ResultVar → Value → Prop
  | .tmp t, v => v = e t
  | .cell a t, v => (do loadVar t (← asAddr (e a))).run P w = .ok v w
def ResL (P : Program) (e : Env) (w : World) : List ResultVar → List Value → Prop
  | [], [] => True
  | r :: rs, v :: vs => Res1 P e w r v ∧ ResL P e w rs vs
  | _, _ => False
def one : List Value → Value
  | [v] => v
  | vs => .tuple vs.toArray
/-- The marks are taken, one by one; none holds a call. -/
def Taken (P : Program) : List Deferred → World → World → Prop
  | [], w, w' => w' = w
  | d :: ds, w, w' => ∃ r w1, d.target = .collected r ∧ (Instr.takeDeferred r).run P w = .ok [] w1 ∧ Taken P ds w1 w'
def RetQ (P : Program) (rs : List ResultVar) (R : Ending → World → Prop) : Ex → Env → World → Prop
  | .normal, e, w | .ret, e, w => ∃ w', Taken P e.ms w w' ∧ ∃ vs, ResL P e w' rs vs ∧ R (.returned (one vs)) w'
  | _, _, _ => False

def resSem (tmps : Array Value) : ResultVar → Sem Value
  | .tmp t => pure (tmps.getD t undef)
  | .cell a t => do loadVar t (← asAddr (tmps.getD a undef))
theorem resSem_run {P : Program} {ro : Option Nat} {a : Act} {w : World} {r : ResultVar} {v : Value} (h1 : Res1 P (env ro a) w r v) : (resSem a.tmps r).run P w = .ok v w := by
  cases r with
  | tmp t => simp only [Res1] at h1; subst h1; rfl
  | cell a t => exact h1
theorem mapM_run {P : Program} {ro : Option Nat} {a : Act} {w : World} : ∀ (rs : List ResultVar) (vs : List Value), ResL P (env ro a) w rs vs →
    (rs.mapM (resSem a.tmps)).run P w = .ok vs w
  | [], [], _ => by simp
  | [], _ :: _, h => h.elim
  | _ :: _, [], h => h.elim
  | r :: rs, v :: vs, ⟨h1, h2⟩ => by
    rw [List.mapM_cons, Sem.run_bind, resSem_run h1]
    simp only [Result.andThen_ok, Sem.run_bind]
    rw [mapM_run rs vs h2]
    rfl
theorem results_run {P : Program} {fn : Func} {ro : Option Nat} {a : Act} {w : World} {vs : List Value}
    (h : ResL P (env ro a) w fn.results.toList vs) : (results fn a.tmps).run P w = .ok (one vs) w := by
  have he : results fn a.tmps = (do let vs ← fn.results.mapM (resSem a.tmps); pure (if h : vs.size = 1 then vs[0] else .tuple vs)) := rfl
  rw [he, Array.mapM_eq_mapM_toList, Sem.run_bind, Sem.run_map, mapM_run _ _ h]
  simp only [Result.andThen_ok]
  match vs with
  | [] => rfl
  | [v] => rfl
  | v :: u :: vs => simp [one]
theorem taken_steps {P : Program} {cs : List Frame} : ∀ (ds : List Deferred) (fr : Frame) (w w' : World), fr.mode ≠ .run → fr.defers = ds → Taken P ds w w' →
    Steps P (lone fr cs w) (lone { fr with defers := [] } cs w')
  | [], fr, w, w', hm, hd, h => by
    simp only [Taken] at h
    subst h
    have : ({ fr with defers := [] } : Frame) = fr := by rw [← hd]
    rw [this]
    exact .refl _ _
  | d :: ds, fr, w, w', hm, hd, h => by
    obtain ⟨r, w1, ht, hk, hr⟩ := h
    exact .head (step_collected hm hd ht hk) (taken_steps ds { fr with defers := [] ++ ds } w1 w' hm rfl hr)
theorem calls_of_W {P : Program} {f : FuncId} {fn : Func} {c : Code} {args : Array Value} {w : World} {R : Ending → World → Prop} {n : Nat} {rs : List ResultVar}
    (hf : P.funcs[f]? = some fn) (hb : fn.body = some c) (hn : fn.ntmps = n) (hr : fn.results.toList = rs) (hle : Nat.ble args.size n = true)
    (h : W P n c (RetQ P rs R) ⟨fun i => args.getD i undef, [], none⟩ w) : Calls P f args w R := by
  subst hr
  have hle : args.size ≤ n := Nat.le_of_ble_eq_true hle
  intro cs
  let b : Frame := { (default : Frame) with fn := f, kind := .normal, roundOf := none }
  let a : Act := { tmps := args ++ Array.replicate (fn.ntmps - args.size) undef, defers := [] }
  have henter : Frame.enter P f args .normal = b.atR a [.code c] := by
    simp [Frame.enter, Frame.atR, hf, hb, b, a]
  obtain ⟨x, a', w', h1, h2, h3⟩ := h b a [] cs (by simp [a, hn]; omega) (by
    refine Env.ext' (fun i => ?_) rfl rfl
    simp only [env, a, Array.getD_eq_getD_getElem?]
    by_cases hi : i < args.size
    · rw [Array.getElem?_append_left hi]
    · rw [Array.getElem?_append_right (by omega)]
      rw [Array.getElem?_eq_none (xs := args) (by omega)]
      simp only [Array.getElem?_replicate]
      split <;> rfl)
  rw [← henter] at h3
  have fin : ∀ (fr : Frame), fr.mode = .returning → fr.defers = a'.defers → fr.tmps = a'.tmps → fr.fn = f → fr.kind = .normal → Steps P (lone (Frame.enter P f args .normal) cs w) (lone fr cs w') → (∃ w'', Taken P a'.defers w' w'' ∧ ∃ vs, ResL P (env none a') w'' fn.results.toList vs ∧ R (.returned (one vs)) w'') →
      ∃ e w'' fr', R e w'' ∧ Comes P (lone (Frame.enter P f args .normal) cs w) (lone fr' cs w'') e ∧ fr'.fn = f ∧ fr'.leaving P w'' e := by
    intro fr hm hd ht hfn hk hst ⟨w'', htk, vs, hv, hR⟩
    refine ⟨.returned (one vs), w'', _, hR, Steps.trans hst (taken_steps _ fr w' w'' (by rw [hm]; simp) hd htk), hfn, hm, rfl, hk, fn, by rw [← hf, ← hfn], ?_⟩
    show (results fn fr.tmps).run P w'' = _
    rw [ht]
    exact results_run hv
  cases x with
  | normal => exact fin { b.atR a' [] with mode := .returning } rfl rfl rfl rfl rfl (Steps.trans h3 (.one (stepR_end rfl))) h2
  | ret =>
    obtain ⟨k0, h3⟩ := h3
    exact fin { b.atR a' (.code .ret :: k0) with mode := .returning } rfl rfl rfl rfl rfl (Steps.trans h3 (.one (stepR_ret rfl))) h2
  | exit _ => exact h2.elim

/-! ### rounds -/
/-- What a round's body must leave behind. -/
def RoundQ (P : Program) (l : Nat) (K : Value → World → Prop) : Ex → Env → World → Prop
  | .normal, e, w => ∃ r, w.heap[l]? = some (.loop r) ∧ K (.bool true) (w.putObj l (.loop { r with state := .ready, pending := none }))
  | .exit i, e, w => ∃ r, w.heap[l]? = some (.loop r) ∧ K (.bool false) (w.putObj l (.loop { r with state := .done, pending := some (.exit i) }))
  | .ret, e, w => ∃ r, w.heap[l]? = some (.loop r) ∧ K (.bool false) (w.putObj l (.loop { r with state := .done, pending := some .ret }))
theorem rounds_of_W {P : Program} {l : Nat} {f : FuncId} {tmps : Array Value} {assign body : Code} {w : World} {K : Value → World → Prop} {n : Nat} (hn : tmps.size = n)
    (h : W P n assign (qthen (fun e1 w1 => ∃ r, w1.heap[l]? = some (.loop r) ∧ r.state = .ready ∧ W P n body (RoundQ P l K) e1 (w1.putObj l (.loop { r with state := .busy }))) (fun _ _ _ => False)) ⟨fun i => tmps.getD i undef, [], some l⟩ w) :
    Rounds P l f tmps assign body w K := by
  intro c cs
  let b : Frame := { (default : Frame) with fn := f, kind := .normal, roundOf := some l }
  let a : Act := { tmps := tmps, defers := [] }
  have hb0 : Frame.round l f tmps assign body .normal = b.atR a [.code assign, .beginRound, .code body] := by
    simp [Frame.round, Frame.atR, b, a]
  obtain ⟨x, a1, w1, h1, h2, h3⟩ := h b a [.beginRound, .code body] (c :: cs) hn rfl
  rw [← hb0] at h3
  cases x with
  | exit _ => exact h2.elim
  | ret => exact h2.elim
  | normal =>
    obtain ⟨r, hr, hst, hbody⟩ := h2
    have s1 := stepR_beginRound (P := P) (b := b) (a := a1) (k := [.code body]) (cs := c :: cs) (w := w1) rfl (run_beginRound hr hst)
    obtain ⟨x2, a2, w2, g1, g2, g3⟩ := hbody b a1 [] (c :: cs) h1 rfl
    have s2 := Steps.trans h3 (.one s1)
    cases x2 with
    | normal =>
      obtain ⟨r2, hr2, hK⟩ := g2
      exact ⟨_, _, hK, Steps.trans s2 (Steps.trans g3 (.one (stepR_round_end rfl rfl (run_endRound none hr2))))⟩
    | ret =>
      obtain ⟨r2, hr2, hK⟩ := g2
      obtain ⟨k0, g3⟩ := g3
      exact ⟨_, _, hK, Steps.trans s2 (Steps.trans g3 (.one (stepR_round_ret rfl rfl (run_endRound (some .ret) hr2))))⟩
    | exit i =>
      obtain ⟨r2, hr2, hK⟩ := g2
      obtain ⟨k0, hk0, g3⟩ := g3
      exact ⟨_, _, hK, Steps.trans s2 (Steps.trans g3 (.one (stepR_round_exit rfl rfl (by rw [hk0]; rfl) (run_endRound (some (.exit i)) hr2))))⟩

/-- What a call of a loop's yield comes to. -/
def Yields (P : Program) (l : Nat) (args : Array Value) (w : World) (K : Value → World → Prop) : Prop :=
  ∃ r, w.heap[l]? = some (.loop r) ∧ args.size = r.params.size ∧ Rounds P l r.fn ((r.params.zip args).foldl (fun tmps (t, a) => tmps.setIfInBounds t a) r.tmps) r.assign r.body w K
/-- Behind the function that was ranged over. -/
def RangeQ (l : Nat) (Q : Ex → Env → World → Prop) (e : Env) (r : Ending) (w : World) : Prop :=
  ∃ v rc, r = .returned v ∧ w.heap[l]? = some (.loop rc) ∧ rc.state ≠ .busy ∧ match rc.pending with
    | none => Q .normal e (w.putObj l (.loop { rc with state := .exhausted }))
    | some .ret => Q .ret e (w.putObj l (.loop { rc with state := .exhausted }))
    | some (.exit i) => Q (.exit i) e (w.putObj l (.loop { rc with state := .exhausted }))
    | _ => False
theorem range_sound {P : Program} {n : Nat} {Q : Ex → Env → World → Prop} {g : Operand} {ps : Array Tmp} {assign body : Code} {b : Frame} {a : Act} {k : List Item} {cs : List Frame} {w w1 : World} {l : Nat} {mark : List Deferred} {d : Deferred} {f : FuncId} {args : Array Value} (hs : a.tmps.size = n)
    (he : (Instr.enterLoop b.fn a.tmps ps assign body b.roundOf).run P w = .ok (l, mark) w1)
    (hres : (resolve a.eval (rangeCall g l) 0).run P w1 = .ok d w1) (hinv : (invoke d.target d.args).run P w1 = .ok (.enter f args) w1)
    (hc : Calls P f args w1 (RangeQ l Q (env b.roundOf { a with defers := mark ++ a.defers }))) :
    ∃ x a' w', a'.tmps.size = n ∧ Q x (env b.roundOf a') w' ∧ Arr P (lone (b.atR a (.code (.rangeFunc g ps assign body) :: k)) cs w) b k cs x a' w' := by
  have s1 := stepR_rangeFunc (k := k) (cs := cs) he hres hinv
  obtain ⟨e, w2, fr, ⟨v, rc, rfl, hrc, hb, hq⟩, hsteps, _, hleave⟩ := hc (b.atR { a with defers := mark ++ a.defers } (.inRangeFunc l :: k) :: cs)
  have s2 := step_leave_returned (P := P) (c := b.atR { a with defers := mark ++ a.defers } (.inRangeFunc l :: k)) (cs := cs) hleave
  rw [finish_atR_inRangeFunc] at s2
  have s3 := stepR_endRangeFunc (b := b) (a := { a with defers := mark ++ a.defers }) (k := k) (cs := cs) (run_endLoop (P := P) hrc hb)
  have s4 := Steps.head s1 (Steps.trans hsteps (.head s2 (.one s3)))
  generalize hp : rc.pending = p at hq s4
  match p, hq, s4 with
  | none, hq, s4 => exact ⟨.normal, { a with defers := mark ++ a.defers }, _, hs, hq, s4⟩
  | some .ret, hq, s4 => exact ⟨.ret, { a with defers := mark ++ a.defers }, _, hs, hq, k, s4⟩
  | some (.exit i), hq, s4 => exact ⟨.exit i, { a with defers := mark ++ a.defers }, _, hs, hq, k, rfl, s4⟩
  | some (.seq _ _), hq, s4 => exact hq.elim
  | some (.cond _ _ _), hq, s4 => exact hq.elim
  | some (.block _ _), hq, s4 => exact hq.elim
  | some (.loop _), hq, s4 => exact hq.elim
  | some (.region _ _ _), hq, s4 => exact hq.elim
  | some .skip, hq, s4 => exact hq.elim
  | some (.label _), hq, s4 => exact hq.elim
  | some (.goto _), hq, s4 => exact hq.elim
  | some (.scope _), hq, s4 => exact hq.elim
  | some (.rangeFunc _ _ _ _), hq, s4 => exact hq.elim
  | some (.refuse _), hq, s4 => exact hq.elim
theorem W_range {P : Program} {n : Nat} {Q : Ex → Env → World → Prop} {e : Env} {w : World} {g : Operand} {ps : Array Tmp} {assign body : Code} {d : Nat → Deferred} {f : FuncId} {args : Nat → Array Value} (hro : e.ro = none)
    (hres : ∀ l w, (resolve (ev e) (rangeCall g l) 0).run P w = .ok (d l) w) (hinv : ∀ l w, (invoke (d l).target (d l).args).run P w = .ok (.enter f (args l)) w)
    (h : ∀ rc : Loop, rc.state = .ready → rc.pending = none → rc.params = ps → rc.assign = assign → rc.body = body → rc.tmps.size = n → (∀ i, rc.tmps.getD i undef = e i) →
      Calls P f (args (w.heap.size + 1)) ((w.alloc (.deferred (some []))).alloc (.loop rc)) (RangeQ (w.heap.size + 1) Q ⟨e.get, ⟨.collected w.heap.size, #[]⟩ :: e.ms, none⟩)) :
    W P n (.rangeFunc g ps assign body) Q e w := by
  intro b a k cs hs he
  subst he
  have hro' : b.roundOf = none := hro
  have hen := run_enterLoop_outer (P := P) (w := w) b.fn a.tmps ps assign body
  rw [← hro'] at hen
  refine range_sound hs hen (by rw [eval_env b.roundOf]; exact hres _ _) (hinv _ _) ?_
  have := h { state := .ready, pending := none, fn := b.fn, tmps := a.tmps, params := ps, assign, body, defers := w.heap.size } rfl rfl rfl rfl rfl hs (fun i => rfl)
  rw [hro']
  exact this
end Go.Proofs.Ytldlfhodboigeaa.K
