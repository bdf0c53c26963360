/- Plain laws, rules and walks of this claim's functions, laid together. -/
import Derived.RangeFuncRecord
import Derived.Orders
import Derived.Tactics
import Derived.Below
import Derived.KernelRfl
import Derived.IntWalk
import Derived.Laws.Shifts
import Derived.Laws.Small
import Derived.Laws.Slices
import Derived.Laws.Rows
import Derived.Laws.Build
import Derived.OwnWalk
import Derived.Laws.AppendOwn
import Derived.Laws.StructEq
import Derived.Laws.MakeOwn
import Derived.Laws.OwnMore
import Derived.Laws.Cover3
import Derived.WalkSpells
import Derived.Test.YtkkbbhpbcfcplaaGreatProg
set_option linter.unusedVariables false
set_option linter.unusedSimpArgs false
set_option maxRecDepth 100000
namespace Go.Proofs.YtkkbbhpbcfcplaaGreat.K
open Go Go.RowKit
theorem qG1 {a b : Nat} (h : a ≠ b) : Nat.beq a b = false := by
  cases hb : Nat.beq a b with
  | false => rfl
  | true => exact absurd (Nat.eq_of_beq_eq_true hb) h
structure Env where
  get : Nat → Value
  ms : List Deferred
  ro : Option Nat
instance : CoeFun Env (fun _ => Nat → Value) := ⟨Env.get⟩
def Env.set (e : Env) (d : Nat) (v : Value) : Env := ⟨fun i => bif Nat.beq i d then v else e.get i, e.ms, e.ro⟩
def Env.put (e : Env) (d : Option Nat) (v : Value) : Env := match d with | some d => Env.set e d v | none => e
theorem Env.ext' {e e' : Env} (h : ∀ i, e.get i = e'.get i) (hm : e.ms = e'.ms) (hr : e.ro = e'.ro) : e = e' := by
  obtain ⟨g, m, r⟩ := e
  obtain ⟨g', m', r'⟩ := e'
  simp only at hm hr h
  subst hm; subst hr
  have : g = g' := funext h
  rw [this]
def ev (e : Env) : Operand → Value
  | .tmp t => e t
  | .const v => v
  | .global g => .pointer (some ⟨g, 0, none⟩)
  | .func f => .func (.func f) #[] #[]
def env (ro : Option Nat) (a : Act) : Env := ⟨fun i => a.tmps.getD i undef, a.defers, ro⟩
theorem qZ0 (ro : Option Nat) (a : Act) : a.eval = ev (env ro a) := by
  funext x; cases x <;> rfl
theorem zP8 (e : Env) (d : Nat) (v : Value) : Env.set e d v d = v := by simp [Env.set]
theorem zR5 (e : Env) {d i : Nat} (v : Value) (h : i ≠ d) : Env.set e d v i = e i := by
  have : Nat.beq i d = false := qG1 h
  simp [Env.set, this]
theorem yU3 (ro : Option Nat) (a : Act) (d : Option Nat) (v : Value) (h : ∀ t, d = some t → t < a.tmps.size) : env ro (a.put d v) = (env ro a).put d v := by
  cases d with
  | none => rfl
  | some t =>
    have ht := h t rfl
    refine Env.ext' (fun i => ?_) rfl rfl
    show (a.tmps.setIfInBounds t v).getD i undef = Env.set (env ro a) t v i
    by_cases hi : i = t
    · subst hi
      rw [zP8]
      simp [Array.getD_eq_getD_getElem?, ht]
    · rw [zR5 _ _ hi]
      simp only [env, Array.getD_eq_getD_getElem?]
      rw [Array.getElem?_setIfInBounds_ne (by omega)]
theorem yO4 (a : Act) (d : Option Nat) (v : Value) : (a.put d v).tmps.size = a.tmps.size := by
  cases d <;> simp [Act.put]
def qZ1 (P : Program) (l : Nat) (f : FuncId) (tmps : Array Value) (assign body : Code) (w : World) (K : Value → World → Prop) : Prop :=
  ∀ (c : Frame) (cs : List Frame), ∃ v w', K v w' ∧ Steps P (lone (Frame.round l f tmps assign body .normal) (c :: cs) w) (lone (c.finish v) cs w')
theorem qZ1.mono {P : Program} {l : Nat} {f : FuncId} {tmps : Array Value} {assign body : Code} {w : World} {K K' : Value → World → Prop} (hk : ∀ v w, K v w → K' v w) (h : qZ1 P l f tmps assign body w K) : qZ1 P l f tmps assign body w K' :=
  fun c cs => let ⟨v, w', hv, hs⟩ := h c cs; ⟨v, w', hk _ _ hv, hs⟩
def Run1 (P : Program) (o : Oper) (e : Env) (w : World) (K : Value → World → Prop) : Prop :=
  match (execOp (ev e) o).run P w with
  | .ok (.value v) w' => K v w'
  | .ok .skip w' => K undef w'
  | .ok (.enter f args) w' => Calls P f args w' fun r w'' => ∃ v, r = .returned v ∧ K v w''
  | .ok (.round l f tmps assign body) w' => qZ1 P l f tmps assign body w' K
  | _ => False
theorem Run1.mono {P : Program} {o : Oper} {e : Env} {w : World} {K K' : Value → World → Prop} (hk : ∀ v w, K v w → K' v w) (h : Run1 P o e w K) : Run1 P o e w K' := by
  unfold Run1 at *
  split at h <;> rename_i hr
  · exact hk _ _ h
  · exact hk _ _ h
  · exact h.mono fun r w' ⟨v, e, hv⟩ => ⟨v, e, hk _ _ hv⟩
  · exact h.mono hk
  · exact h.elim
theorem yO5 {P : Program} {o : Oper} {e : Env} {w : World} {K : Value → World → Prop} (h : Run1 P o e w K) (c : Call) : o.op ≠ .defer c := by
  intro ho
  unfold Run1 at h
  obtain ⟨dst, op, type, pos, after, guard⟩ := o
  simp only at ho
  subst ho
  simp only [execOp, Sem.run_bind] at h
  cases hr : (resolve (ev e) c type).run P w with
  | ok d w' => rw [hr] at h; simp only [Result.andThen_ok, Sem.run_pure] at h
  | halt x w' => rw [hr] at h; simp only [Result.andThen] at h
def zL2 (ops : Array Oper) (o : Oper) (e : Env) : Bool :=
  match o.guard with
  | none => true
  | some (j, b) =>
    match (ops[j]?).bind (·.dst) with
    | some d => (match e d with | .bool c => c == b | _ => false)
    | none => false
theorem qO7 (ro : Option Nat) (ops : Array Oper) (o : Oper) (a : Act) : Region.wanted o (yielded ops a.tmps) = zL2 ops o (env ro a) := by
  unfold Region.wanted zL2
  cases o.guard with
  | none => rfl
  | some jb =>
    obtain ⟨j, b⟩ := jb
    simp only [yielded]
    cases hd : (ops[j]?).bind (·.dst) with
    | none => simp
    | some d =>
      simp only [Option.bind_some, env, Array.getD_eq_getD_getElem?]
      cases ht : a.tmps[d]? with
      | none => simp [undef]
      | some v => cases v <;> simp
def OpG (P : Program) (ops : Array Oper) (o : Oper) (e : Env) (w : World) (K : Value → World → Prop) : Prop :=
  bif zL2 ops o e then Run1 P o e w K else K undef w
theorem OpG.mono {P : Program} {ops : Array Oper} {o : Oper} {e : Env} {w : World} {K K' : Value → World → Prop} (hk : ∀ v w, K v w → K' v w) (h : OpG P ops o e w K) : OpG P ops o e w K' := by
  unfold OpG at *
  cases hc : zL2 ops o e <;> simp only [hc, cond_true, cond_false] at *
  · exact hk _ _ h
  · exact h.mono hk
theorem yO6 {P : Program} {ops : Array Oper} {i : Nat} {o : Oper} {b : Frame} {a : Act} {w : World} {K : Value → World → Prop} {rest : List Nat} {k : List Item} {cs : List Frame} (ho : ops[i]? = some o)
    (h : OpG P ops o (env b.roundOf a) w K) : ∃ v w', K v w' ∧ Steps P (lone (b.atR a (.inRegion ops (i :: rest) :: k)) cs w) (lone (b.atR (a.put o.dst v) (.inRegion ops rest :: k)) cs w') := by
  unfold OpG at h
  cases hc : zL2 ops o (env b.roundOf a) <;> simp only [hc, cond_true, cond_false] at h
  · have hs := stepR_op_skip (P := P) (b := b) (a := a) (k := k) (cs := cs) (w := w) (ops := ops) (i := i) (rest := rest) (by simp [ho, qO7 b.roundOf, hc])
    simp only [ho, Option.bind_some] at hs
    exact ⟨_, _, h, .one hs⟩
  have hw : Region.wanted o (yielded ops a.tmps) = true := by rw [qO7 b.roundOf, hc]
  have hg := stepGR_op (P := P) (b := b) (k := k) (cs := cs) (w := w) (rest := rest) ho hw
  rw [Oper.semAt_eq _ _ _ (yO5 h), qZ0 b.roundOf] at hg
  have hfin : ∀ v, (b.atR a (.inRegion ops (i :: rest) :: k)).finish v = b.atR (a.put o.dst v) (.inRegion ops rest :: k) := by
    intro v; rw [Frame.finish_atR, ho]; rfl
  unfold Run1 at h
  split at h
  · rename_i v w' hr
    refine ⟨v, w', h, .one (step_lone_go ?_)⟩
    rw [hg, ← hfin]; simp [stepG.apply, hr]
  · rename_i w' hr
    refine ⟨_, w', h, .one (step_lone_go ?_)⟩
    rw [hg, ← hfin]; simp [stepG.apply, hr]
  · rename_i f args w' hr
    obtain ⟨e, w'', fr, ⟨v, hv, hK⟩, hsteps, _, hleave⟩ := h (b.atR a (.inRegion ops (i :: rest) :: k) :: cs)
    subst hv
    have henter : step P (lone (b.atR a (.inRegion ops (i :: rest) :: k)) cs w) =
        .next (lone (Frame.enter P f args .normal) (b.atR a (.inRegion ops (i :: rest) :: k) :: cs) w') :=
      step_lone_go (by rw [hg]; simp [stepG.apply, hr, Frame.atR])
    refine ⟨v, w'', hK, .head henter (Steps.trans hsteps (.one ?_))⟩
    rw [← hfin]; exact step_leave_returned hleave
  · rename_i l f tmps sg bd w' hr
    obtain ⟨v, w'', hK, hsteps⟩ := h (b.atR a (.inRegion ops (i :: rest) :: k)) cs
    have henter : step P (lone (b.atR a (.inRegion ops (i :: rest) :: k)) cs w) =
        .next (lone (Frame.round l f tmps sg bd .normal) (b.atR a (.inRegion ops (i :: rest) :: k) :: cs) w') :=
      step_lone_go (by rw [hg]; simp [stepG.apply, hr, Frame.atR])
    refine ⟨v, w'', hK, .head henter ?_⟩
    rw [← hfin]; exact hsteps
  · exact h.elim
/-! ### how code is left -/
inductive Ex where
  | normal
  | exit (id : Nat)
  | ret
def Arr (P : Program) (m : Machine) (b : Frame) (k : List Item) (cs : List Frame) : Ex → Act → World → Prop
  | .normal, a, w => Steps P m (lone (b.atR a k) cs w)
  | .exit id, a, w => ∃ k0, exitTo id k0 = exitTo id k ∧ Steps P m (lone (b.atR a (.code (.exit id) :: k0)) cs w)
  | .ret, a, w => ∃ k0, Steps P m (lone (b.atR a (.code .ret :: k0)) cs w)
theorem Arr.of {P : Program} {m m1 : Machine} {b : Frame} {k : List Item} {cs : List Frame} {x : Ex} {a : Act} {w : World} (h : Steps P m m1) (h' : Arr P m1 b k cs x a w) : Arr P m b k cs x a w := by
  cases x with
  | normal => exact h.trans h'
  | exit id => obtain ⟨k0, hk, hs⟩ := h'; exact ⟨k0, hk, h.trans hs⟩
  | ret => obtain ⟨k0, hs⟩ := h'; exact ⟨k0, h.trans hs⟩
theorem Arr.past {P : Program} {m : Machine} {b : Frame} {y : Item} {k : List Item} {cs : List Frame} {x : Ex} {a : Act} {w : World} (hy : ∀ id, exitTo id (y :: k) = exitTo id k) (hn : x ≠ .normal) (h : Arr P m b (y :: k) cs x a w) : Arr P m b k cs x a w := by
  cases x with
  | normal => exact absurd rfl hn
  | exit id => obtain ⟨k0, hk, hs⟩ := h; exact ⟨k0, by rw [hk, hy], hs⟩
  | ret => exact h
def WL (P : Program) (ops : Array Oper) (Q : Ex → Env → World → Prop) : List Oper → Env → World → Prop
  | [], e, w => Q .normal e w
  | o :: r, e, w => OpG P ops o e w fun v w' => WL P ops Q r (e.put o.dst v) w'
def W (P : Program) (n : Nat) (c : Code) (Q : Ex → Env → World → Prop) (e : Env) (w : World) : Prop :=
  ∀ (b : Frame) (a : Act) (k : List Item) (cs : List Frame), a.tmps.size = n → env b.roundOf a = e →
    ∃ x a' w', a'.tmps.size = n ∧ Q x (env b.roundOf a') w' ∧ Arr P (lone (b.atR a (.code c :: k)) cs w) b k cs x a' w'
def qM1 (n : Nat) (l : List Oper) : Bool := l.all fun o => match o.dst with | some d => Nat.blt d n | none => true
theorem yG8 {n : Nat} {l : List Oper} (h : qM1 n l = true) {o : Oper} (ho : o ∈ l) : ∀ d, o.dst = some d → d < n := by
  intro d hd
  simp only [qM1, List.all_eq_true] at h
  have := h o ho
  rw [hd] at this
  simpa [Nat.blt_eq] using this
def OpsE (P : Program) (ops : Array Oper) (Q : Ex → Env → World → Prop) : List Nat → Env → World → Prop
  | [], e, w => Q .normal e w
  | i :: r, e, w => match ops[i]? with
    | none => OpsE P ops Q r e w
    | some o => OpG P ops o e w fun v w' => OpsE P ops Q r (e.put o.dst v) w'
theorem zO9 {P : Program} {n : Nat} {l : List Oper} {Q : Ex → Env → World → Prop} (hd : qM1 n l = true) {b : Frame} {k : List Item} {cs : List Frame} : ∀ (L : List Nat) (a : Act) (w : World), a.tmps.size = n →
    OpsE P l.toArray Q L (env b.roundOf a) w → ∃ x a' w', a'.tmps.size = n ∧ Q x (env b.roundOf a') w' ∧ Arr P (lone (b.atR a (.inRegion l.toArray L :: k)) cs w) b k cs x a' w'
  | [], a, w, hs, h => ⟨.normal, a, w, hs, h, .one stepR_region_end⟩
  | i :: r, a, w, hs, h => by
    simp only [OpsE] at h
    cases ho : l.toArray[i]? with
    | none =>
      rw [ho] at h
      obtain ⟨x, a', w', h1, h2, h3⟩ := zO9 hd r a w hs h
      have hst := stepR_op_skip (P := P) (b := b) (a := a) (k := k) (cs := cs) (w := w) (ops := l.toArray) (i := i) (rest := r) (by simp [ho])
      simp only [ho, Option.bind_none, Act.put] at hst
      exact ⟨x, a', w', h1, h2, .of (.one hst) h3⟩
    | some o =>
      rw [ho] at h
      simp only at h
      obtain ⟨v, w1, hv, hst⟩ := yO6 (rest := r) (k := k) (cs := cs) ho h
      have hm : o ∈ l := by rw [List.getElem?_toArray] at ho; exact List.mem_of_getElem? ho
      rw [← yU3 _ _ _ _ (fun t ht => by rw [hs]; exact yG8 hd hm t ht)] at hv
      obtain ⟨x, a', w', h1, h2, h3⟩ := zO9 hd r (a.put o.dst v) w1 (by rw [yO4]; exact hs) hv
      exact ⟨x, a', w', h1, h2, .of hst h3⟩
theorem yT7 {P : Program} {Q : Ex → Env → World → Prop} : ∀ (tl hd : List Oper) (e : Env) (w : World), WL P (hd ++ tl).toArray Q tl e w → OpsE P (hd ++ tl).toArray Q (List.range' hd.length tl.length) e w
  | [], hd, e, w, h => h
  | o :: r, hd, e, w, h => by
    simp only [List.length_cons, List.range'_succ, OpsE]
    have ho : (hd ++ o :: r).toArray[hd.length]? = some o := by simp
    rw [ho]
    refine OpG.mono (fun v w' hv => ?_) h
    have := yT7 r (hd ++ [o]) (e.put o.dst v) w' (by simpa using hv)
    simpa using this
section rules
variable {P : Program} {n : Nat} {Q : Ex → Env → World → Prop} {e : Env} {w : World}
theorem zZ6 {id : Nat} {l : List Oper} (hd : qM1 n l = true) (h : WL P l.toArray Q l e w) : W P n (.region id l.toArray false) Q e w := by
  intro b a k cs hs he
  subst he
  have h' := yT7 l [] _ _ h
  simp only [List.nil_append, List.length_nil] at h'
  obtain ⟨x, a', w', h1, h2, h3⟩ := zO9 hd (k := k) (cs := cs) _ a w hs h'
  refine ⟨x, a', w', h1, h2, .of (.one stepR_region) ?_⟩
  rw [List.range_eq_range']
  simpa using h3
@[reducible] def qthen (K : Env → World → Prop) (Q : Ex → Env → World → Prop) : Ex → Env → World → Prop
  | .normal, e, w => K e w
  | .exit i, e, w => Q (.exit i) e w
  | .ret, e, w => Q .ret e w
@[reducible] def qblock (id : Nat) (Q : Ex → Env → World → Prop) : Ex → Env → World → Prop
  | .exit i, e, w => bif Nat.beq i id then Q .normal e w else Q (.exit i) e w
  | .normal, e, w => Q .normal e w
  | .ret, e, w => Q .ret e w
theorem W.mono {c : Code} {Q' : Ex → Env → World → Prop} (hq : ∀ x e w, Q x e w → Q' x e w) (h : W P n c Q e w) : W P n c Q' e w :=
  fun b a k cs hs he => let ⟨x, a', w', h1, h2, h3⟩ := h b a k cs hs he; ⟨x, a', w', h1, hq _ _ _ h2, h3⟩
theorem qE9 {x y : Code} (h : W P n x (qthen (W P n y Q) Q) e w) : W P n (.seq x y) Q e w := by
  intro b a k cs hs he
  obtain ⟨t, a1, w1, h1, h2, h3⟩ := h b a (.code y :: k) cs hs he
  cases t with
  | normal =>
    obtain ⟨t2, a2, w2, g1, g2, g3⟩ := h2 b a1 k cs h1 rfl
    exact ⟨t2, a2, w2, g1, g2, .of (.head stepR_seq h3) g3⟩
  | exit i => exact ⟨.exit i, a1, w1, h1, h2, .past (y := .code y) (fun _ => rfl) (by simp) (.of (.one stepR_seq) h3)⟩
  | ret => exact ⟨.ret, a1, w1, h1, h2, .past (y := .code y) (fun _ => rfl) (by simp) (.of (.one stepR_seq) h3)⟩
theorem zX6 (h : Q .normal e w) : W P n .skip Q e w := fun b a k cs hs he => ⟨.normal, a, w, hs, he ▸ h, .one stepR_skip⟩
theorem yG9 {l : Nat} (h : Q .normal e w) : W P n (.label l) Q e w := fun b a k cs hs he => ⟨.normal, a, w, hs, he ▸ h, .one stepR_label⟩
theorem yT8 {i : Nat} (h : Q (.exit i) e w) : W P n (.exit i) Q e w := fun b a k cs hs he => ⟨.exit i, a, w, hs, he ▸ h, k, rfl, .refl _ _⟩
theorem yZ7 (h : Q .ret e w) : W P n .ret Q e w := fun b a k cs hs he => ⟨.ret, a, w, hs, he ▸ h, k, .refl _ _⟩
theorem qZ2 {c : Operand} {x y : Code} {b : Bool} (hc : ev e c = .bool b) (h : W P n (bif b then x else y) Q e w) : W P n (.cond c x y) Q e w := by
  intro fr a k cs hs he
  obtain ⟨t, a1, w1, h1, h2, h3⟩ := h fr a k cs hs he
  refine ⟨t, a1, w1, h1, h2, .of (.one (stepR_cond (t := b) (by rw [qZ0 fr.roundOf, he]; exact hc))) ?_⟩
  cases b <;> exact h3
theorem zA2 {c : Operand} {x y : Code} {b : Bool} (hc : ev e c = .bool b) (ht : b = true → W P n x Q e w) (hf : b = false → W P n y Q e w) : W P n (.cond c x y) Q e w := by
  cases b
  · exact qZ2 hc (hf rfl)
  · exact qZ2 hc (ht rfl)
theorem zU8 {c : Operand} {x y : Code} (hc : ev e c = .bool true) (h : W P n x Q e w) : W P n (.cond c x y) Q e w := qZ2 hc h
theorem zN5 {c : Operand} {x y : Code} (hc : ev e c = .bool false) (h : W P n y Q e w) : W P n (.cond c x y) Q e w := qZ2 hc h
theorem yH0 {id : Nat} {c : Code} (h : W P n c (qblock id Q) e w) : W P n (.block id c) Q e w := by
  intro b a k cs hs he
  obtain ⟨t, a1, w1, h1, h2, h3⟩ := h b a (.inBlock id :: k) cs hs he
  cases t with
  | normal => exact ⟨.normal, a1, w1, h1, h2, .head stepR_block (Steps.trans h3 (.one stepR_inBlock))⟩
  | exit i =>
    obtain ⟨k0, hk, hst⟩ := h3
    simp only [qblock] at h2
    by_cases hi : i = id
    · subst hi
      simp at h2
      refine ⟨.normal, a1, w1, h1, h2, .head stepR_block (Steps.trans hst (.one (stepR_exit ?_)))⟩
      rw [hk]; simp [exitTo]
    · rw [qG1 hi] at h2
      refine ⟨.exit i, a1, w1, h1, h2, k0, ?_, .head stepR_block hst⟩
      rw [hk]
      have : (id == i) = false := by simp; exact fun h => hi h.symm
      simp [exitTo, this]
  | ret => exact ⟨.ret, a1, w1, h1, h2, .of (.one stepR_block) h3⟩
theorem zF5 {c : Code} (I : Nat → Env → World → Prop) (m : Nat) (h0 : I m e w)
    (round : ∀ m e w, I m e w → W P n c (qthen (fun e' w' => ∃ m', m' < m ∧ I m' e' w') Q) e w) : W P n (.loop c) Q e w := by
  intro b a k cs hs he
  subst he
  have key : ∀ m (a : Act) w, a.tmps.size = n → I m (env b.roundOf a) w →
      ∃ x a' w', a'.tmps.size = n ∧ Q x (env b.roundOf a') w' ∧ Arr P (lone (b.atR a (.code c :: .inLoop c :: k)) cs w) b k cs x a' w' := by
    intro m
    induction m using Nat.strongRecOn with
    | _ m ih =>
      intro a w hs hI
      obtain ⟨x, a1, w1, h1, h2, h3⟩ := round m _ w hI b a (.inLoop c :: k) cs hs rfl
      cases x with
      | normal =>
        obtain ⟨m', hlt, hI'⟩ := h2
        obtain ⟨x2, a2, w2, g1, g2, g3⟩ := ih m' hlt a1 w1 h1 hI'
        exact ⟨x2, a2, w2, g1, g2, .of (Steps.trans h3 (.one stepR_inLoop)) g3⟩
      | exit i => exact ⟨.exit i, a1, w1, h1, h2, .past (y := .inLoop c) (fun _ => rfl) (by simp) h3⟩
      | ret => exact ⟨.ret, a1, w1, h1, h2, .past (y := .inLoop c) (fun _ => rfl) (by simp) h3⟩
  obtain ⟨x, a', w', g1, g2, g3⟩ := key m a w hs h0
  exact ⟨x, a', w', g1, g2, .of (.one stepR_loop) g3⟩
end rules
/-! ### a call's frame -/
def Res1 (P : Program) (e : Env) (w : World) : ResultVar → Value → Prop
  | .tmp t, v => v = e t
  | .cell a t, v => (do loadVar t (← asAddr (e a))).run P w = .ok v w
def ResL (P : Program) (e : Env) (w : World) : List ResultVar → List Value → Prop
  | [], [] => True
  | r :: rs, v :: vs => Res1 P e w r v ∧ ResL P e w rs vs
  | _, _ => False
def one : List Value → Value
  | [v] => v
  | vs => .tuple vs.toArray
def yH1 (P : Program) : List Deferred → World → World → Prop
  | [], w, w' => w' = w
  | d :: ds, w, w' => ∃ r w1, d.target = .collected r ∧ (Instr.takeDeferred r).run P w = .ok [] w1 ∧ yH1 P ds w1 w'
def RetQ (P : Program) (rs : List ResultVar) (R : Ending → World → Prop) : Ex → Env → World → Prop
  | .normal, e, w | .ret, e, w => ∃ w', yH1 P e.ms w w' ∧ ∃ vs, ResL P e w' rs vs ∧ R (.returned (one vs)) w'
  | _, _, _ => False
def yH2 (tmps : Array Value) : ResultVar → Sem Value
  | .tmp t => pure (tmps.getD t undef)
  | .cell a t => do loadVar t (← asAddr (tmps.getD a undef))
theorem yC3 {P : Program} {ro : Option Nat} {a : Act} {w : World} {r : ResultVar} {v : Value} (h1 : Res1 P (env ro a) w r v) : (yH2 a.tmps r).run P w = .ok v w := by
  cases r with
  | tmp t => simp only [Res1] at h1; subst h1; rfl
  | cell a t => exact h1
theorem qZ3 {P : Program} {ro : Option Nat} {a : Act} {w : World} : ∀ (rs : List ResultVar) (vs : List Value), ResL P (env ro a) w rs vs →
    (rs.mapM (yH2 a.tmps)).run P w = .ok vs w
  | [], [], _ => by simp
  | [], _ :: _, h => h.elim
  | _ :: _, [], h => h.elim
  | r :: rs, v :: vs, ⟨h1, h2⟩ => by
    rw [List.mapM_cons, Sem.run_bind, yC3 h1]
    simp only [Result.andThen_ok, Sem.run_bind]
    rw [qZ3 rs vs h2]
    rfl
theorem qU3 {P : Program} {fn : Func} {ro : Option Nat} {a : Act} {w : World} {vs : List Value}
    (h : ResL P (env ro a) w fn.results.toList vs) : (results fn a.tmps).run P w = .ok (one vs) w := by
  have he : results fn a.tmps = (do let vs ← fn.results.mapM (yH2 a.tmps); pure (if h : vs.size = 1 then vs[0] else .tuple vs)) := rfl
  rw [he, Array.mapM_eq_mapM_toList, Sem.run_bind, Sem.run_map, qZ3 _ _ h]
  simp only [Result.andThen_ok]
  match vs with
  | [] => rfl
  | [v] => rfl
  | v :: u :: vs => simp [one]
theorem qG2 {P : Program} {cs : List Frame} : ∀ (ds : List Deferred) (fr : Frame) (w w' : World), fr.mode ≠ .run → fr.defers = ds → yH1 P ds w w' →
    Steps P (lone fr cs w) (lone { fr with defers := [] } cs w')
  | [], fr, w, w', hm, hd, h => by
    simp only [yH1] at h
    subst h
    have : ({ fr with defers := [] } : Frame) = fr := by rw [← hd]
    rw [this]
    exact .refl _ _
  | d :: ds, fr, w, w', hm, hd, h => by
    obtain ⟨r, w1, ht, hk, hr⟩ := h
    exact .head (step_collected hm hd ht hk) (qG2 ds { fr with defers := [] ++ ds } w1 w' hm rfl hr)
theorem yC4 {P : Program} {f : FuncId} {fn : Func} {c : Code} {args : Array Value} {w : World} {R : Ending → World → Prop} {n : Nat} {rs : List ResultVar}
    (hf : P.funcs[f]? = some fn) (hb : fn.body = some c) (hn : fn.ntmps = n) (hr : fn.results.toList = rs) (hle : Nat.ble args.size n = true)
    (h : W P n c (RetQ P rs R) ⟨fun i => args.getD i undef, [], none⟩ w) : Calls P f args w R := by
  subst hr
  have hle : args.size ≤ n := Nat.le_of_ble_eq_true hle
  intro cs
  let b : Frame := { (default : Frame) with fn := f, kind := .normal, roundOf := none }
  let a : Act := { tmps := args ++ Array.replicate (fn.ntmps - args.size) undef, defers := [] }
  have henter : Frame.enter P f args .normal = b.atR a [.code c] := by
    simp [Frame.enter, Frame.atR, hf, hb, b, a]
  obtain ⟨x, a', w', h1, h2, h3⟩ := h b a [] cs (by simp [a, hn]; omega) (by
    refine Env.ext' (fun i => ?_) rfl rfl
    simp only [env, a, Array.getD_eq_getD_getElem?]
    by_cases hi : i < args.size
    · rw [Array.getElem?_append_left hi]
    · rw [Array.getElem?_append_right (by omega)]
      rw [Array.getElem?_eq_none (xs := args) (by omega)]
      simp only [Array.getElem?_replicate]
      split <;> rfl)
  rw [← henter] at h3
  have fin : ∀ (fr : Frame), fr.mode = .returning → fr.defers = a'.defers → fr.tmps = a'.tmps → fr.fn = f → fr.kind = .normal → Steps P (lone (Frame.enter P f args .normal) cs w) (lone fr cs w') → (∃ w'', yH1 P a'.defers w' w'' ∧ ∃ vs, ResL P (env none a') w'' fn.results.toList vs ∧ R (.returned (one vs)) w'') →
      ∃ e w'' fr', R e w'' ∧ Comes P (lone (Frame.enter P f args .normal) cs w) (lone fr' cs w'') e ∧ fr'.fn = f ∧ fr'.leaving P w'' e := by
    intro fr hm hd ht hfn hk hst ⟨w'', htk, vs, hv, hR⟩
    refine ⟨.returned (one vs), w'', _, hR, Steps.trans hst (qG2 _ fr w' w'' (by rw [hm]; simp) hd htk), hfn, hm, rfl, hk, fn, by rw [← hf, ← hfn], ?_⟩
    show (results fn fr.tmps).run P w'' = _
    rw [ht]
    exact qU3 hv
  cases x with
  | normal => exact fin { b.atR a' [] with mode := .returning } rfl rfl rfl rfl rfl (Steps.trans h3 (.one (stepR_end rfl))) h2
  | ret =>
    obtain ⟨k0, h3⟩ := h3
    exact fin { b.atR a' (.code .ret :: k0) with mode := .returning } rfl rfl rfl rfl rfl (Steps.trans h3 (.one (stepR_ret rfl))) h2
  | exit _ => exact h2.elim
/-! ### rounds -/
abbrev Grow (w w' : World) : Prop := Below w.heap.size w w'
theorem Grow.rfl' (w : World) : Grow w w := Below.refl _ _
theorem Grow.tr {a b c : World} (h : Grow a b) (k : Grow b c) : Grow a c := Below.trans h (Below.mono k h.size)
theorem Grow.heap {w w' : World} (h : Grow w w') {b : Nat} {o : Obj} (hb : w.heap[b]? = some o) : w'.heap[b]? = some o := by
  rw [h.block b (Array.getElem?_eq_some_iff.1 hb).1]; exact hb
theorem Grow.drew' (w : World) : Grow w { w with drawn := w.drawn + 1 } := (Below.refl _ w).drew
inductive Sp where
  | ex (x : Value)
  | so (F : World → Value → Prop)
def Sp.holds : Sp → World → Value → Prop
  | .ex x, _, v => v = x
  | .so F, w, v => F w v
def Sp.Stab : Sp → Prop
  | .ex _ => True
  | .so F => ∀ w w' v, Grow w w' → F w v → F w' v
theorem Sp.keep {s : Sp} (h : s.Stab) {w w' : World} {v : Value} (g : Grow w w') (hv : s.holds w v) : s.holds w' v := by
  cases s with
  | ex x => exact hv
  | so F => exact h w w' v g hv
@[reducible] def OblEnv : List (Option Nat × Sp) → Env → World → (Env → Prop) → Prop
  | [], e, _, G => G e
  | (d, .ex x) :: r, e, w, G => OblEnv r (e.put d x) w G
  | (d, .so F) :: r, e, w, G => ∀ v, F w v → OblEnv r (e.put d v) w G
def zN6 (o : Oper) : List Nat := o.after.toList.filterMap fun e => if Region.binds .any e then some e.on else none
structure Dn where
  o : Oper
  s : Sp
  anc : List Nat
def qM2 (done : List (List Nat)) (o : Oper) : List Nat :=
  (List.range done.length).filter fun j => (zN6 o).any fun k => Nat.beq k j || (done.getD k []).elem j
def sel (done : List Dn) (l : List Nat) : List (Option Nat × Sp) := l.filterMap fun j => (done[j]?).map fun d => (d.o.dst, d.s)
def ancL : List Oper → List (List Nat) → List (List Nat)
  | [], done => done
  | o :: r, done => ancL r (done ++ [qM2 done o])
def selB (rdone : List Dn) (l : List Nat) : List (Option Nat × Sp) := l.filterMap fun j => (rdone[j]?).map fun d => (d.o.dst, d.s)
def AO (P : Program) (ops : Array Oper) (w0 : World) (e : Env) (K : List Dn → Prop) : List Oper → List (List Nat) → List Dn → Prop
  | [], _, rdone => K rdone.reverse
  | o :: r, an, rdone => ∃ s : Sp, s.Stab ∧
      (∀ w, Grow w0 w → OblEnv (selB rdone (an.headD [])) e w fun e' => OpG P ops o e' w fun v w' => Grow w w' ∧ s.holds w' v) ∧
      AO P ops w0 e K r an.tail (⟨o, s, an.headD []⟩ :: rdone)
theorem zC0 {P : Program} {ops : Array Oper} {w0 : World} {e : Env} {K : List Dn → Prop} {o : Oper} {r : List Oper} {a : List Nat} {an : List (List Nat)} {rdone : List Dn} (x : Value)
    (h : ∀ w, Grow w0 w → OblEnv (selB rdone a) e w fun e' => OpG P ops o e' w fun v w' => Grow w w' ∧ v = x)
    (next : AO P ops w0 e K r an (⟨o, .ex x, a⟩ :: rdone)) : AO P ops w0 e K (o :: r) (a :: an) rdone := ⟨.ex x, trivial, h, next⟩
theorem zY2 {P : Program} {ops : Array Oper} {w0 : World} {e : Env} {K : List Dn → Prop} {o : Oper} {r : List Oper} {a : List Nat} {an : List (List Nat)} {rdone : List Dn} (F : World → Value → Prop)
    (hst : ∀ w w' v, Grow w w' → F w v → F w' v)
    (h : ∀ w, Grow w0 w → OblEnv (selB rdone a) e w fun e' => OpG P ops o e' w fun v w' => Grow w w' ∧ F w' v)
    (next : AO P ops w0 e K r an (⟨o, .so F, a⟩ :: rdone)) : AO P ops w0 e K (o :: r) (a :: an) rdone := ⟨.so F, hst, h, next⟩
theorem zI4 {P : Program} {ops : Array Oper} {w0 : World} {e : Env} {K : List Dn → Prop} {an : List (List Nat)} {rdone : List Dn} (h : K rdone.reverse) : AO P ops w0 e K [] an rdone := h
@[reducible] def Fin (G : Env → World → Prop) : List Dn → Env → World → Prop
  | [], e, w => G e w
  | ⟨o, .ex x, _⟩ :: r, e, w => Fin G r (e.put o.dst x) w
  | ⟨o, .so F, _⟩ :: r, e, w => ∀ v, F w v → Fin G r (e.put o.dst v) w
def qU4 (ops : List Oper) (o : Oper) : List Nat :=
  (o.op.operands.toList.filterMap fun | .tmp t => some t | _ => none) ++ (match o.guard with | some (j, _) => ((ops[j]?).bind (·.dst)).toList | none => [])
def yO7 (o : Oper) : Bool := match o.op with | .select .. => false | _ => true
def zY3 (hd tl : List Oper) : Bool :=
  let ops := hd ++ tl
  let n := ops.length
  let an := ancL ops []
  let anc (i j : Nat) : Bool := (an.getD i []).elem j
  (ops.all yO7) &&
  (List.range n).all fun i => match ops[i]? with
    | none => false
    | some o =>
      (zN6 o).all (fun k => Nat.blt k i) &&
      ((List.range n).all fun j => match ops[j]? with
        | none => false
        | some p => Nat.beq i j || (
          (match o.dst, p.dst with | some a, some b => !(Nat.beq a b) | _, _ => true) &&
          (match p.dst with | some b => !((qU4 ops o).elem b) || anc i j || anc j i | none => true))) &&
      (Nat.blt i hd.length || (List.range i).all fun j => anc i j)
theorem zU9 {P : Program} {hd : List Oper} {o : Oper} {e e' : Env} {w : World} {K : Value → World → Prop} (hs : yO7 o = true)
    (h : ∀ u ∈ qU4 hd o, e' u = e u) (hg : OpG P hd.toArray o e' w K) : OpG P hd.toArray o e w K := by
  have hop : execOp (ev e') o = execOp (ev e) o := by
    refine execOp_congr o (fun cs b hc => by simp [yO7, hc] at hs) fun x hx => ?_
    cases x with
    | tmp t =>
      refine h t ?_
      simp only [qU4, List.mem_append, List.mem_filterMap]
      exact .inl ⟨.tmp t, by simpa using hx, rfl⟩
    | _ => rfl
  have hw : zL2 hd.toArray o e' = zL2 hd.toArray o e := by
    unfold zL2
    cases hgd : o.guard with
    | none => rfl
    | some jb =>
      obtain ⟨j, b⟩ := jb
      simp only [List.getElem?_toArray]
      cases hdst : (hd[j]?).bind (·.dst) with
      | none => rfl
      | some d =>
        have := h d (by simp [qU4, hgd, hdst])
        simp only [this]
  unfold OpG Run1 at *
  rw [hop, hw] at hg
  exact hg
theorem zL9 {w : World} {G : Env → Prop} (E : Env) : ∀ (l : List (Option Nat × Sp)) (e : Env),
    (∀ p ∈ l, ∃ v, p.2.holds w v ∧ ∀ t, p.1 = some t → E t = v) → OblEnv l e w G →
    ∃ e', G e' ∧ ∀ u, ((∃ p ∈ l, p.1 = some u) → e' u = E u) ∧ ((∀ p ∈ l, p.1 ≠ some u) → e' u = e u)
  | [], e, _, h => ⟨e, h, fun u => ⟨fun ⟨_, hp, _⟩ => by simp at hp, fun _ => rfl⟩⟩
  | (d, s) :: r, e, hl, h => by
    obtain ⟨v, hv, hE⟩ := hl (d, s) (by simp)
    have hr : ∃ e', G e' ∧ ∀ u, ((∃ p ∈ r, p.1 = some u) → e' u = E u) ∧ ((∀ p ∈ r, p.1 ≠ some u) → e' u = (e.put d v) u) := by
      refine zL9 E r (e.put d v) (fun p hp => hl p (by simp [hp])) ?_
      cases s with
      | ex x => simp only [Sp.holds] at hv; subst hv; exact h
      | so F => exact h v hv
    obtain ⟨e', hG, hu⟩ := hr
    refine ⟨e', hG, fun u => ⟨?_, ?_⟩⟩
    · rintro ⟨p, hp, hpu⟩
      by_cases hin : ∃ p ∈ r, p.1 = some u
      · exact (hu u).1 hin
      · rw [(hu u).2 (fun q hq he => hin ⟨q, hq, he⟩)]
        have : p = (d, s) := by
          rcases List.mem_cons.1 hp with h' | h'
          · exact h'
          · exact absurd ⟨p, h', hpu⟩ hin
        subst this
        simp only at hpu
        subst hpu
        simp only [Env.put, zP8]
        exact (hE u rfl).symm
    · intro hn
      rw [(hu u).2 (fun p hp => hn p (by simp [hp]))]
      cases d with
      | none => rfl
      | some t => exact zR5 _ _ (fun hut => hn (some t, s) (by simp) (by simp [hut]))
def Good (P : Program) (ops : Array Oper) (w0 : World) (e : Env) (D : List Dn) : Prop :=
  ∀ i d, D[i]? = some d → d.s.Stab ∧
    ∀ w, Grow w0 w → OblEnv (selB (D.take i).reverse d.anc) e w fun e' => OpG P ops d.o e' w fun v w' => Grow w w' ∧ d.s.holds w' v
theorem yT9 {P : Program} {ops : Array Oper} {w0 : World} {e : Env} {K : List Dn → Prop} : ∀ (r : List Oper) (an : List (List Nat)) (rdone : List Dn), r.length = an.length →
    AO P ops w0 e K r an rdone → Good P ops w0 e rdone.reverse → ∃ D, K D ∧ Good P ops w0 e D ∧ D.map Dn.o = rdone.reverse.map Dn.o ++ r ∧ D.map Dn.anc = rdone.reverse.map Dn.anc ++ an
  | [], [], rdone, _, h, hg => ⟨rdone.reverse, h, hg, by simp, by simp⟩
  | [], _ :: _, _, hl, _, _ => by simp at hl
  | _ :: _, [], _, hl, _, _ => by simp at hl
  | o :: r, a :: an, rdone, hl, ⟨s, hs, ho, hn⟩, hg => by
    simp only [List.headD_cons, List.tail_cons] at ho hn
    obtain ⟨D, hK, hG, hD, hA⟩ := yT9 r an (⟨o, s, a⟩ :: rdone) (by simpa using hl) hn (by
      intro i d hd
      simp only [List.reverse_cons] at hd ⊢
      rcases Nat.lt_or_ge i rdone.reverse.length with hi | hi
      · rw [List.getElem?_append_left hi] at hd
        rw [List.take_append_of_le_length (by omega)]
        exact hg i d hd
      · rw [List.getElem?_append_right hi] at hd
        have h0 : i - rdone.reverse.length = 0 := by
          rcases Nat.eq_zero_or_pos (i - rdone.reverse.length) with h | h
          · exact h
          · rw [List.getElem?_eq_none (by simp only [List.length_cons, List.length_nil]; omega)] at hd; cases hd
        rw [h0] at hd
        have hi' : i = rdone.reverse.length := by omega
        subst hi'
        simp only [List.getElem?_cons_zero, Option.some.injEq] at hd
        subst hd
        have ht : (rdone.reverse ++ [(⟨o, s, a⟩ : Dn)]).take rdone.reverse.length = rdone.reverse := by simp
        rw [ht, List.reverse_reverse]
        exact ⟨hs, ho⟩)
    exact ⟨D, hK, hG, by rw [hD]; simp, by rw [hA]; simp⟩
def ancB (l : List Oper) (m : Nat) : List (List Nat) := ((ancL l []).take m).zipIdx.map fun p => p.1.map fun j => p.2 - 1 - j
theorem yU4 (D : List Dn) (l : List Nat) (hl : ∀ j ∈ l, j < D.length) : selB D.reverse (l.map fun j => D.length - 1 - j) = sel D l := by
  induction l with
  | nil => rfl
  | cons j l ih =>
    have ih := ih fun k hk => hl k (by simp [hk])
    have hj := hl j (by simp)
    unfold selB sel at *
    rw [List.map_cons, List.filterMap_cons, List.filterMap_cons]
    have : D.reverse[D.length - 1 - j]? = D[j]? := by
      rw [List.getElem?_reverse (by omega)]
      congr 1; omega
    rw [this, ih]
theorem qO8 {o : Oper} {k : Nat} : k ∈ zN6 o ↔ ∃ e ∈ o.after, Region.binds .any e = true ∧ e.on = k := by
  unfold zN6
  simp only [List.mem_filterMap, Array.mem_toList_iff]
  constructor
  · rintro ⟨e, he, h⟩
    split at h
    · rename_i hb; exact ⟨e, he, hb, by simpa using h⟩
    · cases h
  · rintro ⟨e, he, hb, rfl⟩
    exact ⟨e, he, by simp [hb]⟩
theorem zK3 : ∀ (r : List Oper) (done : List (List Nat)), (ancL r done).length = done.length + r.length
  | [], done => by simp [ancL]
  | o :: r, done => by simp [ancL, zK3 r]; omega
theorem qG3 : ∀ (r : List Oper) (done : List (List Nat)), (ancL r done).take done.length = done
  | [], done => by simp [ancL]
  | o :: r, done => by
    have := qG3 r (done ++ [qM2 done o])
    simp only [ancL]
    have h2 := congrArg (List.take done.length) this
    rw [List.take_take] at h2
    simp only [List.length_append, List.length_cons, List.length_nil] at h2
    rw [show min done.length (done.length + (0 + 1)) = done.length from by omega] at h2
    rw [h2]; simp
theorem qZ4 : ∀ (r : List Oper) (done : List (List Nat)) (i : Nat) (o : Oper), r[i]? = some o →
    (ancL r done)[done.length + i]? = some (qM2 ((ancL r done).take (done.length + i)) o)
  | [], _, i, o, h => by simp at h
  | o' :: r, done, 0, o, h => by
    simp only [List.getElem?_cons_zero, Option.some.injEq] at h
    subst h
    have ht : (ancL (o' :: r) done).take done.length = done := qG3 _ _
    simp only [Nat.add_zero, ht]
    have h1 := qG3 r (done ++ [qM2 done o'])
    simp only [ancL]
    have : ((ancL r (done ++ [qM2 done o'])).take (done ++ [qM2 done o']).length)[done.length]? = some (qM2 done o') := by rw [h1]; simp
    rw [List.getElem?_take] at this
    simpa using this
  | o' :: r, done, i + 1, o, h => by
    have := qZ4 r (done ++ [qM2 done o']) i o (by simpa using h)
    simp only [List.length_append, List.length_cons, List.length_nil] at this
    simp only [ancL]
    rw [show done.length + (i + 1) = done.length + (0 + 1) + i from by omega]
    exact this
def ancI (ops : List Oper) (i : Nat) : List Nat := (ancL ops []).getD i []
theorem zL3 {ops : List Oper} {i j : Nat} {o : Oper} (ho : ops[i]? = some o) : j ∈ ancI ops i ↔ j < i ∧ ∃ k ∈ zN6 o, k = j ∨ (k < i ∧ j ∈ ancI ops k) := by
  have hl : (ancL ops []).length = ops.length := by simp [zK3]
  have hi : i < ops.length := (List.getElem?_eq_some_iff.1 ho).1
  have hg := qZ4 ops [] i o ho
  simp only [List.length_nil, Nat.zero_add] at hg
  unfold ancI
  rw [List.getD_eq_getElem?_getD, hg]
  simp only [Option.getD_some]
  unfold qM2
  have htl : ((ancL ops []).take i).length = i := by simp; omega
  rw [htl]
  simp only [List.mem_filter, List.mem_range, List.any_eq_true, Bool.or_eq_true, and_congr_right_iff]
  intro hj
  constructor
  · rintro ⟨k, hk, h⟩
    refine ⟨k, hk, ?_⟩
    rcases h with h | h
    · exact .inl (Nat.eq_of_beq_eq_true h)
    · right
      rw [List.getD_eq_getElem?_getD] at h ⊢
      rw [List.getElem?_take] at h
      by_cases hki : k < i
      · rw [if_pos hki] at h; exact ⟨hki, by simpa [List.elem_eq_mem] using h⟩
      · rw [if_neg hki] at h; simp at h
  · rintro ⟨k, hk, h⟩
    refine ⟨k, hk, ?_⟩
    rcases h with rfl | ⟨hki, h⟩
    · left; simp
    · right
      rw [List.getD_eq_getElem?_getD] at h ⊢
      rw [List.getElem?_take, if_pos hki]
      simpa [List.elem_eq_mem] using h
structure Shape (hd tl : List Oper) : Prop where
  nosel : ∀ (i : Nat) (o : Oper), (hd ++ tl)[i]? = some o → yO7 o = true
  back : ∀ (i : Nat) (o : Oper), (hd ++ tl)[i]? = some o → ∀ k ∈ zN6 o, k < i
  uniq : ∀ (i j : Nat) (o p : Oper), (hd ++ tl)[i]? = some o → (hd ++ tl)[j]? = some p → i ≠ j → ∀ t, o.dst = some t → p.dst ≠ some t
  read : ∀ (i j : Nat) (o p : Oper), (hd ++ tl)[i]? = some o → (hd ++ tl)[j]? = some p → i ≠ j → ∀ b, p.dst = some b → b ∈ qU4 (hd ++ tl) o → j ∈ ancI (hd ++ tl) i ∨ i ∈ ancI (hd ++ tl) j
  tail : ∀ (i : Nat), hd.length ≤ i → i < (hd ++ tl).length → ∀ j, j < i → j ∈ ancI (hd ++ tl) i
theorem qF2 {hd tl : List Oper} (h : zY3 hd tl = true) : Shape hd tl := by
  unfold zY3 at h
  simp only [Bool.and_eq_true, List.all_eq_true] at h
  obtain ⟨h1, h2⟩ := h
  have hrow : ∀ (i : Nat) (o : Oper), (hd ++ tl)[i]? = some o →
      (∀ k ∈ zN6 o, Nat.blt k i = true) ∧
      (∀ (j : Nat) (p : Oper), (hd ++ tl)[j]? = some p → i ≠ j → (∀ t, o.dst = some t → p.dst ≠ some t) ∧
        (∀ b, p.dst = some b → b ∈ qU4 (hd ++ tl) o → j ∈ ancI (hd ++ tl) i ∨ i ∈ ancI (hd ++ tl) j)) ∧
      (hd.length ≤ i → ∀ j, j < i → j ∈ ancI (hd ++ tl) i) := fun i o ho => by
    have h3 := h2 i (List.mem_range.2 (List.getElem?_eq_some_iff.1 ho).1)
    rw [ho] at h3
    simp only [Bool.and_eq_true, List.all_eq_true] at h3
    obtain ⟨⟨ha, hb⟩, hc⟩ := h3
    refine ⟨ha, fun j p hp hne => ?_, fun hi j hj => ?_⟩
    · have h4 := hb j (List.mem_range.2 (List.getElem?_eq_some_iff.1 hp).1)
      rw [hp] at h4
      simp only [qG1 hne, Bool.false_or, Bool.and_eq_true] at h4
      refine ⟨fun t ht hpt => ?_, fun b hb' hs => ?_⟩
      · have h5 := h4.1
        rw [ht, hpt] at h5
        simp at h5
      · have h5 := h4.2
        rw [hb'] at h5
        simp only [Bool.or_eq_true, Bool.not_eq_true', List.elem_eq_mem, decide_eq_true_eq, decide_eq_false_iff_not] at h5
        unfold ancI
        rcases h5 with (h | h) | h
        · exact absurd hs h
        · exact .inl h
        · exact .inr h
    · have hb : Nat.blt i hd.length = false := by
        cases hb : Nat.blt i hd.length with
        | false => rfl
        | true => rw [Nat.blt_eq] at hb; omega
      rw [hb] at hc
      simp only [Bool.false_or, List.all_eq_true, List.mem_range, List.elem_eq_mem, decide_eq_true_eq] at hc
      exact hc j hj
  exact ⟨fun i o ho => h1 o (List.mem_of_getElem? ho), fun i o ho k hk => by simpa [Nat.blt_eq] using (hrow i o ho).1 k hk,
    fun i j o p ho hp hne => ((hrow i o ho).2.1 j p hp hne).1, fun i j o p ho hp hne => ((hrow i o ho).2.1 j p hp hne).2,
    fun i hi hn => (hrow i _ (List.getElem?_eq_getElem hn)).2.2 hi⟩
/-! ### which are listed -/
def Ls (L : Array Bool) (i : Nat) : Prop := L.getD i false = true
structure Down (ops : List Oper) (L : Array Bool) : Prop where
  size : L.size = ops.length
  down : ∀ (i : Nat) (o : Oper), ops[i]? = some o → Ls L i → ∀ k ∈ zN6 o, Ls L k
theorem Ls.lt {L : Array Bool} {i : Nat} (h : Ls L i) : i < L.size := by
  unfold Ls at h
  rcases Nat.lt_or_ge i L.size with h' | h'
  · exact h'
  · simp [Array.getD_eq_getD_getElem?, Array.getElem?_eq_none h'] at h
theorem zP0 {ops : List Oper} {L : Array Bool} (hs : L.size = ops.length) {i : Nat} : i ∈ Region.ready .any ops.toArray L ↔ ¬ Ls L i ∧ ∃ o, ops[i]? = some o ∧ ∀ k ∈ zN6 o, Ls L k := by
  rw [mem_ready]
  simp only [List.getElem?_toArray]
  constructor
  · rintro ⟨h0, o, ho, h⟩
    refine ⟨fun hl => ?_, o, ho, fun k hk => ?_⟩
    · have := hl.lt
      unfold Ls at hl
      simp only [Array.getD_eq_getD_getElem?, Array.getElem?_eq_getElem this, Option.getD_some] at h0 hl
      rw [h0] at hl; cases hl
    · obtain ⟨e, he, hb, rfl⟩ := qO8.1 hk
      exact h e he hb
  · rintro ⟨h0, o, ho, h⟩
    refine ⟨?_, o, ho, fun e he hb => h _ (qO8.2 ⟨e, he, hb, rfl⟩)⟩
    have hi : i < L.size := by rw [hs]; exact (List.getElem?_eq_some_iff.1 ho).1
    unfold Ls at h0
    simp only [Array.getD_eq_getD_getElem?, Array.getElem?_eq_getElem hi, Option.getD_some] at h0 ⊢
    simpa using h0
theorem zI7 {L : Array Bool} {i j : Nat} (hi : i < L.size) : Ls (L.setIfInBounds i true) j ↔ j = i ∨ Ls L j := by
  unfold Ls
  by_cases h : j = i
  · subst h; simp [Array.getD_eq_getD_getElem?, hi]
  · simp only [h, false_or]
    rw [getD_set_ne false (Ne.symm h)]
theorem zI2 {ops : List Oper} {L : Array Bool} (hd : Down ops L) : ∀ (i : Nat) (o : Oper), ops[i]? = some o → (∀ k ∈ zN6 o, Ls L k) → ∀ j ∈ ancI ops i, Ls L j := by
  intro i
  induction i using Nat.strongRecOn with
  | _ i ih =>
    intro o ho hk j hj
    obtain ⟨_, k, hke, h⟩ := (zL3 ho).1 hj
    rcases h with rfl | ⟨hki, hjk⟩
    · exact hk _ hke
    · have hlk := hk k hke
      have hlt : k < ops.length := by have := hlk.lt; rw [hd.size] at this; exact this
      exact ih k hki _ (List.getElem?_eq_getElem hlt) (hd.down k _ (List.getElem?_eq_getElem hlt) hlk) j hjk
theorem Down.set {ops : List Oper} {L : Array Bool} (h : Down ops L) {i : Nat} {o : Oper} (ho : ops[i]? = some o) (hk : ∀ k ∈ zN6 o, Ls L k) : Down ops (L.setIfInBounds i true) := by
  have hi : i < L.size := by rw [h.size]; exact (List.getElem?_eq_some_iff.1 ho).1
  refine ⟨by simp [h.size], fun j p hp hl k hk' => ?_⟩
  rw [zI7 hi] at hl ⊢
  rcases hl with rfl | hl
  · rw [ho] at hp; cases hp; exact .inr (hk k hk')
  · exact .inr (h.down j p hp hl k hk')
def left (L : Array Bool) : Nat := L.toList.countP (!·)
theorem zM5 {L : Array Bool} {i : Nat} (hi : i < L.size) (h : ¬ Ls L i) : left (L.setIfInBounds i true) + 1 = left L := by
  have hf : L[i] = false := by
    unfold Ls at h
    simp only [Array.getD_eq_getD_getElem?, Array.getElem?_eq_getElem hi, Option.getD_some] at h
    simpa using h
  unfold left
  have hl : i < L.toList.length := by simpa using hi
  have : (L.setIfInBounds i true).toList = L.toList.set i true := by simp
  have hx : L.toList[i] = false := by simpa using hf
  have hpos : 0 < L.toList.countP (!·) := List.countP_pos_iff.2 ⟨false, by rw [← hx]; exact List.getElem_mem hl, rfl⟩
  rw [this, List.countP_set hl, hx]
  simp only [Bool.not_false, if_true, Bool.not_true, Bool.false_eq_true, if_false]
  omega
theorem zR6 {ops : List Oper} {L : Array Bool} (hs : L.size = ops.length) (hb : ∀ (i : Nat) (o : Oper), ops[i]? = some o → ∀ k ∈ zN6 o, k < i)
    (hr : Region.ready .any ops.toArray L = []) : ∀ i, i < ops.length → Ls L i := by
  intro i
  induction i using Nat.strongRecOn with
  | _ i ih =>
    intro hi
    by_cases hl : Ls L i
    · exact hl
    · have : i ∈ Region.ready .any ops.toArray L := (zP0 hs).2 ⟨hl, _, List.getElem?_eq_getElem hi, fun k hk => by
        have hki := hb i _ (List.getElem?_eq_getElem hi) k hk
        exact ih k hki (by omega)⟩
      rw [hr] at this; cases this
def AnyE (P : Program) (ops : Array Oper) (Q : Ex → Env → World → Prop) : Nat → Array Bool → Env → World → Prop
  | 0, L, e, w => Region.ready .any ops L = [] ∧ Q .normal e w
  | f + 1, L, e, w => (Region.ready .any ops L = [] → Q .normal e w) ∧
    ∀ i ∈ Region.ready .any ops L, ∀ o, ops[i]? = some o → OpG P ops o e w fun v w' => AnyE P ops Q f (L.setIfInBounds i true) (e.put o.dst v) w'
theorem zW4 {P : Program} {ops : Array Oper} {Q : Ex → Env → World → Prop} : ∀ (fuel t : Nat) (L : Array Bool) (e : Env) (w : World), AnyE P ops Q fuel L e w →
    OpsE P ops Q (Region.linearise.go .any ops fuel t L []) e w := by
  intro fuel
  induction fuel with
  | zero => intro t L e w h; simpa [Region.linearise.go, OpsE] using h.2
  | succ fuel ih =>
    intro t L e w h
    obtain ⟨h0, h1⟩ := h
    simp only [Region.linearise.go]
    change OpsE P ops Q (match (Region.ready .any ops L)[t % (Region.ready .any ops L).length]? with
      | some i => Region.linearise.go .any ops fuel (t / (Region.ready .any ops L).length) (L.setIfInBounds i true) [i]
      | none => [].reverse) e w
    cases hi : (Region.ready .any ops L)[t % (Region.ready .any ops L).length]? with
    | none =>
      have hnil : Region.ready .any ops L = [] := by
        cases hr : Region.ready .any ops L with
        | nil => rfl
        | cons x xs =>
          rw [hr] at hi
          have hlt : t % (x :: xs).length < (x :: xs).length := Nat.mod_lt _ (by simp)
          simp at hi
          simp at hlt
          omega
      simpa [OpsE] using h0 hnil
    | some i =>
      simp only []
      rw [linearise_go_acc, List.reverse_singleton, List.singleton_append]
      have hm := List.mem_of_getElem? hi
      simp only [OpsE]
      cases ho : ops[i]? with
      | none =>
        obtain ⟨_, o, ho', _⟩ := mem_ready.1 hm
        rw [ho] at ho'; cases ho'
      | some o => exact (h1 i hm o ho).mono fun v w' hv => ih _ _ _ w' hv
theorem qO9 (e : Env) (d : Option Nat) (v : Value) : (e.put d v).ms = e.ms := by cases d <;> rfl
theorem qP0 (e : Env) (d : Option Nat) (v : Value) : (e.put d v).ro = e.ro := by cases d <;> rfl
section main
variable {P : Program} {N : Nat} {hd tl : List Oper} {Q : Ex → Env → World → Prop}
theorem qZ5 (sh : Shape hd tl) : ∀ (fuel : Nat) (k : Nat) (L : Array Bool) (E : Env) (w : World),
    Down (hd ++ tl) L → (∀ i, Ls L i ↔ i < k) → hd.length ≤ k → k ≤ (hd ++ tl).length → left L ≤ fuel →
    WL P (hd ++ tl).toArray Q ((hd ++ tl).drop k) E w → AnyE P (hd ++ tl).toArray Q fuel L E w := by
  intro fuel
  induction fuel with
  | zero =>
    intro k L E w hdn hL hk hkn hf h
    have hnone : ∀ i, i < L.size → Ls L i := by
      intro i hi
      by_cases hl : Ls L i
      · exact hl
      · have := zM5 hi hl; omega
    have hke : k = (hd ++ tl).length := by
      rcases Nat.lt_or_ge k (hd ++ tl).length with hlt | hge
      · have := (hL k).1 (hnone k (by rw [hdn.size]; exact hlt)); omega
      · omega
    subst hke
    rw [List.drop_length] at h
    refine ⟨?_, h⟩
    rw [List.eq_nil_iff_forall_not_mem]
    intro i hi
    obtain ⟨hn, o, ho, _⟩ := (zP0 hdn.size).1 hi
    exact hn (hnone i (by rw [hdn.size]; exact (List.getElem?_eq_some_iff.1 ho).1))
  | succ fuel ih =>
    intro k L E w hdn hL hk hkn hf h
    refine ⟨fun hr => ?_, fun i hi o' ho' => ?_⟩
    · have hke : k = (hd ++ tl).length := by
        rcases Nat.lt_or_ge k (hd ++ tl).length with hlt | hge
        · have := (hL k).1 (zR6 hdn.size sh.back hr k hlt); omega
        · omega
      subst hke
      rw [List.drop_length] at h
      exact h
    · obtain ⟨hn, o, ho, hedge⟩ := (zP0 hdn.size).1 hi
      have hin : i < (hd ++ tl).length := (List.getElem?_eq_some_iff.1 ho).1
      have hik : k ≤ i := by
        rcases Nat.lt_or_ge i k with h' | h'
        · exact absurd ((hL i).2 h') hn
        · exact h'
      have hanc := zI2 hdn i o ho hedge
      have hki : i = k := by
        rcases Nat.lt_or_ge k i with h' | h'
        · have := hanc k (sh.tail i (by omega) hin k h')
          have := (hL k).1 this; omega
        · omega
      subst hki
      have hi' : i < L.size := by rw [hdn.size]; exact hin
      rw [List.drop_eq_getElem_cons hin] at h
      have hoi : (hd ++ tl)[i] = o := by rw [List.getElem?_eq_getElem hin] at ho; exact Option.some.inj ho
      rw [hoi] at h
      have hoo : o = o' := by rw [List.getElem?_toArray, ho] at ho'; exact Option.some.inj ho'
      subst hoo
      refine OpG.mono ?_ h
      intro v w' hw
      refine ih (i + 1) _ _ w' (hdn.set ho hedge) (fun j => ?_) (by omega) (by omega) (by have := zM5 hi' hn; omega) ?_
      · rw [zI7 hi', hL j]; omega
      · exact hw
theorem zZ7 {G : Env → World → Prop} {w : World} (E : Env) : ∀ (D : List Dn) (e : Env), Fin G D e w →
    (∀ d ∈ D, ∃ v, d.s.holds w v ∧ ∀ t, d.o.dst = some t → E t = v) →
    ∃ e', G e' w ∧ (e'.ms = e.ms ∧ e'.ro = e.ro) ∧ ∀ u, ((∃ d ∈ D, d.o.dst = some u) → e' u = E u) ∧ ((∀ d ∈ D, d.o.dst ≠ some u) → e' u = e u)
  | [], e, h, _ => ⟨e, h, ⟨rfl, rfl⟩, fun u => ⟨fun ⟨_, hp, _⟩ => by simp at hp, fun _ => rfl⟩⟩
  | ⟨o, s, an⟩ :: r, e, h, hl => by
    obtain ⟨v, hv, hE⟩ := hl ⟨o, s, an⟩ (by simp)
    have hr : ∃ e', G e' w ∧ (e'.ms = (e.put o.dst v).ms ∧ e'.ro = (e.put o.dst v).ro) ∧ ∀ u, ((∃ d ∈ r, d.o.dst = some u) → e' u = E u) ∧ ((∀ d ∈ r, d.o.dst ≠ some u) → e' u = (e.put o.dst v) u) := by
      refine zZ7 E r (e.put o.dst v) ?_ (fun p hp => hl p (by simp [hp]))
      cases s with
      | ex x => simp only [Sp.holds] at hv; subst hv; exact h
      | so F => exact h v hv
    obtain ⟨e', hG, hmr, hu⟩ := hr
    refine ⟨e', hG, ⟨by rw [hmr.1, qO9], by rw [hmr.2, qP0]⟩, fun u => ⟨?_, ?_⟩⟩
    · rintro ⟨p, hp, hpu⟩
      by_cases hin : ∃ p ∈ r, p.o.dst = some u
      · exact (hu u).1 hin
      · rw [(hu u).2 (fun q hq he => hin ⟨q, hq, he⟩)]
        have : p = ⟨o, s, an⟩ := by
          rcases List.mem_cons.1 hp with h' | h'
          · exact h'
          · exact absurd ⟨p, h', hpu⟩ hin
        subst this
        simp only at hpu hE
        rw [hpu]
        simp only [Env.put, zP8]
        exact (hE u hpu).symm
    · intro hn
      rw [(hu u).2 (fun p hp => hn p (by simp [hp]))]
      have hne := hn ⟨o, s, an⟩ (by simp)
      simp only at hne
      cases hod : o.dst with
      | none => rfl
      | some t => exact zR5 _ _ (fun hut => hne (by rw [hod, hut]))
structure Inv (P : Program) (hd tl : List Oper) (D : List Dn) (w0 : World) (e : Env) (L : Array Bool) (E : Env) (w : World) : Prop where
  msro : E.ms = e.ms ∧ E.ro = e.ro
  down : Down (hd ++ tl) L
  head : ∀ i, Ls L i → i < hd.length
  grow : Grow w0 w
  got : ∀ (i : Nat) (d : Dn), D[i]? = some d → Ls L i → ∃ v, d.s.holds w v ∧ ∀ t, d.o.dst = some t → E t = v
  off : ∀ u, (∀ (i : Nat) (o : Oper), (hd ++ tl)[i]? = some o → Ls L i → o.dst ≠ some u) → E u = e u
theorem qM3 (sh : Shape hd tl) {D : List Dn} (hm : D.length = hd.length) (hA : D.map Dn.anc = ancB (hd ++ tl) hd.length) :
    ∀ (i : Nat) (d : Dn), D[i]? = some d → selB (D.take i).reverse d.anc = sel (D.take i) (ancI (hd ++ tl) i) := by
  intro i d hd'
  have hi : i < D.length := (List.getElem?_eq_some_iff.1 hd').1
  have h1 : (D.map Dn.anc)[i]? = some d.anc := by simp [hd']
  have hlt : i < (ancL (hd ++ tl) []).length := by simp [zK3]; omega
  rw [hA] at h1
  unfold ancB at h1
  rw [List.getElem?_map, List.getElem?_zipIdx, List.getElem?_take, if_pos (by omega), List.getElem?_eq_getElem hlt] at h1
  simp only [Option.map_some, Option.some.injEq, Nat.zero_add] at h1
  have hanc : (ancL (hd ++ tl) [])[i] = ancI (hd ++ tl) i := by
    unfold ancI
    rw [List.getD_eq_getElem?_getD, List.getElem?_eq_getElem hlt]; rfl
  rw [hanc] at h1
  have hin : i < (hd ++ tl).length := by simp; omega
  have hlen : (D.take i).length = i := by simp; omega
  have := yU4 (D.take i) (ancI (hd ++ tl) i) (fun j hj => by rw [hlen]; exact ((zL3 (List.getElem?_eq_getElem hin)).1 hj).1)
  rw [hlen] at this
  rw [← h1, this]
theorem yZ8 (sh : Shape hd tl) {D : List Dn} {w0 : World} {e : Env} (hD : D.map Dn.o = hd) (hA : D.map Dn.anc = ancB (hd ++ tl) hd.length) (hg : Good P (hd ++ tl).toArray w0 e D)
    (hfin : ∀ w, Grow w0 w → Fin (fun e w => WL P (hd ++ tl).toArray Q tl e w) D e w) : ∀ (fuel : Nat) (L : Array Bool) (E : Env) (w : World),
    Inv P hd tl D w0 e L E w → left L ≤ fuel → AnyE P (hd ++ tl).toArray Q fuel L E w := by
  have hlen : D.length = hd.length := by rw [← hD]; simp
  have hDo : ∀ (i : Nat) (d : Dn), D[i]? = some d → (hd ++ tl)[i]? = some d.o := fun i d h => by
    have hi : i < D.length := (List.getElem?_eq_some_iff.1 h).1
    rw [List.getElem?_append_left (by omega), ← hD]; simp [h]
  have hanc := qM3 sh hlen hA
  -- with all of the head listed, what follows stands
  have fin : ∀ (L : Array Bool) (E : Env) (w : World), Inv P hd tl D w0 e L E w → (∀ i, i < hd.length → Ls L i) → WL P (hd ++ tl).toArray Q tl E w := by
    intro L E w inv hall
    obtain ⟨e', hG, hmr, hu⟩ := zZ7 E D e (hfin w inv.grow) (fun d hd' => by
      obtain ⟨i, hi, rfl⟩ := List.getElem_of_mem hd'
      exact inv.got i _ (List.getElem?_eq_getElem hi) (hall i (by omega)))
    have : e' = E := by
      refine Env.ext' (fun u => ?_) (by rw [hmr.1, inv.msro.1]) (by rw [hmr.2, inv.msro.2])
      by_cases hin : ∃ d ∈ D, d.o.dst = some u
      · exact (hu u).1 hin
      · rw [(hu u).2 (fun d hd' he => hin ⟨d, hd', he⟩)]
        refine (inv.off u fun i o ho hl hou => hin ?_).symm
        have hi := inv.head i hl
        have hiD : i < D.length := by omega
        have := hDo i _ (List.getElem?_eq_getElem hiD)
        rw [ho] at this
        exact ⟨D[i], List.getElem_mem hiD, by rw [← Option.some.inj this]; exact hou⟩
    rw [← this]; exact hG
  -- and so the rest of the region
  have rest : ∀ (fuel : Nat) (L : Array Bool) (E : Env) (w : World), Inv P hd tl D w0 e L E w → (∀ i, i < hd.length → Ls L i) → left L ≤ fuel →
      AnyE P (hd ++ tl).toArray Q fuel L E w := by
    intro fuel L E w inv hall hf
    refine qZ5 sh fuel hd.length L E w inv.down (fun i => ⟨inv.head i, hall i⟩) (Nat.le_refl _) (by simp) hf ?_
    rw [List.drop_left]
    exact fin L E w inv hall
  intro fuel
  induction fuel with
  | zero =>
    intro L E w inv hf
    refine rest 0 L E w inv (fun i hi => ?_) hf
    by_cases hl : Ls L i
    · exact hl
    · have := zM5 (L := L) (i := i) (by rw [inv.down.size]; simp; omega) hl; omega
  | succ fuel ih =>
    intro L E w inv hf
    by_cases hall : ∀ i, i < hd.length → Ls L i
    · exact rest _ L E w inv hall hf
    refine ⟨fun hr => absurd (fun i hi => zR6 inv.down.size sh.back hr i (by simp; omega)) hall, fun i hi o' ho' => ?_⟩
    obtain ⟨hn, o, ho, hedge⟩ := (zP0 inv.down.size).1 hi
    have hin : i < (hd ++ tl).length := (List.getElem?_eq_some_iff.1 ho).1
    have hal := zI2 inv.down i o ho hedge
    have hih : i < hd.length := by
      rcases Nat.lt_or_ge i hd.length with h' | h'
      · exact h'
      · exact absurd (fun j hj => hal j (sh.tail i h' hin j (by omega))) hall
    have hi' : i < L.size := by rw [inv.down.size]; exact hin
    have hiD : i < D.length := by omega
    have hd' := List.getElem?_eq_getElem hiD
    generalize hdd : D[i] = d at hd'
    have hod : d.o = o := by have := hDo i d hd'; rw [ho] at this; exact (Option.some.inj this).symm
    obtain ⟨hst, hob⟩ := hg i d hd'
    have ha := hanc i d hd'
    rw [ha] at hob
    -- the obligation, at the frame that is there
    obtain ⟨e', hG, hu⟩ := zL9 E _ e (by
      intro p hp
      unfold sel at hp
      rw [List.mem_filterMap] at hp
      obtain ⟨j, hj, hp⟩ := hp
      rw [List.getElem?_take] at hp
      split at hp
      · cases hdj : D[j]? with
        | none => rw [hdj] at hp; simp at hp
        | some dj =>
          rw [hdj] at hp
          simp only [Option.map_some, Option.some.injEq] at hp
          subst hp
          exact inv.got j dj hdj (hal j hj)
      · simp at hp) (hob w inv.grow)
    have hmem : ∀ u, (∃ p ∈ sel (D.take i) (ancI (hd ++ tl) i), p.1 = some u) ↔ ∃ j ∈ ancI (hd ++ tl) i, ∃ dj, D[j]? = some dj ∧ dj.o.dst = some u := by
      intro u
      unfold sel
      constructor
      · rintro ⟨p, hp, hpu⟩
        rw [List.mem_filterMap] at hp
        obtain ⟨j, hj, hp⟩ := hp
        rw [List.getElem?_take] at hp
        split at hp
        · cases hdj : D[j]? with
          | none => rw [hdj] at hp; simp at hp
          | some dj =>
            rw [hdj] at hp
            simp only [Option.map_some, Option.some.injEq] at hp
            subst hp
            exact ⟨j, hj, dj, hdj, hpu⟩
        · simp at hp
      · rintro ⟨j, hj, dj, hdj, hdu⟩
        refine ⟨(dj.o.dst, dj.s), ?_, hdu⟩
        rw [List.mem_filterMap]
        refine ⟨j, hj, ?_⟩
        rw [List.getElem?_take, if_pos ((zL3 ho).1 hj).1, hdj]
        rfl
    have hG2 : OpG P (hd ++ tl).toArray o E w fun v w' => Grow w w' ∧ d.s.holds w' v := by
      rw [hod] at hG
      refine zU9 (sh.nosel i o ho) (fun u hu' => ?_) hG
      by_cases hin' : ∃ p ∈ sel (D.take i) (ancI (hd ++ tl) i), p.1 = some u
      · exact (hu u).1 hin'
      · rw [(hu u).2 (fun p hp he => hin' ⟨p, hp, he⟩)]
        refine (inv.off u fun k p hp hl hpu => ?_).symm
        have hki : i ≠ k := fun h => hn (h ▸ hl)
        rcases sh.read i k o p ho hp hki u hpu hu' with h | h
        · refine hin' ((hmem u).2 ⟨k, h, ?_⟩)
          have hk := inv.head k hl
          have hkD : k < D.length := by omega
          have := hDo k _ (List.getElem?_eq_getElem hkD)
          rw [hp] at this
          exact ⟨_, List.getElem?_eq_getElem hkD, by rw [← Option.some.inj this]; exact hpu⟩
        · exact hn (zI2 inv.down k p hp (inv.down.down k p hp hl) i h)
    have hoo : o = o' := by rw [List.getElem?_toArray, ho] at ho'; exact Option.some.inj ho'
    subst hoo
    refine OpG.mono ?_ hG2
    rintro v w' ⟨hgr, hv⟩
    refine ih _ _ w' ⟨⟨by rw [qO9]; exact inv.msro.1, by rw [qP0]; exact inv.msro.2⟩, inv.down.set ho hedge, fun j hj => ?_, inv.grow.tr hgr, fun j dj hdj hl => ?_, fun u hu' => ?_⟩ (by have := zM5 hi' hn; omega)
    · rw [zI7 hi'] at hj
      rcases hj with rfl | hj
      · exact hih
      · exact inv.head j hj
    · rw [zI7 hi'] at hl
      by_cases hji : j = i
      · subst hji
        rw [hd'] at hdj
        cases hdj
        refine ⟨v, hv, fun t ht => ?_⟩
        rw [hod] at ht
        rw [ht]; exact zP8 _ _ _
      · have hlj := hl.resolve_left hji
        obtain ⟨vj, hvj, htj⟩ := inv.got j dj hdj hlj
        refine ⟨vj, Sp.keep (hg j dj hdj).1 hgr hvj, fun t ht => ?_⟩
        rw [← htj t ht]
        cases hdst' : o.dst with
        | none => rfl
        | some t' =>
          refine zR5 _ _ fun htt => ?_
          exact sh.uniq i j o dj.o ho (hDo j dj hdj) (Ne.symm hji) t' hdst' (by rw [ht, htt])
    · have hne : o.dst ≠ some u := hu' i o ho ((zI7 hi').2 (.inl rfl))
      have : E.put o.dst v u = E u := by
        cases hdst' : o.dst with
        | none => rfl
        | some t' => exact zR5 _ _ fun htt => hne (by rw [hdst', htt])
      rw [this]
      exact inv.off u fun k p hp hl => hu' k p hp ((zI7 hi').2 (.inr hl))
theorem zM8 {id : Nat} {e : Env} {w : World} {l : List Oper} (m : Nat) (an : List (List Nat)) (hm : P.follows .mixedOrders = true) (hsh : zY3 (l.take m) (l.drop m) = true)
    (han : ancB l (l.take m).length = an) (hdst : qM1 N l = true)
    (h : ∀ w0, Grow w w0 → AO P l.toArray w0 e (fun D => ∀ w', Grow w0 w' → Fin (fun e w => WL P l.toArray Q (l.drop m) e w) D e w') (l.take m) an []) :
    W P N (.region id l.toArray true) Q e w := by
  have hl := List.take_append_drop m l
  generalize hhd : l.take m = hd at *
  generalize htl : l.drop m = tl at *
  subst hl
  have h := h { w with drawn := w.drawn + 1 } (Grow.drew' w)
  intro b a k cs hs he
  subst he
  have sh := qF2 hsh
  obtain ⟨D, hK, hG, hDo, hDa⟩ := yT9 _ _ _ (by rw [← han]; simp [ancB, zK3]) h (fun i d hd' => by simp at hd')
  have hDo' : D.map Dn.o = hd := by simpa using hDo
  have hDa' : D.map Dn.anc = ancB (hd ++ tl) hd.length := by rw [hDa, han]; simp
  have hany : AnyE P (hd ++ tl).toArray Q (hd ++ tl).toArray.size (Array.replicate (hd ++ tl).toArray.size false) (env b.roundOf a) { w with drawn := w.drawn + 1 } := by
    refine yZ8 sh hDo' hDa' hG hK _ _ _ _ ⟨⟨rfl, rfl⟩, ⟨by simp, fun i o ho hl => ?_⟩, fun i hl => ?_, Grow.rfl' _, fun i d hd' hl => ?_, fun u _ => rfl⟩ ?_
    · exact absurd hl (by simp [Ls, Array.getD_eq_getD_getElem?, Array.getElem?_replicate]; split <;> simp)
    · exact absurd hl (by simp [Ls, Array.getD_eq_getD_getElem?, Array.getElem?_replicate]; split <;> simp)
    · exact absurd hl (by simp [Ls, Array.getD_eq_getD_getElem?, Array.getElem?_replicate]; split <;> simp)
    · unfold Go.Proofs.YtkkbbhpbcfcplaaGreat.K.left
      have := List.countP_le_length (p := (!·)) (l := (Array.replicate (hd ++ tl).toArray.size false).toList)
      simpa using this
  have hs2 := zW4 _ ((w.tape w.drawn (.order b.fn id))) _ _ _ hany
  obtain ⟨x, a', w', h1, h2, h3⟩ := zO9 hdst (k := k) (cs := cs) _ a _ hs hs2
  refine ⟨x, a', w', h1, h2, .of (.one stepR_region_draw) ?_⟩
  simp only [Region.schedule, hm, Bool.true_or, if_true]
  exact h3
end main
/-! ### what is known of the program's types and functions, found by their numbers -/
class UndI (P : Program) (t : TypeId) : Prop where
  h : ∃ ds, P.underlying t = some ds
class IntI (P : Program) (t : TypeId) (k : outParam IntKind) : Prop where
  h : P.underlying t = some (.int k)
class FuncI (P : Program) (f : FuncId) : Prop where
  h : ∃ fn, P.funcs[f]? = some fn ∧ (fn.name == "runtime.NumGoroutine" || fn.body.isNone) = false
section
variable {P : Program} {ops : Array Oper} {Q : Ex → Env → World → Prop} {e : Env} {w : World} {K : Value → World → Prop} {r : List Oper}
variable {d : Option Nat} {ty : TypeId} {pos : String} {af : Array Edge} {g : Option (Nat × Bool)}
theorem zA6 (h : Q .normal e w) : WL P ops Q [] e w := h
theorem zA3 {d : Nat} {op : Op} {ty : TypeId} {pos : String} {af : Array Edge} {g : Option (Nat × Bool)} (h : OpG P ops ⟨some d, op, ty, pos, af, g⟩ e w fun v w' => WL P ops Q r (Env.set e d v) w') : WL P ops Q (⟨some d, op, ty, pos, af, g⟩ :: r) e w := h
theorem yU5 {op : Op} {ty : TypeId} {pos : String} {af : Array Edge} {g : Option (Nat × Bool)} (h : OpG P ops ⟨none, op, ty, pos, af, g⟩ e w fun v w' => WL P ops Q r e w') : WL P ops Q (⟨none, op, ty, pos, af, g⟩ :: r) e w := h
theorem og {o : Oper} (hw : zL2 ops o e = true) (h : Run1 P o e w K) : OpG P ops o e w K := by unfold OpG; rw [hw]; exact h
theorem zP6 {o : Oper} (hw : zL2 ops o e = false) (h : K undef w) : OpG P ops o e w K := by unfold OpG; rw [hw]; exact h
theorem zE1 {o : Oper} {v : Value} {w' : World} (h : (execOp (ev e) o).run P w = .ok (.value v) w') (hK : K v w') : Run1 P o e w K := by unfold Run1; rw [h]; exact hK
theorem yH3 {o : Oper} {w' : World} (h : (execOp (ev e) o).run P w = .ok .skip w') (hK : K undef w') : Run1 P o e w K := by unfold Run1; rw [h]; exact hK
/-! ### moves, by the value's form -/
theorem zH5 {x : Operand} {v : Value} (hx : ev e x = v) (h : K v w) : Run1 P ⟨d, .move x, ty, pos, af, g⟩ e w K := by subst hx; exact h
theorem zJ5 {x : Operand} {v : Value} (hx : ev e x = v) (h : K v w) : Run1 P ⟨d, .assign x, ty, pos, af, g⟩ e w K := by subst hx; exact h
theorem zD3 {x : Operand} {k : IntKind} {a : Int} (hx : ev e x = .int k a) (h : K (.int k a) w) : Run1 P ⟨d, .move x, ty, pos, af, g⟩ e w K := zH5 hx h
theorem zM0 {x : Operand} {b : Bool} (hx : ev e x = .bool b) (h : K (.bool b) w) : Run1 P ⟨d, .move x, ty, pos, af, g⟩ e w K := zH5 hx h
theorem zW5 {x : Operand} {b : Option Addr} (hx : ev e x = .pointer b) (h : K (.pointer b) w) : Run1 P ⟨d, .move x, ty, pos, af, g⟩ e w K := zH5 hx h
theorem zH9 {x : Operand} {a : Option Addr} {n c : Nat} (hx : ev e x = .slice a n c) (h : K (.slice a n c) w) : Run1 P ⟨d, .move x, ty, pos, af, g⟩ e w K := zH5 hx h
theorem zW6 {x : Operand} {c : Array Value} (hx : ev e x = .agg c) (h : K (.agg c) w) : Run1 P ⟨d, .move x, ty, pos, af, g⟩ e w K := zH5 hx h
theorem zP9 {x : Operand} {c : Array Value} (hx : ev e x = .tuple c) (h : K (.tuple c) w) : Run1 P ⟨d, .move x, ty, pos, af, g⟩ e w K := zH5 hx h
theorem qJ4 {x : Operand} {s : ByteArray} (hx : ev e x = .string s) (h : K (.string s) w) : Run1 P ⟨d, .move x, ty, pos, af, g⟩ e w K := zH5 hx h
theorem zS9 {x : Operand} {f : Fn} {a c : Array Value} (hx : ev e x = .func f a c) (h : K (.func f a c) w) : Run1 P ⟨d, .move x, ty, pos, af, g⟩ e w K := zH5 hx h
theorem zQ0 {x : Operand} {t : TypeId} {v : Value} (hx : ev e x = .iface t v) (h : K (.iface t v) w) : Run1 P ⟨d, .move x, ty, pos, af, g⟩ e w K := zH5 hx h
theorem zQ1 {x : Operand} {k : IntKind} {a : Int} (hx : ev e x = .int k a) (h : K (.int k a) w) : Run1 P ⟨d, .assign x, ty, pos, af, g⟩ e w K := zJ5 hx h
theorem zO2 {x : Operand} {b : Bool} (hx : ev e x = .bool b) (h : K (.bool b) w) : Run1 P ⟨d, .assign x, ty, pos, af, g⟩ e w K := zJ5 hx h
theorem zQ2 {x : Operand} {b : Option Addr} (hx : ev e x = .pointer b) (h : K (.pointer b) w) : Run1 P ⟨d, .assign x, ty, pos, af, g⟩ e w K := zJ5 hx h
theorem zM6 {x : Operand} {a : Option Addr} {n c : Nat} (hx : ev e x = .slice a n c) (h : K (.slice a n c) w) : Run1 P ⟨d, .assign x, ty, pos, af, g⟩ e w K := zJ5 hx h
theorem zQ3 {x : Operand} {c : Array Value} (hx : ev e x = .agg c) (h : K (.agg c) w) : Run1 P ⟨d, .assign x, ty, pos, af, g⟩ e w K := zJ5 hx h
theorem qD7 {x : Operand} {s : ByteArray} (hx : ev e x = .string s) (h : K (.string s) w) : Run1 P ⟨d, .assign x, ty, pos, af, g⟩ e w K := zJ5 hx h
theorem zZ8 {x : Operand} {f : Fn} {a c : Array Value} (hx : ev e x = .func f a c) (h : K (.func f a c) w) : Run1 P ⟨d, .assign x, ty, pos, af, g⟩ e w K := zJ5 hx h
theorem zX7 {x : Operand} {t : TypeId} {v : Value} (hx : ev e x = .iface t v) (h : K (.iface t v) w) : Run1 P ⟨d, .assign x, ty, pos, af, g⟩ e w K := zJ5 hx h
theorem zJ6 {c x y : Operand} {b : Bool} {v : Value} (hc : ev e c = .bool b) (hb : b = true) (hx : ev e x = v) (h : K v w) : Run1 P ⟨d, .pick c x y, ty, pos, af, g⟩ e w K := by
  subst hb; subst hx
  exact zE1 (v := ev e x) (w' := w) (by simp [execOp, hc, asBool]) h
theorem qM4 {c x y : Operand} {b : Bool} {v : Value} (hc : ev e c = .bool b) (hb : b = false) (hx : ev e y = v) (h : K v w) : Run1 P ⟨d, .pick c x y, ty, pos, af, g⟩ e w K := by
  subst hb; subst hx
  exact zE1 (v := ev e y) (w' := w) (by simp [execOp, hc, asBool]) h
theorem zC9 {x : Operand} {i : Nat} {vs : Array Value} {v : Value} (hx : ev e x = .tuple vs) (hi : vs[i]? = some v) (h : K v w) : Run1 P ⟨d, .extract x i, ty, pos, af, g⟩ e w K :=
  zE1 (v := v) (w' := w) (by simp [execOp, hx, Instr.extract, hi]) h
/-! ### numbers -/
def inR : IntKind → Int → Prop
  | .i8, n => -128 ≤ n ∧ n ≤ 127
  | .i16, n => -32768 ≤ n ∧ n ≤ 32767
  | .i32, n => -2147483648 ≤ n ∧ n ≤ 2147483647
  | .i64, n => -9223372036854775808 ≤ n ∧ n ≤ 9223372036854775807
  | .u8, n => 0 ≤ n ∧ n ≤ 255
  | .u16, n => 0 ≤ n ∧ n ≤ 65535
  | .u32, n => 0 ≤ n ∧ n ≤ 4294967295
  | .u64, n => 0 ≤ n ∧ n ≤ 18446744073709551615
theorem zI8 {k : IntKind} {n : Int} (h : inR k n) : k.wrap n = n := by
  cases k <;> simp only [inR] at h
  · exact IntWalk.i8_in n h
  · exact IntWalk.i16_in n h
  · exact IntWalk.i32_in n h
  · exact IntWalk.i64_in n h
  · exact IntWalk.u8_in n h
  · exact IntWalk.u16_in n h
  · exact IntWalk.u32_in n h
  · exact IntWalk.u64_in n h
theorem zL4 (op : BinOp) {t u : TypeId} {x y : Operand} {k : IntKind} {a b : Int} {v : Value} (hx : ev e x = .int k a) (hy : ev e y = .int k b)
    (hv : ∀ w : World, (binOp op t (.int k a) (.int k b)).run P w = .ok v w) (h : K v w) : Run1 P ⟨d, .binOp op t x y u, ty, pos, af, g⟩ e w K := by
  refine zE1 (v := v) (w' := w) ?_ h
  have hg : ∀ w : World, (eqGuard op t x y (.int k a) (.int k b)).run P w = .ok () w := by intro w; unfold eqGuard; cases op <;> rfl
  simp only [execOp, hx, hy, Sem.run_bind, hg, Result.andThen_ok, hv]
  rfl
variable {t u : TypeId} {x y : Operand} {k k' : IntKind} {a b : Int}
theorem zG6 (hx : ev e x = .int k a) (hy : ev e y = .int k b) (h : K (.int k (k.wrap (a + b))) w) : Run1 P ⟨d, .binOp .add t x y u, ty, pos, af, g⟩ e w K :=
  zL4 .add hx hy (fun w => by simp [binOp, Op.intArith]) h
theorem qD8 (hx : ev e x = .int k a) (hy : ev e y = .int k b) (h : K (.int k (k.wrap (a - b))) w) : Run1 P ⟨d, .binOp .sub t x y u, ty, pos, af, g⟩ e w K :=
  zL4 .sub hx hy (fun w => by simp [binOp, Op.intArith]) h
theorem zU5 (hx : ev e x = .int k a) (hy : ev e y = .int k b) (h : K (.int k (k.wrap (a * b))) w) : Run1 P ⟨d, .binOp .mul t x y u, ty, pos, af, g⟩ e w K :=
  zL4 .mul hx hy (fun w => by simp [binOp, Op.intArith]) h
theorem zB5 (hx : ev e x = .int k a) (hy : ev e y = .int k b) (hr : inR k (a + b)) (h : K (.int k (a + b)) w) : Run1 P ⟨d, .binOp .add t x y u, ty, pos, af, g⟩ e w K :=
  zG6 hx hy (by rw [zI8 hr]; exact h)
theorem zM9 (hx : ev e x = .int k a) (hy : ev e y = .int k b) (hr : inR k (a - b)) (h : K (.int k (a - b)) w) : Run1 P ⟨d, .binOp .sub t x y u, ty, pos, af, g⟩ e w K :=
  qD8 hx hy (by rw [zI8 hr]; exact h)
theorem zZ9 (hx : ev e x = .int k a) (hy : ev e y = .int k b) (hr : inR k (a * b)) (h : K (.int k (a * b)) w) : Run1 P ⟨d, .binOp .mul t x y u, ty, pos, af, g⟩ e w K :=
  zU5 hx hy (by rw [zI8 hr]; exact h)
theorem qA0 (hx : ev e x = .int k a) (hy : ev e y = .int k b) (h0 : 0 ≤ a) (h1 : 0 < b) (hr : inR k (a / b)) (h : K (.int k (a / b)) w) : Run1 P ⟨d, .binOp .quo t x y u, ty, pos, af, g⟩ e w K :=
  zL4 .quo hx hy (fun w => by
    have hb : b ≠ 0 := by omega
    simp only [binOp, Op.intDiv, hb, ne_eq, not_true_eq_false, if_false, Sem.run_pure]
    rw [Int.tdiv_eq_ediv_of_nonneg h0, zI8 hr]) h
theorem yH4 (hx : ev e x = .int k a) (hy : ev e y = .int k b) (h1 : b ≠ 0) (h : K (.int k (k.wrap (a.tdiv b))) w) : Run1 P ⟨d, .binOp .quo t x y u, ty, pos, af, g⟩ e w K :=
  zL4 .quo hx hy (fun w => by simp only [binOp, Op.intDiv, h1, ne_eq, not_true_eq_false, if_false, Sem.run_pure]) h
theorem zP1 (hx : ev e x = .int k a) (hy : ev e y = .int k b) (h0 : 0 ≤ a) (h1 : 0 < b) (h : K (.int k (a % b)) w) : Run1 P ⟨d, .binOp .rem t x y u, ty, pos, af, g⟩ e w K :=
  zL4 .rem hx hy (fun w => by
    have hb : b ≠ 0 := by omega
    simp only [binOp, Op.intDiv, hb, ne_eq, not_true_eq_false, if_false, Sem.run_pure]
    rw [Int.tmod_eq_emod_of_nonneg h0]) h
theorem yH5 (hx : ev e x = .int k a) (hy : ev e y = .int k b) (h1 : b ≠ 0) (h : K (.int k (a.tmod b)) w) : Run1 P ⟨d, .binOp .rem t x y u, ty, pos, af, g⟩ e w K :=
  zL4 .rem hx hy (fun w => by simp only [binOp, Op.intDiv, h1, ne_eq, not_true_eq_false, if_false, Sem.run_pure]) h
def yC5 (op : BinOp) (k : IntKind) (a b : Int) : Int :=
  k.wrap (match op with
    | .and => (BitVec.ofInt k.bits a &&& BitVec.ofInt k.bits b).toNat
    | .or => (BitVec.ofInt k.bits a ||| BitVec.ofInt k.bits b).toNat
    | .xor => (BitVec.ofInt k.bits a ^^^ BitVec.ofInt k.bits b).toNat
    | _ => (BitVec.ofInt k.bits a &&& ~~~BitVec.ofInt k.bits b).toNat)
theorem yZ9 (hx : ev e x = .int k a) (hy : ev e y = .int k b) (h : K (.int k (yC5 .and k a b)) w) : Run1 P ⟨d, .binOp .and t x y u, ty, pos, af, g⟩ e w K :=
  zL4 .and hx hy (fun w => by simp [binOp, Op.intBits, yC5]) h
theorem yH6 (hx : ev e x = .int k a) (hy : ev e y = .int k' b) (h0 : 0 ≤ b) (h : K (.int k (k.wrap (a * 2 ^ min b.toNat k.bits))) w) : Run1 P ⟨d, .binOp .shl t x y u, ty, pos, af, g⟩ e w K :=
  zE1 (w' := w) (by
    simp only [execOp, hx, hy, Sem.run_bind, eqGuard, binOp, shift_shl_any k k' a b h0, Sem.run_pure, Result.andThen_ok]
    rfl) h
theorem yO8 (hx : ev e x = .int k a) (hy : ev e y = .int k' b) (h0 : 0 ≤ b) (h : K (.int k (a / 2 ^ min b.toNat k.bits)) w) : Run1 P ⟨d, .binOp .shr t x y u, ty, pos, af, g⟩ e w K :=
  zE1 (w' := w) (by
    simp only [execOp, hx, hy, Sem.run_bind, eqGuard, binOp, shift_shr_any k k' a b h0, Sem.run_pure, Result.andThen_ok]
    rfl) h
theorem qA1 {m : Int} (hx : ev e x = .int k a) (hy : ev e y = .int k' b) (hm : 2 ^ min b.toNat k.bits = m) (h0 : 0 ≤ b) (hr : inR k (a * m)) (h : K (.int k (a * m)) w) : Run1 P ⟨d, .binOp .shl t x y u, ty, pos, af, g⟩ e w K :=
  yH6 hx hy h0 (by rw [hm, zI8 hr]; exact h)
theorem zT0 {m : Int} (hx : ev e x = .int k a) (hy : ev e y = .int k' b) (hm : 2 ^ min b.toNat k.bits = m) (h0 : 0 ≤ b) (h : K (.int k (k.wrap (a * m))) w) : Run1 P ⟨d, .binOp .shl t x y u, ty, pos, af, g⟩ e w K :=
  yH6 hx hy h0 (by rw [hm]; exact h)
/-! ### tests on numbers: decided, or open -/
theorem zD5 (hx : ev e x = .int k a) (hy : ev e y = .int k b) (h : K (.bool (decide (a = b))) w) : Run1 P ⟨d, .binOp .eql t x y u, ty, pos, af, g⟩ e w K :=
  zL4 .eql hx hy (fun w => by simp only [binOp, Op.intCmp, ne_eq, not_true_eq_false, if_false, Sem.run_pure]; rfl) h
theorem zG9 (hx : ev e x = .int k a) (hy : ev e y = .int k b) (h : K (.bool (decide (a ≠ b))) w) : Run1 P ⟨d, .binOp .neq t x y u, ty, pos, af, g⟩ e w K :=
  zL4 .neq hx hy (fun w => by
    simp only [binOp, Op.intCmp, ne_eq, not_true_eq_false, if_false, Sem.run_pure]
    congr 2; by_cases hab : a = b <;> simp [hab]) h
theorem zF6 (hx : ev e x = .int k a) (hy : ev e y = .int k b) (h : K (.bool (decide (a < b))) w) : Run1 P ⟨d, .binOp .lss t x y u, ty, pos, af, g⟩ e w K :=
  zL4 .lss hx hy (fun w => by simp only [binOp, Op.intCmp, ne_eq, not_true_eq_false, if_false, Sem.run_pure]) h
theorem zU7 (hx : ev e x = .int k a) (hy : ev e y = .int k b) (h : K (.bool (decide (a ≤ b))) w) : Run1 P ⟨d, .binOp .leq t x y u, ty, pos, af, g⟩ e w K :=
  zL4 .leq hx hy (fun w => by simp only [binOp, Op.intCmp, ne_eq, not_true_eq_false, if_false, Sem.run_pure]) h
theorem zN7 (hx : ev e x = .int k a) (hy : ev e y = .int k b) (h : K (.bool (decide (a > b))) w) : Run1 P ⟨d, .binOp .gtr t x y u, ty, pos, af, g⟩ e w K :=
  zL4 .gtr hx hy (fun w => by simp only [binOp, Op.intCmp, ne_eq, not_true_eq_false, if_false, Sem.run_pure]) h
theorem zP7 (hx : ev e x = .int k a) (hy : ev e y = .int k b) (h : K (.bool (decide (a ≥ b))) w) : Run1 P ⟨d, .binOp .geq t x y u, ty, pos, af, g⟩ e w K :=
  zL4 .geq hx hy (fun w => by simp only [binOp, Op.intCmp, ne_eq, not_true_eq_false, if_false, Sem.run_pure]) h
theorem zT1 (hx : ev e x = .int k a) (hy : ev e y = .int k b) (hc : a = b) (h : K (.bool true) w) : Run1 P ⟨d, .binOp .eql t x y u, ty, pos, af, g⟩ e w K := zD5 hx hy (by rw [decide_eq_true hc]; exact h)
theorem qU5 (hx : ev e x = .int k a) (hy : ev e y = .int k b) (hc : ¬ a = b) (h : K (.bool false) w) : Run1 P ⟨d, .binOp .eql t x y u, ty, pos, af, g⟩ e w K := zD5 hx hy (by rw [decide_eq_false hc]; exact h)
theorem yU6 (hx : ev e x = .int k a) (hy : ev e y = .int k b) (hc : a ≠ b) (h : K (.bool true) w) : Run1 P ⟨d, .binOp .neq t x y u, ty, pos, af, g⟩ e w K := zG9 hx hy (by rw [decide_eq_true hc]; exact h)
theorem yH7 (hx : ev e x = .int k a) (hy : ev e y = .int k b) (hc : a = b) (h : K (.bool false) w) : Run1 P ⟨d, .binOp .neq t x y u, ty, pos, af, g⟩ e w K := zG9 hx hy (by rw [decide_eq_false (not_not_intro hc)]; exact h)
theorem yU7 (hx : ev e x = .int k a) (hy : ev e y = .int k b) (hc : a < b) (h : K (.bool true) w) : Run1 P ⟨d, .binOp .lss t x y u, ty, pos, af, g⟩ e w K := zF6 hx hy (by rw [decide_eq_true hc]; exact h)
theorem yH8 (hx : ev e x = .int k a) (hy : ev e y = .int k b) (hc : ¬ a < b) (h : K (.bool false) w) : Run1 P ⟨d, .binOp .lss t x y u, ty, pos, af, g⟩ e w K := zF6 hx hy (by rw [decide_eq_false hc]; exact h)
theorem yU8 (hx : ev e x = .int k a) (hy : ev e y = .int k b) (hc : a ≤ b) (h : K (.bool true) w) : Run1 P ⟨d, .binOp .leq t x y u, ty, pos, af, g⟩ e w K := zU7 hx hy (by rw [decide_eq_true hc]; exact h)
theorem yU9 (hx : ev e x = .int k a) (hy : ev e y = .int k b) (hc : ¬ a ≤ b) (h : K (.bool false) w) : Run1 P ⟨d, .binOp .leq t x y u, ty, pos, af, g⟩ e w K := zU7 hx hy (by rw [decide_eq_false hc]; exact h)
theorem yV0 (hx : ev e x = .int k a) (hy : ev e y = .int k b) (hc : a > b) (h : K (.bool true) w) : Run1 P ⟨d, .binOp .gtr t x y u, ty, pos, af, g⟩ e w K := zN7 hx hy (by rw [decide_eq_true hc]; exact h)
theorem yH9 (hx : ev e x = .int k a) (hy : ev e y = .int k b) (hc : ¬ a > b) (h : K (.bool false) w) : Run1 P ⟨d, .binOp .gtr t x y u, ty, pos, af, g⟩ e w K := zN7 hx hy (by rw [decide_eq_false hc]; exact h)
theorem yV1 (hx : ev e x = .int k a) (hy : ev e y = .int k b) (hc : a ≥ b) (h : K (.bool true) w) : Run1 P ⟨d, .binOp .geq t x y u, ty, pos, af, g⟩ e w K := zP7 hx hy (by rw [decide_eq_true hc]; exact h)
theorem yV2 (hx : ev e x = .int k a) (hy : ev e y = .int k b) (hc : ¬ a ≥ b) (h : K (.bool false) w) : Run1 P ⟨d, .binOp .geq t x y u, ty, pos, af, g⟩ e w K := zP7 hx hy (by rw [decide_eq_false hc]; exact h)
theorem zN8 {p : Bool} (hx : ev e x = .bool p) (h : K (.bool (!p)) w) : Run1 P ⟨d, .unOp .not t x, ty, pos, af, g⟩ e w K :=
  zE1 (w' := w) (by simp only [execOp, hx, Op.unary, Sem.run_bind, Sem.run_pure, Result.andThen_ok]) h
theorem zI5 [hs : UndI P t] [hu : IntI P u k] (hx : ev e x = .int k' a) (h : K (.int k (k.wrap a)) w) : Run1 P ⟨d, .convert t u x, ty, pos, af, g⟩ e w K := by
  obtain ⟨ds, hs⟩ := hs.h
  have hu := hu.h
  refine zE1 (w' := w) (v := .int k (k.wrap a)) ?_ h
  simp only [execOp, hx, convert, underlying, program, Sem.run_bind, Sem.run, hs, hu, Sem.run_pure, Result.andThen_ok, Conv.intToInt]
theorem zF7 [hs : UndI P t] [hu : IntI P u k] (hx : ev e x = .int k' a) (hr : inR k a) (h : K (.int k a) w) : Run1 P ⟨d, .convert t u x, ty, pos, af, g⟩ e w K :=
  zI5 hx (by rw [zI8 hr]; exact h)
/-! ### calls -/
def Ret (F : Value → World → Prop) : Ending → World → Prop := fun r w' => ∃ v, r = .returned v ∧ F v w'
def zB6 (P : Program) (f : FuncId) (args : Array Value) (w : World) (x : Value) : Prop := Calls P f args w (Ret fun v w' => v = x ∧ Grow w w')
def qJ5 (e : Env) (fst : Array Value) (args : Array Operand) (cap : Array Value) : List Value := fst.toList ++ (args.toList.map (ev e) ++ cap.toList)
theorem zD7 {f : FuncId} {fv : Operand} {args : Array Operand} {at_ : Array TypeId} {fst cap : Array Value} {F : Value → World → Prop}
    (hx : ev e fv = .func (.func f) fst cap) [hfi : FuncI P f]
    (hc : Calls P f (qJ5 e fst args cap).toArray w (Ret F)) (h : ∀ v w', F v w' → K v w') : Run1 P ⟨d, .call ⟨.value fv, args, at_⟩, ty, pos, af, g⟩ e w K := by
  obtain ⟨fn, hf, hn⟩ := hfi.h
  simp only [Bool.or_eq_false_iff, beq_eq_false_iff_ne] at hn
  obtain ⟨hn1, hn2⟩ := hn
  have ha : fst ++ args.map (ev e) ++ cap = (qJ5 e fst args cap).toArray := by
    apply Array.ext'
    simp [qJ5]
  have hr : (execOp (ev e) ⟨d, .call ⟨.value fv, args, at_⟩, ty, pos, af, g⟩).run P w = .ok (.enter f (qJ5 e fst args cap).toArray) w := by
    simp only [execOp, resolve, hx, Deferred.ofValue, Sem.run_bind, Sem.run_pure, Result.andThen_ok, invoke, ha]
    have hn3 : ¬ fn.body = none := fun h => by rw [h] at hn2; simp at hn2
    simp [callFunc, program, Sem.run, hf, hn1, hn3]
  unfold Run1
  rw [hr]
  exact hc.mono fun r w' ⟨v, hv, hF⟩ => ⟨v, hv, h v w' hF⟩
theorem zA4 {f : FuncId} {fv : Operand} {args : Array Operand} {at_ : Array TypeId} {fst cap : Array Value} {v : Value}
    (hx : ev e fv = .func (.func f) fst cap) [hfi : FuncI P f]
    (hc : zB6 P f (qJ5 e fst args cap).toArray w v) (h : ∀ w', Grow w w' → K v w') : Run1 P ⟨d, .call ⟨.value fv, args, at_⟩, ty, pos, af, g⟩ e w K :=
  zD7 hx hc fun _ w' ⟨hv, hg⟩ => by subst hv; exact h w' hg
theorem zJ0 {P : Program} {f : FuncId} {args : Array Value} {w : World} {x y : Value} (h : zB6 P f args w x) (e : x = y) : zB6 P f args w y := e ▸ h
theorem zC2 {f : FuncId} {fn : Func} {c : Code} {args : Array Value} {F : Value → World → Prop} {n : Nat} {rs : List ResultVar}
    (hf : P.funcs[f]? = some fn) (hn : fn.ntmps = n) (hr : fn.results = rs.toArray) (hb : fn.body = some c) (hle : Nat.ble args.size n = true)
    (h : W P n c (RetQ P rs (Ret F)) ⟨fun i => args.getD i undef, [], none⟩ w) : Calls P f args w (Ret F) := yC4 hf hb hn (by rw [hr]) hle h
theorem zA8 {f : FuncId} {fn : Func} {c : Code} {args : Array Value} {x : Value} {n : Nat} {rs : List ResultVar}
    (hf : P.funcs[f]? = some fn) (hn : fn.ntmps = n) (hr : fn.results = rs.toArray) (hb : fn.body = some c) (hle : Nat.ble args.size n = true)
    (h : W P n c (RetQ P rs (Ret fun v w' => v = x ∧ Grow w w')) ⟨fun i => args.getD i undef, [], none⟩ w) : zB6 P f args w x := zC2 hf hn hr hb hle h
end
structure Upd (b : Nat) (w w' : World) : Prop where
  os : w'.os = w.os
  tape : w'.tape = w.tape
  output : w'.output = w.output
  size : w'.heap.size = w.heap.size
  other : ∀ k, k ≠ b → w'.heap[k]? = w.heap[k]?
theorem Upd.below {b n : Nat} {w w' : World} (h : Upd b w w') (hn : n ≤ b) : Below n w w' := ⟨h.os, h.tape, h.output, by rw [h.size]; exact Nat.le_refl _, fun k hk => h.other k (by omega)⟩
theorem Upd.heap {b k : Nat} {w w' : World} {o : Obj} (h : Upd b w w') (hk : w.heap[k]? = some o) (hne : k ≠ b) : w'.heap[k]? = some o := by rw [h.other k hne]; exact hk
theorem Grow.upd {b : Nat} {w w' w'' : World} (g : Grow w w') (h : Upd b w' w'') (hb : w.heap.size ≤ b) : Grow w w'' := Below.trans g (h.below hb)
theorem zC1 {w : World} {b : Nat} {o : Obj} (h : w.heap[b]? = some o) : b < w.heap.size := (Array.getElem?_eq_some_iff.1 h).1
theorem qC3 (w : World) (o : Obj) : Grow w (w.alloc o) := (Below.refl _ w).alloc (Nat.le_refl _) o
def tyS (P : Program) (t : TypeId) : Option (Nat × Bool) :=
  match P.info? t, P.underlying t with
  | some i, some d => some (i.size, match d with | .struct _ | .array _ _ => true | _ => false)
  | _, _ => none
def fldS (P : Program) (s : TypeId) (f : Nat) : Option Nat :=
  match P.underlying s with
  | some (.struct fs) => (match fs[f]? with
    | some x => (match P.info? x.type with | some i => if i.size = 0 then none else some x.offset | none => none)
    | none => none)
  | _ => none
def jA0 (P : Program) (t : TypeId) : Option (Array Value) := ((P.info? t).bind (·.zero)).map Value.cells
def elS (P : Program) (t : TypeId) : Option (TypeId × Nat) :=
  match P.underlying t with
  | some (.slice el) => (match P.info? el with | some i => some (el, i.size) | none => none)
  | _ => none
class TyI (P : Program) (t : TypeId) (n : outParam Nat) (ag : outParam Bool) : Prop where
  h : tyS P t = some (n, ag)
class FldI (P : Program) (t : TypeId) (f : Nat) (off : outParam Nat) : Prop where
  h : fldS P t f = some off
class ZeroI (P : Program) (t : TypeId) (cs : outParam (Array Value)) : Prop where
  h : jA0 P t = some cs
class ElI (P : Program) (t : TypeId) (el : outParam TypeId) (sz : outParam Nat) : Prop where
  h : elS P t = some (el, sz)
class ConcI (P : Program) (t : TypeId) : Prop where
  h : P.concrete t = true
section
variable {P : Program} {ops : Array Oper} {Q : Ex → Env → World → Prop} {e : Env} {w : World} {K : Value → World → Prop} {r : List Oper}
variable {d : Option Nat} {ty : TypeId} {pos : String} {af : Array Edge} {g : Option (Nat × Bool)}
variable {t u : TypeId} {x y : Operand} {k k' : IntKind} {a c : Int}
theorem zA7 {cs : Array Value} [hzi : ZeroI P t cs]
    (h : ∀ (b : Nat) (w' : World), w.heap.size ≤ b → w'.heap[b]? = some (.cells cs t (0, 0)) → Grow w w' → K (.pointer (some ⟨b, 0, none⟩)) w') : Run1 P ⟨d, .alloc t, ty, pos, af, g⟩ e w K := by
  have hz := hzi.h
  unfold jA0 at hz
  cases hi : P.info? t with
  | none => rw [hi] at hz; simp at hz
  | some i =>
    rw [hi] at hz
    cases hzz : i.zero with
    | none => simp [hzz] at hz
    | some z =>
      simp only [Option.bind_some, hzz, Option.map_some, Option.some.injEq] at hz
      refine zE1 (v := .pointer (some ⟨w.heap.size, 0, none⟩)) (w' := w.alloc (.cells cs t (0, 0))) ?_ (h _ _ (Nat.le_refl _) (heap_alloc_new w _) (qC3 w _))
      simp [execOp, Instr.alloc, zeroValue, typeInfo, program, Sem.run, hi, hzz, newVar, newRow, newObj, hz]
theorem yO9 {v : Value} {cs : Array Value} (hx : ev e x = v) (hc : v.cells = cs)
    (h : ∀ (b : Nat) (w' : World), w.heap.size ≤ b → w'.heap[b]? = some (.cells cs t (0, 0)) → Grow w w' → K (.pointer (some ⟨b, 0, none⟩)) w') : Run1 P ⟨d, .box t x, ty, pos, af, g⟩ e w K := by
  refine zE1 (v := .pointer (some ⟨w.heap.size, 0, none⟩)) (w' := w.alloc (.cells cs t (0, 0))) ?_ (h _ _ (Nat.le_refl _) (heap_alloc_new w _) (qC3 w _))
  simp [execOp, Instr.box, newVar, newRow, newObj, Sem.run, hx, hc]
theorem zA9 {parts : Array (Nat × Operand)} {v : Value} (hv : ∀ w : World, (Instr.build t (parts.map fun (i, x) => (i, ev e x))).run P w = .ok v w) (h : K v w) : Run1 P ⟨d, .build t parts, ty, pos, af, g⟩ e w K :=
  zE1 (w' := w) (by simp only [execOp, Sem.run_bind]; rw [hv w]; rfl) h
theorem zC3 {parts : Array (Nat × Operand)} {n : Nat} {cs : Array Value} {el : TypeId}
    (hv : ∀ w : World, (Instr.buildSlice t n (parts.map fun (i, x) => (i, ev e x))).run P w = .ok (.slice (some ⟨w.heap.size, 0, none⟩) n n) (w.alloc (.cells cs el (0, 0))))
    (h : ∀ (b : Nat) (w' : World), w.heap.size ≤ b → w'.heap[b]? = some (.cells cs el (0, 0)) → Grow w w' → K (.slice (some ⟨b, 0, none⟩) n n) w') : Run1 P ⟨d, .buildSlice t n parts, ty, pos, af, g⟩ e w K :=
  zE1 (v := .slice (some ⟨w.heap.size, 0, none⟩) n n) (w' := w.alloc (.cells cs el (0, 0))) (by simp only [execOp, Sem.run_bind]; rw [hv w]; rfl) (h _ _ (Nat.le_refl _) (heap_alloc_new w _) (qC3 w _))
theorem add_lit (b o n : Nat) : (⟨b, o, none⟩ : Addr).add n = ⟨b, o + n, none⟩ := by
  unfold Addr.add; split
  · rename_i h; subst h; rfl
  · rfl
theorem zD4 {f b o off : Nat} [hfi : FldI P t f off] (hx : ev e x = .pointer (some ⟨b, o, none⟩)) (h : K (.pointer (some ⟨b, o + off, none⟩)) w) : Run1 P ⟨d, .fieldAddr t x f, ty, pos, af, g⟩ e w K := by
  refine zE1 (w' := w) (v := .pointer (some ⟨b, o + off, none⟩)) ?_ h
  have hf := hfi.h
  unfold fldS at hf
  split at hf
  · rename_i fs hu
    split at hf
    · rename_i fl hfl
      split at hf
      · rename_i i hi
        split at hf
        · cases hf
        · rename_i hz
          simp only [Option.some.injEq] at hf
          subst hf
          simp only [execOp, Instr.fieldAt, underlying, program, Sem.run_bind, Sem.run, hu, hx, Instr.sureAddr, Sem.run_pure, Result.andThen_ok, hfl, fieldPlace, sizeOf, typeInfo, hi, hz, if_false, add_lit]
      · cases hf
    · cases hf
  · cases hf
theorem zV0 {b o : Nat} {cs : Array Value} {T : TypeId} {fr : Nat × Nat} (hb : w.heap[b]? = some (.cells cs T fr)) : w.cell? ⟨b, o, none⟩ = cs[o]? := cell_of_row w b o cs T fr hb
theorem zG7 {b o n : Nat} {cs : Array Value} {T : TypeId} {fr : Nat × Nat} {v : Value} [hti : TyI P t n false] (hx : ev e x = .pointer (some ⟨b, o, none⟩))
    (hb : w.heap[b]? = some (.cells cs T fr)) (hv : cs[o]? = some v) (h : K v w) : Run1 P ⟨d, .load t x, ty, pos, af, g⟩ e w K := by
  refine zE1 (w' := w) (v := v) ?_ h
  have ht := hti.h
  unfold tyS at ht
  split at ht
  · rename_i i dd hi hu
    simp only [Option.some.injEq, Prod.mk.injEq] at ht
    have hagg : (isAgg t).run P w = .ok false w := by
      simp only [isAgg, underlying, program, Sem.run_bind, Sem.run, hu, Result.andThen_ok]
      cases dd <;> first | rfl | simp at ht
    simp only [execOp, Instr.loadAt, hx, Instr.sureAddr, loadVar, Sem.run_bind, Sem.run_pure, Result.andThen_ok, hagg]
    simp [zV0 hb, hv]
  · cases ht
theorem zI0 {b o n : Nat} {cs vs : Array Value} {T : TypeId} {fr : Nat × Nat} [hti : TyI P t n true] (hx : ev e x = .pointer (some ⟨b, o, none⟩))
    (hb : w.heap[b]? = some (.cells cs T fr)) (hn : Nat.ble (o + n) cs.size = true) (hv : ((cs.toList.drop o).take n).toArray = vs) (h : K (.agg vs) w) : Run1 P ⟨d, .load t x, ty, pos, af, g⟩ e w K := by
  refine zE1 (w' := w) (v := .agg vs) ?_ h
  have ht := hti.h
  unfold tyS at ht
  split at ht
  · rename_i i dd hi hu
    simp only [Option.some.injEq, Prod.mk.injEq] at ht
    have hagg : (isAgg t).run P w = .ok true w := by
      simp only [isAgg, underlying, program, Sem.run_bind, Sem.run, hu, Result.andThen_ok]
      cases dd <;> first | rfl | simp at ht
    have hn := Nat.le_of_ble_eq_true hn
    have hsz : vs.size = n := by rw [← hv]; simp; omega
    have hvl : vs.toList = (cs.toList.drop o).take n := by rw [← hv]
    have hc := run_loadCells_list (P := P) (w := w) ⟨b, o, none⟩ vs.toList (fun j v hj => by
      rw [add_lit, zV0 hb]
      rw [hvl, List.getElem?_take] at hj
      split at hj
      · rw [List.getElem?_drop] at hj; simpa using hj
      · cases hj)
    simp only [Array.length_toList, hsz] at hc
    simp only [execOp, Instr.loadAt, hx, Instr.sureAddr, loadVar, sizeOf, typeInfo, program, Sem.run_bind, Sem.run, Sem.run_pure, Result.andThen_ok, hagg, hi, ht.1, if_true, hc]
  · cases ht
def zU6 (cs : Array Value) (o : Nat) (vs : Array Value) : Array Value := (cs.toList.take o ++ vs.toList ++ cs.toList.drop (o + vs.size)).toArray
theorem qG4 {cs vs : Array Value} {o : Nat} (h : o + vs.size ≤ cs.size) : (zU6 cs o vs).size = cs.size := by
  simp [zU6]; omega
theorem zY4 {b o n : Nat} {ag : Bool} {cs vs cs' : Array Value} {T : TypeId} {v : Value} [hti : TyI P t n ag] (hx : ev e x = .pointer (some ⟨b, o, none⟩)) (hy : ev e y = v) (hc : v.cells = vs)
    (hb : w.heap[b]? = some (.cells cs T (0, 0))) (hn : vs.size = n) (hf : Nat.ble (o + n) cs.size = true) (h1 : vs.toList.all Value.oneCell' = true) (hcs : zU6 cs o vs = cs')
    (h : ∀ w' : World, w'.heap[b]? = some (.cells cs' T (0, 0)) → Upd b w w' → K undef w') : Run1 P ⟨d, .store t x y, ty, pos, af, g⟩ e w K := by
  subst hcs
  have hf := Nat.le_of_ble_eq_true hf
  have hst := run_storeCells_at P b o T vs.toList 0 cs w hb (by simp; omega) (List.all_eq_true.1 h1)
  simp only [Nat.add_zero, Array.length_toList] at hst
  refine yH3 (w' := w.setRow b (zU6 cs o vs)) ?_ (h _ (setRow_heap w b cs _ T (0, 0) hb) ⟨rfl, rfl, rfl, by simp, fun k hk => ?_⟩)
  · have ht := hti.h
    unfold tyS at ht
    split at ht
    · rename_i i dd hi hu
      simp only [Option.some.injEq, Prod.mk.injEq] at ht
      simp only [execOp, Instr.storeAt, hx, hy, Instr.sureAddr, storeVar, sizeOf, typeInfo, program, Sem.run_bind, Sem.run, Sem.run_pure, Result.andThen_ok, hi, hc, hn, ht.1, ne_eq, not_true_eq_false, if_false]
      rw [hst]
      rfl
    · cases ht
  · simp only [World.setRow, Array.getElem?_modify]
    rw [if_neg (fun h => hk h.symm)]
theorem zH2 {b o n c sz : Nat} {el : TypeId} {i : Int} [hui : ElI P t el sz] (hx : ev e x = .slice (some ⟨b, o, none⟩) n c) (hy : ev e y = .int k i) (h0 : 0 ≤ i) (h1 : i < n)
    (h : K (.pointer (some ⟨b, o + i.toNat * sz, none⟩)) w) : Run1 P ⟨d, .indexAddr t x y, ty, pos, af, g⟩ e w K := by
  refine zE1 (w' := w) (v := .pointer (some ⟨b, o + i.toNat * sz, none⟩)) ?_ h
  have hu := hui.h
  unfold elS at hu
  split at hu
  · rename_i el' hul
    split at hu
    · rename_i inf hi
      simp only [Option.some.injEq, Prod.mk.injEq] at hu
      obtain ⟨rfl, rfl⟩ := hu
      simp [execOp, Instr.indexAt, hx, hy, asIntOf, underlying, program, Sem.run, hul, h0, h1, sizeOf, typeInfo, hi, add_lit]
    · cases hu
  · cases hu
theorem yC6 {n c : Nat} {ad : Option Addr} {t2 : TypeId} {at_ : Array TypeId} {xs : Array Operand} (hxs : xs = #[x]) (hat : at_ = #[t2]) {el : TypeId} {sz : Nat} [hui : ElI P t2 el sz] (hx : ev e x = .slice ad n c) (h : K (.int .i64 n) w) :
    Run1 P ⟨d, .call ⟨.builtin .len, xs, at_⟩, ty, pos, af, g⟩ e w K := by
  subst hxs; subst hat
  refine zE1 (w' := w) (v := .int .i64 n) ?_ h
  have hu := hui.h
  unfold elS at hu
  split at hu
  · rename_i el' hul
    simp [execOp, resolve, invoke, builtin, Builtin.len_, hx, underlying, program, Sem.run, hul, goInt]
  · cases hu
theorem qG5 [hc : ConcI P t] {v : Value} (hx : ev e x = v) (h : K (.iface t v) w) : Run1 P ⟨d, .makeInterface t x, ty, pos, af, g⟩ e w K :=
  zE1 (w' := w) (v := .iface t v) (by simp [execOp, hx, run_makeInterface w t v hc.h]) h
theorem qJ6 {f : Fn} {p q : Array Operand} {vs us : List Value} (hp : p.toList.map (ev e) = vs) (hq : q.toList.map (ev e) = us) (h : K (.func f vs.toArray us.toArray) w) : Run1 P ⟨d, .makeFunc f p q, ty, pos, af, g⟩ e w K := by
  have h1 : p.map (ev e) = vs.toArray := by apply Array.ext'; simp [hp]
  have h2 : q.map (ev e) = us.toArray := by apply Array.ext'; simp [hq]
  exact zE1 (w' := w) (v := .func f vs.toArray us.toArray) (by simp [execOp, Instr.makeFunc, h1, h2]) h
theorem zW7 {a : Addr} (hx : ev e x = .pointer (some a)) (h : K (.pointer (some a)) w) : Run1 P ⟨d, .nilCheck x, ty, pos, af, g⟩ e w K :=
  zE1 (w' := w) (v := .pointer (some a)) (by simp [execOp, hx]) h
theorem zA1 {t : Tmp} {v : Value} (h : e t = v) : Res1 P e w (.tmp t) v := h.symm
theorem zB1 {t : Tmp} {k : IntKind} {n : Int} (h : e t = .int k n) : Res1 P e w (.tmp t) (.int k n) := h.symm
theorem yP0 {a : Tmp} {b o n : Nat} {cs vs : Array Value} {T : TypeId} {fr : Nat × Nat} [hti : TyI P t n true] (hx : e a = .pointer (some ⟨b, o, none⟩))
    (hb : w.heap[b]? = some (.cells cs T fr)) (hn : Nat.ble (o + n) cs.size = true) (hv : ((cs.toList.drop o).take n).toArray = vs) : Res1 P e w (.cell a t) (.agg vs) := by
  have ht := hti.h
  unfold tyS at ht
  split at ht
  · rename_i i dd hi hu
    simp only [Option.some.injEq, Prod.mk.injEq] at ht
    have hagg : (isAgg t).run P w = .ok true w := by
      simp only [isAgg, underlying, program, Sem.run_bind, Sem.run, hu, Result.andThen_ok]
      cases dd <;> first | rfl | simp at ht
    have hn := Nat.le_of_ble_eq_true hn
    have hsz : vs.size = n := by rw [← hv]; simp; omega
    have hvl : vs.toList = (cs.toList.drop o).take n := by rw [← hv]
    have hc := run_loadCells_list (P := P) (w := w) ⟨b, o, none⟩ vs.toList (fun j v hj => by
      rw [add_lit, zV0 hb]
      rw [hvl, List.getElem?_take] at hj
      split at hj
      · rw [List.getElem?_drop] at hj; simpa using hj
      · cases hj)
    simp only [Array.length_toList, hsz] at hc
    simp only [Res1, hx, asAddr, loadVar, sizeOf, typeInfo, program, Sem.run_bind, Sem.run, Sem.run_pure, Result.andThen_ok, hagg, hi, ht.1, if_true, hc]
  · cases ht
theorem ret1 {rv : ResultVar} {F : Value → World → Prop} {v : Value} (h1 : Res1 P e w rv v) (h : F v w) (hm : e.ms = [] := by rfl) : RetQ P [rv] (Ret F) .ret e w := ⟨w, by rw [hm]; rfl, [v], ⟨h1, trivial⟩, _, rfl, h⟩
theorem ret2 {r1 r2 : ResultVar} {F : Value → World → Prop} {v1 v2 : Value} (h1 : Res1 P e w r1 v1) (h2 : Res1 P e w r2 v2) (h : F (.tuple #[v1, v2]) w) (hm : e.ms = [] := by rfl) : RetQ P [r1, r2] (Ret F) .ret e w := ⟨w, by rw [hm]; rfl, [v1, v2], ⟨h1, h2, trivial⟩, _, rfl, h⟩
theorem qZ6 {cs : Array Value} {n : Nat} (hn : cs.size = n) : ((cs.toList.drop 0).take n).toArray = cs := by
  apply Array.ext'
  simp only [List.drop_zero]
  rw [List.take_of_length_le (by simp; omega)]
theorem zA5 {a : Tmp} {b n : Nat} {cs : Array Value} {t T : TypeId} {fr : Nat × Nat} [hti : TyI P t n true] (hx : e a = .pointer (some ⟨b, 0, none⟩))
    (hb : w.heap[b]? = some (.cells cs T fr)) (hn : cs.size = n) : Res1 P e w (.cell a t) (.agg cs) := yP0 hx hb (by rw [Nat.zero_add, hn]; exact Nat.ble_self_eq_true n) (qZ6 hn)
theorem zD8 {b n : Nat} {cs : Array Value} {T : TypeId} {fr : Nat × Nat} [hti : TyI P t n true] (hx : ev e x = .pointer (some ⟨b, 0, none⟩))
    (hb : w.heap[b]? = some (.cells cs T fr)) (hn : cs.size = n) (h : K (.agg cs) w) : Run1 P ⟨d, .load t x, ty, pos, af, g⟩ e w K := zI0 hx hb (by rw [Nat.zero_add, hn]; exact Nat.ble_self_eq_true n) (qZ6 hn) h
/-! ### the same, by the value's form -/
theorem yI0 {cs : Array Value} (hx : ev e x = .agg cs)
    (h : ∀ (b : Nat) (w' : World), w.heap.size ≤ b → w'.heap[b]? = some (.cells cs t (0, 0)) → Grow w w' → K (.pointer (some ⟨b, 0, none⟩)) w') : Run1 P ⟨d, .box t x, ty, pos, af, g⟩ e w K := yO9 hx rfl h
theorem yI1 {k : IntKind} {n : Int} (hx : ev e x = .int k n)
    (h : ∀ (b : Nat) (w' : World), w.heap.size ≤ b → w'.heap[b]? = some (.cells #[.int k n] t (0, 0)) → Grow w w' → K (.pointer (some ⟨b, 0, none⟩)) w') : Run1 P ⟨d, .box t x, ty, pos, af, g⟩ e w K := yO9 hx rfl h
theorem qU6 {a : Option Addr} {n c : Nat} (hx : ev e x = .slice a n c)
    (h : ∀ (b : Nat) (w' : World), w.heap.size ≤ b → w'.heap[b]? = some (.cells #[.slice a n c] t (0, 0)) → Grow w w' → K (.pointer (some ⟨b, 0, none⟩)) w') : Run1 P ⟨d, .box t x, ty, pos, af, g⟩ e w K := yO9 hx rfl h
theorem zW8 {b n : Nat} {ag : Bool} {cs vs : Array Value} {T : TypeId} [hti : TyI P t n ag] (hx : ev e x = .pointer (some ⟨b, 0, none⟩)) (hy : ev e y = .agg vs)
    (hb : w.heap[b]? = some (.cells cs T (0, 0))) (hn : vs.size = n) (hf : cs.size = n) (h1 : vs.toList.all Value.oneCell' = true)
    (h : ∀ w' : World, w'.heap[b]? = some (.cells vs T (0, 0)) → Upd b w w' → K undef w') : Run1 P ⟨d, .store t x y, ty, pos, af, g⟩ e w K :=
  zY4 hx hy rfl hb hn (by rw [Nat.zero_add, hf]; exact Nat.ble_self_eq_true n) h1 (by
    apply Array.ext'
    simp only [zU6, Value.cells, List.take_zero, List.nil_append, Nat.zero_add]
    rw [List.drop_eq_nil_of_le (by simp; omega)]
    simp) h
theorem zB9 {b o : Nat} {cs cs' : Array Value} {T : TypeId} {v : Value} [hti : TyI P t 1 false] (hx : ev e x = .pointer (some ⟨b, o, none⟩)) (hy : ev e y = v) (hone : v.oneCell' = true)
    (hb : w.heap[b]? = some (.cells cs T (0, 0))) (hf : Nat.ble (o + 1) cs.size = true) (hcs : (cs.toList.set o v).toArray = cs')
    (h : ∀ w' : World, w'.heap[b]? = some (.cells cs' T (0, 0)) → Upd b w w' → K undef w') : Run1 P ⟨d, .store t x y, ty, pos, af, g⟩ e w K := by
  have hc : v.cells = #[v] := by cases v <;> first | rfl | simp [Value.oneCell'] at hone
  refine zY4 hx hy hc hb rfl hf (by simp [hone]) ?_ h
  rw [← hcs]
  have hf' := Nat.le_of_ble_eq_true hf
  apply Array.ext'
  simp only [zU6, List.size_toArray, List.length_cons, List.length_nil]
  rw [List.set_eq_take_append_cons_drop, if_pos (by simp; omega)]
  simp
theorem yV3 {f off : Nat} (hf : fldS P t f = some off) : ∃ fs fl, P.underlying t = some (.struct fs) ∧ fs[f]? = some fl ∧ fl.offset = off := by
  unfold fldS at hf
  split at hf
  · rename_i fs hu
    split at hf
    · rename_i fl hfl
      split at hf
      · split at hf
        · cases hf
        · exact ⟨fs, fl, hu, hfl, by simpa using hf⟩
      · cases hf
    · cases hf
  · cases hf
def ftS (P : Program) (s : TypeId) (f : Nat) : Option TypeId :=
  match P.underlying s with
  | some (.struct fs) => (fs[f]?).map (·.type)
  | _ => none
class FtI (P : Program) (s : TypeId) (f : Nat) (t : outParam TypeId) : Prop where
  h : ftS P s f = some t
theorem yI2 {f off : Nat} {ft : TypeId} {cs : Array Value} {v : Value} [hfi : FldI P t f off] [hft : FtI P t f ft] [hti : TyI P ft 1 false] (hx : ev e x = .agg cs) (hv : cs[off]? = some v) (h : K v w) : Run1 P ⟨d, .field t x f, ty, pos, af, g⟩ e w K := by
  obtain ⟨fs, fl, hu, hfl, ho⟩ := yV3 hfi.h
  have hft := hft.h
  unfold ftS at hft
  rw [hu] at hft
  simp only [hfl, Option.map_some, Option.some.injEq] at hft
  subst hft
  subst ho
  have ht := hti.h
  unfold tyS at ht
  split at ht
  · rename_i i dd hi hu2
    simp only [Option.some.injEq, Prod.mk.injEq] at ht
    have hagg : (isAgg fl.type).run P w = .ok false w := by
      simp only [isAgg, underlying, program, Sem.run_bind, Sem.run, hu2, Result.andThen_ok]
      cases dd <;> first | rfl | simp at ht
    refine zE1 (w' := w) (v := v) ?_ h
    simp [execOp, Instr.field, underlying, program, Sem.run, hu, hfl, hx, asAgg, part, hagg, hv]
  · cases ht
theorem yI3 {p : Bool} (hx : ev e x = .bool p) (hp : p = true := by first | rfl | assumption) (h : K (.bool false) w) : Run1 P ⟨d, .unOp .not t x, ty, pos, af, g⟩ e w K := zN8 hx (by subst hp; exact h)
theorem qJ7 {b : Builtin} {xs : Array Operand} {at_ : Array TypeId} {v : Value} (hv : ∀ w : World, (builtin b at_ ty (xs.map fun | .const _ => true | _ => false) (xs.map (ev e))).run P w = .ok (.value v) w) (h : K v w) :
    Run1 P ⟨d, .call ⟨.builtin b, xs, at_⟩, ty, pos, af, g⟩ e w K :=
  zE1 (w' := w) (v := v) (by simp only [execOp, resolve, invoke, Sem.run_bind, Sem.run_pure, Result.andThen_ok]; exact hv w) h
section
variable {at_ : Array TypeId} {b : Int} {xs : Array Operand}
theorem qI7 (hxs : xs = #[x, y]) (hx : ev e x = .int k a) (hy : ev e y = .int k' b) (h : K (.int k (if b < a then b else a)) w) : Run1 P ⟨d, .call ⟨.builtin .min, xs, at_⟩, ty, pos, af, g⟩ e w K := by
  subst hxs
  exact qJ7 (fun w => by
    have := run_min_int2 (P := P) w at_ ty k k' a b
    simp [builtin, hx, hy, this]) h
theorem qP1 (hxs : xs = #[x, y]) (hx : ev e x = .int k a) (hy : ev e y = .int k' b) (h : K (.int k (if b > a then b else a)) w) : Run1 P ⟨d, .call ⟨.builtin .max, xs, at_⟩, ty, pos, af, g⟩ e w K := by
  subst hxs
  exact qJ7 (fun w => by
    have := run_max_int2 (P := P) w at_ ty k k' a b
    simp [builtin, hx, hy, this]) h
theorem qU7 (hxs : xs = #[x, y]) (hx : ev e x = .int k a) (hy : ev e y = .int k' b) (hc : a ≤ b) (h : K (.int k a) w) : Run1 P ⟨d, .call ⟨.builtin .min, xs, at_⟩, ty, pos, af, g⟩ e w K :=
  qI7 hxs hx hy (by rw [if_neg (by omega)]; exact h)
theorem qU8 (hxs : xs = #[x, y]) (hx : ev e x = .int k a) (hy : ev e y = .int k' b) (hc : b ≤ a) (h : K (.int k b) w) : Run1 P ⟨d, .call ⟨.builtin .min, xs, at_⟩, ty, pos, af, g⟩ e w K :=
  qI7 hxs hx hy (by
    by_cases hlt : b < a
    · rw [if_pos hlt]; exact h
    · rw [if_neg hlt, show a = b from by omega]; exact h)
theorem yI4 (hxs : xs = #[x, y]) (hx : ev e x = .int k a) (hy : ev e y = .int k' b) (hc : b ≤ a) (h : K (.int k a) w) : Run1 P ⟨d, .call ⟨.builtin .max, xs, at_⟩, ty, pos, af, g⟩ e w K :=
  qP1 hxs hx hy (by rw [if_neg (by omega)]; exact h)
theorem yI5 (hxs : xs = #[x, y]) (hx : ev e x = .int k a) (hy : ev e y = .int k' b) (hc : a ≤ b) (h : K (.int k b) w) : Run1 P ⟨d, .call ⟨.builtin .max, xs, at_⟩, ty, pos, af, g⟩ e w K :=
  qP1 hxs hx hy (by
    by_cases hlt : b > a
    · rw [if_pos hlt]; exact h
    · rw [if_neg hlt, show a = b from by omega]; exact h)
end
end
inductive FK where
  | i (k : IntKind) | b
  deriving DecidableEq
def yI6 (P : Program) : List Field → Nat → Option (List FK)
  | [], _ => some []
  | f :: fs, n =>
    if f.name ≠ "_" && f.offset == n then
      match P.underlying f.type, tyS P f.type, yI6 P fs (n + 1) with
      | some (.int k), some (1, false), some r => some (.i k :: r)
      | some .bool, some (1, false), some r => some (.b :: r)
      | _, _, _ => none
    else none
def yV4 (P : Program) (t : TypeId) : Option (List FK) :=
  match P.underlying t with
  | some (.struct fs) => if P.stoodInHeld t || P.eqGuardType P.depth t then none else yI6 P fs.toList 0
  | _ => none
class FlatI (P : Program) (t : TypeId) (ks : outParam (List FK)) : Prop where
  h : yV4 P t = some ks
def zL8 : List FK → List Value → List Value → Option Bool
  | [], [], [] => some true
  | .i k :: ks, .int k1 a :: xs, .int k2 b :: ys => bif decide (k1 = k2) then (match zL8 ks xs ys with | some r => some (decide (a = b) && r) | none => none) else none
  | .b :: ks, .bool a :: xs, .bool b :: ys => match zL8 ks xs ys with | some r => some ((a == b) && r) | none => none
  | _, _, _ => none
theorem qA2 {P : Program} {t : TypeId} {n : Nat} {v : Value} {w : World} {xs : Array Value} (ht : tyS P t = some (1, false)) (hv : xs[n]? = some v) : (part t xs n).run P w = .ok v w := by
  unfold tyS at ht
  split at ht
  · rename_i i dd hi hu
    simp only [Option.some.injEq, Prod.mk.injEq] at ht
    have hagg : (isAgg t).run P w = .ok false w := by
      simp only [isAgg, underlying, program, Sem.run_bind, Sem.run, hu, Result.andThen_ok]
      cases dd <;> first | rfl | simp at ht
    simp [part, Sem.run_bind, hagg, hv]
  · cases ht
theorem qA3 {xs : Array Value} {n : Nat} {x : Value} {xr : List Value} (h : xs.toList.drop n = x :: xr) : xs[n]? = some x ∧ xs.toList.drop (n + 1) = xr := by
  have h1 : xs.toList[n]? = (xs.toList.drop n)[0]? := by simp
  rw [h] at h1
  refine ⟨by simpa using h1, ?_⟩
  rw [← List.drop_drop, h]; rfl
theorem zT2 {P : Program} {w : World} (d : Nat) (xs ys : Array Value) : ∀ (fs : List Field) (n : Nat) (ks : List FK) (r : Bool), yI6 P fs n = some ks →
    zL8 ks (xs.toList.drop n) (ys.toList.drop n) = some r → (Op.eqFields (d + 1) xs ys fs).run P w = .ok r w
  | [], n, ks, r, hf, he => by
    simp only [yI6, Option.some.injEq] at hf
    subst hf
    have : r = true := by
      cases hx : xs.toList.drop n <;> cases hy : ys.toList.drop n <;> simp only [hx, hy, zL8] at he <;> first | (cases he; rfl) | cases he
    subst this
    simp [Op.eqFields]
  | f :: fs, n, ks, r, hf, he => by
    unfold yI6 at hf
    split at hf
    · rename_i hn
      simp only [ne_eq, Bool.and_eq_true, decide_eq_true_eq, beq_iff_eq] at hn
      obtain ⟨hnm, ho⟩ := hn
      split at hf
      · rename_i k r' hu ht hr
        cases hf
        cases hx : xs.toList.drop n with
        | nil => rw [hx] at he; simp [zL8] at he
        | cons x xr =>
          cases hy : ys.toList.drop n with
          | nil => rw [hx, hy] at he; cases x <;> simp [zL8] at he
          | cons y yr =>
            rw [hx, hy] at he
            cases x <;> try (simp [zL8] at he; done)
            rename_i kx a
            cases y <;> try (simp [zL8] at he; done)
            rename_i ky b
            obtain ⟨hx0, hx1⟩ := qA3 hx
            obtain ⟨hy0, hy1⟩ := qA3 hy
            simp only [zL8] at he
            by_cases hkk : kx = ky
            case neg => simp [hkk] at he
            subst hkk
            simp only [decide_true, cond_true] at he
            split at he
            · rename_i r2 hr2
              cases he
              have ih := zT2 (P := P) (w := w) d xs ys fs (n + 1) _ r2 hr (by rw [hx1, hy1]; exact hr2)
              have hab : (a == b) = decide (a = b) := by by_cases h : a = b <;> simp [h]
              simp only [Op.eqFields, hnm, ne_eq, not_false_eq_true, if_true, Sem.run_bind, ho, qA2 ht hx0, qA2 ht hy0, Result.andThen_ok, run_equalIn_int w d f.type kx k a b hu, hab]
              by_cases h : a = b
              · simp [h, ih]
              · simp [h]
            · cases he
      · rename_i r' hu ht hr
        cases hf
        cases hx : xs.toList.drop n with
        | nil => rw [hx] at he; simp [zL8] at he
        | cons x xr =>
          cases hy : ys.toList.drop n with
          | nil => rw [hx, hy] at he; cases x <;> simp [zL8] at he
          | cons y yr =>
            rw [hx, hy] at he
            cases x <;> try (simp [zL8] at he; done)
            rename_i a
            cases y <;> try (simp [zL8] at he; done)
            rename_i b
            obtain ⟨hx0, hx1⟩ := qA3 hx
            obtain ⟨hy0, hy1⟩ := qA3 hy
            simp only [zL8] at he
            split at he
            · rename_i r2 hr2
              cases he
              have ih := zT2 (P := P) (w := w) d xs ys fs (n + 1) _ r2 hr (by rw [hx1, hy1]; exact hr2)
              simp only [Op.eqFields, hnm, ne_eq, not_false_eq_true, if_true, Sem.run_bind, ho, qA2 ht hx0, qA2 ht hy0, Result.andThen_ok, run_equalIn_bool' w d f.type a b hu]
              cases hab : (a == b)
              · simp
              · simp [ih]
            · cases he
      · cases hf
    · cases hf
section
variable {P : Program} {e : Env} {w : World} {K : Value → World → Prop} {d : Option Nat} {ty : TypeId} {pos : String} {af : Array Edge} {g : Option (Nat × Bool)} {t u : TypeId} {x y : Operand}
theorem qZ7 {ks : List FK} {xs ys : Array Value} {r : Bool} (hf : yV4 P t = some ks) (he : zL8 ks xs.toList ys.toList = some r) :
    P.eqGuardType P.depth t = false ∧ (Op.equalIn 10000 t (.agg xs) (.agg ys)).run P w = .ok r w := by
  unfold yV4 at hf
  split at hf
  · rename_i fs hu
    split at hf
    · cases hf
    · rename_i hs
      simp only [Bool.or_eq_true, not_or, Bool.not_eq_true] at hs
      refine ⟨hs.2, ?_⟩
      have hfo : P.fieldsOf t = fs := by simp [Program.fieldsOf, hu]
      rw [run_equalIn_struct w 9999 t xs ys (by rw [hfo]; exact hu) hs.1, hfo]
      exact zT2 9998 xs ys fs.toList 0 ks r hf (by simpa using he)
  · cases hf
theorem jA1 {ks : List FK} {xs ys : Array Value} {r : Bool} [hf : FlatI P t ks] (hx : ev e x = .agg xs) (hy : ev e y = .agg ys) (he : zL8 ks xs.toList ys.toList = some r) (h : K (.bool r) w) : Run1 P ⟨d, .binOp .eql t x y u, ty, pos, af, g⟩ e w K := by
  obtain ⟨hm, hr⟩ := qZ7 (w := w) hf.h he
  exact zE1 (w' := w) (by simp only [execOp, hx, hy, Sem.run_bind, run_eqGuard_agg w .eql t x y xs ys hm, run_eql_struct, hr, Result.andThen_ok, Sem.run_pure]) h
theorem qJ8 {ks : List FK} {xs ys : Array Value} {r : Bool} [hf : FlatI P t ks] (hx : ev e x = .agg xs) (hy : ev e y = .agg ys) (he : zL8 ks xs.toList ys.toList = some r) (h : K (.bool (!r)) w) : Run1 P ⟨d, .binOp .neq t x y u, ty, pos, af, g⟩ e w K := by
  obtain ⟨hm, hr⟩ := qZ7 (w := w) hf.h he
  exact zE1 (w' := w) (by simp only [execOp, hx, hy, Sem.run_bind, run_eqGuard_agg w .neq t x y xs ys hm, run_neq_struct, hr, Result.andThen_ok, Sem.run_pure]) h
theorem r_eqlS' {ks : List FK} {xs ys : Array Value} {r r' : Bool} [hf : FlatI P t ks] (hx : ev e x = .agg xs) (hy : ev e y = .agg ys) (he : zL8 ks xs.toList ys.toList = some r) (hr : r = r') (h : K (.bool r') w) : Run1 P ⟨d, .binOp .eql t x y u, ty, pos, af, g⟩ e w K :=
  jA1 hx hy he (by rw [hr]; exact h)
end
/-! ### what a loop's head knows of its frame -/
def frs : List (Nat × Value) → Env → Env
  | [], e => e
  | (d, v) :: l, e => Env.set (frs l e) d v
def FrOk (e : Env) : List (Nat × Value) → Prop
  | [] => True
  | (d, v) :: l => e d = v ∧ FrOk e l
def FrM (ms : List Deferred) (ro : Option Nat) (l : List (Nat × Value)) (e : Env) : Prop := ∃ g : Nat → Value, e = frs l ⟨g, ms, ro⟩
abbrev Fr := FrM [] none
theorem zC6 {ms : List Deferred} {ro : Option Nat} {l : List (Nat × Value)} {e : Env} (h : FrOk e l) (hm : e.ms = ms := by rfl) (hr : e.ro = ro := by rfl) : FrM ms ro l e := by
  refine ⟨e.get, ?_⟩
  subst hm; subst hr
  show e = frs l e
  induction l with
  | nil => rfl
  | cons p l ih =>
    obtain ⟨d, v⟩ := p
    obtain ⟨h1, h2⟩ := h
    have := ih h2
    simp only [frs]
    rw [← this]
    refine Env.ext' (fun i => ?_) rfl rfl
    by_cases hi : i = d
    · subst hi; rw [zP8]; exact h1
    · rw [zR5 _ _ hi]
structure RowAt (w : World) (sz : Nat) (ad : Option Addr) (n : Nat) (xs : List Value) : Prop where
  len : xs.length = n * sz
  lim : n ≤ 140737488355328
  at_ : 0 < n → ∃ b o cs T fr, ad = some ⟨b, o, none⟩ ∧ w.heap[b]? = some (.cells cs T fr) ∧ (cs.toList.drop o).take (n * sz) = xs
def Row (w : World) (sz : Nat) (v : Value) (n : Nat) (xs : List Value) : Prop := ∃ ad c, v = .slice ad n c ∧ n ≤ c ∧ c ≤ maxLen ∧ RowAt w sz ad n xs
theorem RowAt.keep {w w' : World} {sz : Nat} {ad : Option Addr} {n : Nat} {xs : List Value} (h : RowAt w sz ad n xs) (g : ∀ a cs T fr, ad = some a → w.heap[a.block]? = some (.cells cs T fr) → w'.heap[a.block]? = some (.cells cs T fr)) : RowAt w' sz ad n xs :=
  ⟨h.len, h.lim, fun hn => by
    obtain ⟨b, o, cs, T, fr, rfl, hb, hx⟩ := h.at_ hn
    exact ⟨b, o, cs, T, fr, rfl, g _ _ _ _ rfl hb, hx⟩⟩
theorem RowAt.grow {w w' : World} {sz : Nat} {ad : Option Addr} {n : Nat} {xs : List Value} (h : RowAt w sz ad n xs) (g : Grow w w') : RowAt w' sz ad n xs := h.keep fun _ _ _ _ _ hb => g.heap hb
theorem Row.grow {w w' : World} {sz : Nat} {v : Value} {n : Nat} {xs : List Value} (h : Row w sz v n xs) (g : Grow w w') : Row w' sz v n xs := by
  obtain ⟨ad, c, h1, h2, h3, h4⟩ := h
  exact ⟨ad, c, h1, h2, h3, h4.grow g⟩
theorem Row.nil (w : World) (sz : Nat) : Row w sz (.slice none 0 0) 0 [] := ⟨none, 0, rfl, Nat.le_refl _, Nat.zero_le _, by simp, by omega, fun h => by omega⟩
theorem Row.of_block {w : World} {sz b n : Nat} {cs : Array Value} {T : TypeId} {fr : Nat × Nat} {xs : List Value} (hb : w.heap[b]? = some (.cells cs T fr)) (hc : cs.toList = xs) (hn : xs.length = n * sz) (hl : n ≤ 140737488355328) : Row w sz (.slice (some ⟨b, 0, none⟩) n n) n xs :=
  ⟨_, n, rfl, Nat.le_refl _, by simp only [maxLen]; omega, hn, hl, fun _ => ⟨b, 0, cs, T, fr, rfl, hb, by rw [List.drop_zero, hc, ← hn, List.take_length]⟩⟩
theorem Row.of_own {w : World} {sz base n : Nat} {T : TypeId} {v : Value} {xs : List Value} (h : w.ownsRow base T sz v n xs) (hl : n ≤ 140737488355328) : Row w sz v n xs := by
  obtain ⟨h1, h2⟩ := h
  rcases h2 with ⟨rfl, rfl⟩ | ⟨g, cap, cur, rfl, _, hg, hnc, hcm, hcs, ht⟩
  · have : xs = [] := List.eq_nil_of_length_eq_zero (by simpa using h1)
    subst this
    exact Row.nil _ _
  · exact ⟨_, cap, rfl, hnc, hcm, h1, hl, fun _ => ⟨g, 0, cur, T, (0, 0), rfl, hg, by rw [List.drop_zero]; exact ht⟩⟩
theorem zQ4 {cs : Array Value} {o m i : Nat} {xs : List Value} {x : Value} (h : (cs.toList.drop o).take m = xs) (hi : xs[i]? = some x) : cs[o + i]? = some x := by
  rw [← h, List.getElem?_take] at hi
  split at hi
  · rw [List.getElem?_drop] at hi; simpa using hi
  · cases hi
theorem yP1 {cs : Array Value} {o m : Nat} {xs : List Value} (h : (cs.toList.drop o).take m = xs) (hl : xs.length = m) (hm : 0 < m) : o + m ≤ cs.size := by
  have := congrArg List.length h
  simp at this
  omega
theorem qZ8 {cs : Array Value} {o m i k : Nat} {xs : List Value} (h : (cs.toList.drop o).take m = xs) (hk : i + k ≤ m) : (cs.toList.drop (o + i)).take k = (xs.drop i).take k := by
  rw [← h, List.drop_take, List.take_take, List.drop_drop, show min k (m - i) = k from by omega]
theorem RowAt.part {w : World} {sz n : Nat} {ad : Option Addr} {xs : List Value} (h : RowAt w sz ad n xs) (l k : Nat) (hk : l + k ≤ n) (hsz : 0 < sz) : RowAt w sz (ad.map (·.add (l * sz))) k ((xs.drop (l * sz)).take (k * sz)) := by
  have h3 : (l + k) * sz ≤ n * sz := Nat.mul_le_mul_right _ hk
  rw [Nat.add_mul] at h3
  refine ⟨by rw [List.length_take, List.length_drop, h.len]; omega, by have := h.lim; omega, fun hp => ?_⟩
  obtain ⟨b, o, cs, T, fr, rfl, hb, hx⟩ := h.at_ (by omega)
  refine ⟨b, o + l * sz, cs, T, fr, by simp [add_lit], hb, ?_⟩
  exact qZ8 hx h3
theorem RowAt.empty (w : World) (sz : Nat) (ad : Option Addr) : RowAt w sz ad 0 [] := ⟨by simp, by omega, fun h => by omega⟩
theorem RowAt.sliceH {w : World} {sz n c m : Nat} {ad : Option Addr} {xs : List Value} (h : RowAt w sz ad n xs) (hc : n ≤ c) (hm : m ≤ n) (hsz : 0 < sz) : RowAt w sz (if c = 0 then ad else ad.map (·.add (0 * sz))) m (xs.take (m * sz)) := by
  split
  · have : m = 0 := by omega
    subst this
    rw [Nat.zero_mul, List.take_zero]
    exact RowAt.empty _ _ _
  · have := h.part 0 m (by omega) hsz
    simpa using this
theorem RowAt.sliceLH {w : World} {sz n c l m : Nat} {ad : Option Addr} {xs : List Value} (h : RowAt w sz ad n xs) (hc : n ≤ c) (hm : l + m ≤ n) (hsz : 0 < sz) : RowAt w sz (if c = l then ad else ad.map (·.add (l * sz))) m ((xs.drop (l * sz)).take (m * sz)) := by
  split
  · have : m = 0 := by omega
    subst this
    rw [Nat.zero_mul, List.take_zero]
    exact RowAt.empty _ _ _
  · exact h.part l m hm hsz
/-! ### trees -/
inductive Nd where
  | mk (kind size : Int) (words bytes : List Int) (kids : List Nd)
def Nd.kind : Nd → Int | .mk k _ _ _ _ => k
def Nd.words : Nd → List Int | .mk _ _ w _ _ => w
def Nd.bytes : Nd → List Int | .mk _ _ _ b _ => b
def Nd.kids : Nd → List Nd | .mk _ _ _ _ k => k
mutual
inductive NodeR (w : World) : List Value → Nd → Prop
  | mk {kind size : Int} {words bytes : List Int} {kids : List Nd} {ws bs ks : Value} {kc : List Value} : inR .i64 kind → inR .i64 size →
      Row w 1 ws words.length (words.map (.int .u64)) → (∀ x ∈ words, inR .u64 x) → Row w 1 bs bytes.length (bytes.map (.int .u8)) → (∀ x ∈ bytes, inR .u8 x) →
      Row w 5 ks kids.length kc → KidsR w kc kids → NodeR w [.int .i64 kind, .int .i64 size, ws, bs, ks] (.mk kind size words bytes kids)
inductive KidsR (w : World) : List Value → List Nd → Prop
  | nil : KidsR w [] []
  | cons {c cs : List Value} {t : Nd} {ts : List Nd} : NodeR w c t → KidsR w cs ts → KidsR w (c ++ cs) (t :: ts)
end
mutual
theorem NodeR.grow {w w' : World} (g : Grow w w') : ∀ {c : List Value} {t : Nd}, NodeR w c t → NodeR w' c t
  | _, _, .mk h1 h2 h3 h4 h5 h6 h7 h8 => .mk h1 h2 (h3.grow g) h4 (h5.grow g) h6 (h7.grow g) (KidsR.grow g h8)
theorem KidsR.grow {w w' : World} (g : Grow w w') : ∀ {c : List Value} {t : List Nd}, KidsR w c t → KidsR w' c t
  | _, _, .nil => .nil
  | _, _, .cons h1 h2 => .cons (NodeR.grow g h1) (KidsR.grow g h2)
end
theorem NodeR.len {w : World} {c : List Value} {t : Nd} (h : NodeR w c t) : c.length = 5 := by cases h; rfl
theorem KidsR.at_ {w : World} : ∀ {c : List Value} {ts : List Nd} (i : Nat) (t : Nd), KidsR w c ts → ts[i]? = some t → NodeR w ((c.drop (i * 5)).take 5) t
  | _, _, i, t, .nil, h => by simp at h
  | _, _, 0, t, .cons (c := c) (cs := cs) h1 h2, h => by
    simp only [List.getElem?_cons_zero, Option.some.injEq] at h
    subst h
    rw [Nat.zero_mul, List.drop_zero, List.take_left' h1.len]
    exact h1
  | _, _, i + 1, t, .cons (c := c) (cs := cs) h1 h2, h => by
    have := KidsR.at_ i t h2 (by simpa using h)
    rw [show (i + 1) * 5 = c.length + i * 5 from by rw [h1.len]; omega, ← List.drop_drop, List.drop_left]
    exact this
theorem KidsR.append {w : World} : ∀ {c d : List Value} {ts us : List Nd}, KidsR w c ts → KidsR w d us → KidsR w (c ++ d) (ts ++ us)
  | _, _, _, _, .nil, k => k
  | _, _, _, _, .cons h1 h2, k => by rw [List.append_assoc]; exact .cons h1 (KidsR.append h2 k)
/-! ### what is kept while own blocks change -/
structure Kp (F : List Nat) (w w' : World) : Prop where
  os : w'.os = w.os
  tape : w'.tape = w.tape
  output : w'.output = w.output
  size : w.heap.size ≤ w'.heap.size
  block : ∀ k, k < w.heap.size → k ∉ F → w'.heap[k]? = w.heap[k]?
theorem Kp.refl (F : List Nat) (w : World) : Kp F w w := ⟨rfl, rfl, rfl, Nat.le_refl _, fun _ _ _ => rfl⟩
theorem Kp.of_grow {F : List Nat} {w w' : World} (g : Grow w w') : Kp F w w' := ⟨g.os, g.tape, g.output, g.size, fun k hk _ => g.block k hk⟩
theorem Kp.of_upd {F : List Nat} {b : Nat} {w w' : World} (u : Upd b w w') (hb : b ∈ F) : Kp F w w' := ⟨u.os, u.tape, u.output, by rw [u.size]; exact Nat.le_refl _, fun k _ hk => u.other k (fun h => hk (h ▸ hb))⟩
theorem Kp.trans {F F' : List Nat} {a b c : World} (h : Kp F a b) (k : Kp F' b c) (hF : ∀ x ∈ F', x ∈ F ∨ a.heap.size ≤ x) : Kp F a c :=
  ⟨k.os.trans h.os, k.tape.trans h.tape, k.output.trans h.output, Nat.le_trans h.size k.size, fun i hi hn => by
    rw [k.block i (Nat.lt_of_lt_of_le hi h.size) (fun hm => (hF i hm).elim hn (by omega)), h.block i hi hn]⟩
theorem Kp.heap {F : List Nat} {w w' : World} (h : Kp F w w') {b : Nat} {o : Obj} (hb : w.heap[b]? = some o) (hn : b ∉ F) : w'.heap[b]? = some o := by
  rw [h.block b (zC1 hb) hn]; exact hb
theorem Kp.below {F : List Nat} {w w' : World} (h : Kp F w w') {a : Nat} (ha : ∀ x ∈ F, a ≤ x) (hw : a ≤ w.heap.size) : Below a w w' :=
  ⟨h.os, h.tape, h.output, h.size, fun k hk => h.block k (by omega) (fun hm => by have := ha k hm; omega)⟩
theorem Kp.grow {w w' : World} (h : Kp [] w w') : Grow w w' := ⟨h.os, h.tape, h.output, h.size, fun k hk => h.block k hk (by simp)⟩
theorem Kp.of_grownBy {F : List Nat} {row : Option Nat} {w w' : World} (h : w.grownBy w' row) (hr : ∀ k, row = some k → k ∈ F) : Kp F w w' :=
  ⟨h.os, h.tape, h.output, h.size, fun k hk hn => h.block k hk (fun e => hn (hr k e.symm))⟩
section
variable {P : Program} {ops : Array Oper} {Q : Ex → Env → World → Prop} {e : Env} {w : World} {K : Value → World → Prop} {r : List Oper}
variable {d : Option Nat} {ty : TypeId} {pos : String} {af : Array Edge} {g : Option (Nat × Bool)}
variable {t u : TypeId} {x y : Operand} {k k' : IntKind} {a c : Int}
theorem qA4 {el : TypeId} {sz : Nat} (hu : elS P t = some (el, sz)) : P.underlying t = some (.slice (P.elem t)) ∧ ∃ inf, P.info? (P.elem t) = some inf ∧ inf.size = sz := by
  unfold elS at hu
  split at hu
  · rename_i el' hul
    split at hu
    · rename_i inf hi'
      simp only [Option.some.injEq, Prod.mk.injEq] at hu
      obtain ⟨rfl, rfl⟩ := hu
      have he : P.elem t = el' := by simp [Program.elem, hul]
      exact ⟨by rw [he]; exact hul, inf, by rw [he]; exact hi', rfl⟩
    · cases hu
  · cases hu
theorem yI7 {n cap : Nat} {ad : Option Addr} {el : TypeId} {sz : Nat} [hui : ElI P t el sz] {lo hi : Operand} {l h : Int} (hx : ev e x = .slice ad n cap) (hl : ev e lo = .int k l) (hh : ev e hi = .int k' h) (h0 : 0 ≤ l) (h1 : l ≤ h) (h2 : h ≤ cap)
    (hK : K (.slice (if cap = l.toNat then ad else ad.map (·.add (l.toNat * sz))) (h.toNat - l.toNat) (cap - l.toNat)) w) : Run1 P ⟨d, .slice t x (some lo) (some hi) none, ty, pos, af, g⟩ e w K := by
  obtain ⟨hu, inf, hi', rfl⟩ := qA4 hui.h
  refine zE1 (w' := w) ?_ hK
  simp only [execOp, Option.map_some, Option.map_none, hx, hl, hh, Sem.run_bind, run_sliceAt_slice w t _ _ _ _ hu, run_slice_lh w t ad n cap hu k k' l h h0 h1 h2, sizeOf, typeInfo, program, Sem.run, hi', Sem.run_pure, Result.andThen_ok, sliced]
theorem qF3 {n cap : Nat} {ad : Option Addr} {el : TypeId} {sz : Nat} [hui : ElI P t el sz] {hi : Operand} {h : Int} (hx : ev e x = .slice ad n cap) (hh : ev e hi = .int k' h) (h0 : 0 ≤ h) (h2 : h ≤ cap)
    (hK : K (.slice (if cap = 0 then ad else ad.map (·.add (0 * sz))) h.toNat cap) w) : Run1 P ⟨d, .slice t x none (some hi) none, ty, pos, af, g⟩ e w K := by
  obtain ⟨hu, inf, hi', rfl⟩ := qA4 hui.h
  refine zE1 (w' := w) ?_ hK
  simp only [execOp, Option.map_some, Option.map_none, hx, hh, Sem.run_bind, run_sliceAt_slice w t _ _ _ _ hu, run_slice_h w t ad n cap hu k' h h0 h2, sizeOf, typeInfo, program, Sem.run, hi', Sem.run_pure, Result.andThen_ok, sliced, Nat.sub_zero]
theorem qZ9 {n cap : Nat} {ad : Option Addr} {el : TypeId} {sz : Nat} [hui : ElI P t el sz] {lo : Operand} {l : Int} (hx : ev e x = .slice ad n cap) (hl : ev e lo = .int k l) (h0 : 0 ≤ l) (h1 : l ≤ n)
    (hK : K (.slice (if cap = l.toNat then ad else ad.map (·.add (l.toNat * sz))) (n - l.toNat) (cap - l.toNat)) w) : Run1 P ⟨d, .slice t x (some lo) none none, ty, pos, af, g⟩ e w K := by
  obtain ⟨hu, inf, hi', rfl⟩ := qA4 hui.h
  refine zE1 (w' := w) ?_ hK
  simp only [execOp, Option.map_some, Option.map_none, hx, hl, Sem.run_bind, run_sliceAt_slice w t _ _ _ _ hu, run_slice_l w t ad n cap hu k l h0 h1, sizeOf, typeInfo, program, Sem.run, hi', Sem.run_pure, Result.andThen_ok, sliced]
end
def elzS (P : Program) (t : TypeId) : Option (TypeId × Nat × Nat × Value) :=
  match P.underlying t with
  | some (.slice el) => (match P.info? el with
    | some i => (match i.zero with | some z => if z.cells.size = i.size ∧ 0 < i.size then some (el, i.size, i.bytes, z) else none | none => none)
    | none => none)
  | _ => none
class ElzI (P : Program) (t : TypeId) (el : outParam TypeId) (sz : outParam Nat) (by_ : outParam Nat) (z : outParam Value) : Prop where
  h : elzS P t = some (el, sz, by_, z)
theorem qJ9 {P : Program} {t el : TypeId} {sz by_ : Nat} {z : Value} (h : elzS P t = some (el, sz, by_, z)) :
    P.underlying t = some (.slice el) ∧ ∃ i, P.info? el = some i ∧ i.zero = some z ∧ i.size = sz ∧ i.bytes = by_ ∧ z.cells.size = sz ∧ 0 < sz := by
  unfold elzS at h
  split at h
  · rename_i el' hul
    split at h
    · rename_i i hi
      split at h
      · rename_i z' hz
        split at h
        · rename_i hc
          simp only [Option.some.injEq, Prod.mk.injEq] at h
          obtain ⟨rfl, rfl, rfl, rfl⟩ := h
          exact ⟨hul, i, hi, hz, rfl, rfl, hc.1, hc.2⟩
        · cases h
      · cases h
    · cases h
  · cases h
section
variable {P : Program} {ops : Array Oper} {Q : Ex → Env → World → Prop} {e : Env} {w : World} {K : Value → World → Prop} {r : List Oper}
variable {d : Option Nat} {ty : TypeId} {pos : String} {af : Array Edge} {g : Option (Nat × Bool)}
variable {t u : TypeId} {x y : Operand} {k k' : IntKind} {a c : Int}
theorem zG1 {xs_ : Array Operand} {at_ : Array TypeId} (hxs : xs_ = #[x, y]) (hat : at_ = #[t, t]) {base n m : Nat} {el : TypeId} {sz by_ : Nat} {z v u : Value} {xs ys : List Value} [hz : ElzI P t el sz by_ z] (hx : ev e x = v) (hy : ev e y = u)
    (hown : w.ownsRow base el sz v n xs) (hr : Row w sz u m ys) (h1 : ∀ q ∈ ys, q.oneCell' = true) (hl : n + m ≤ maxLen) (hby : (n + m) * by_ ≤ 140737488355328) (hbase : base ≤ w.heap.size)
    (h : ∀ v' w', w'.ownsRow base el sz v' (n + m) (xs ++ ys) → w.grownBy w' v.ownBlock → K v' w') : Run1 P ⟨d, .call ⟨.builtin .append, xs_, at_⟩, ty, pos, af, g⟩ e w K := by
  subst hxs; subst hat
  obtain ⟨hu, i, hi, hzz, hsz, hbb, hzs, hpos⟩ := qJ9 hz.h
  obtain ⟨ad, cp, rfl, hmc, _, hra⟩ := hr
  have go : ∀ v' w', (Builtin.append_ #[t, t] ty #[v, .slice ad m cp]).run P w = .ok v' w' → w'.ownsRow base el sz v' (n + m) (xs ++ ys) → w.grownBy w' v.ownBlock → Run1 P ⟨d, .call ⟨.builtin .append, #[x, y], #[t, t]⟩, ty, pos, af, g⟩ e w K := by
    intro v' w' hrun ho hg
    refine zE1 (v := v') (w' := w') ?_ (h v' w' ho hg)
    simp only [execOp, resolve, invoke, builtin, Sem.run_bind, Sem.run_pure, Result.andThen_ok, List.map_toArray, List.map_cons, List.map_nil, hx, hy, hrun]
  rcases Nat.eq_zero_or_pos m with hm | hm
  · subst hm
    have hys : ys = [] := List.eq_nil_of_length_eq_zero (by simpa using hra.len)
    subst hys
    cases ad with
    | none =>
      have hrun : (Builtin.append_ #[t, t] ty #[v, .slice none 0 cp]).run P w = .ok v w := by
        rcases hown.2 with ⟨rfl, rfl⟩ | ⟨gg, cap, cur, rfl, _, _, hnc, _⟩
        · simp [Builtin.append_, run_underlying hu, sizeOf, typeInfo, hi, Builtin.lenOf, Builtin.firstCells]
        · simp [Builtin.append_, run_underlying hu, sizeOf, typeInfo, hi, Builtin.lenOf, Builtin.firstCells, hnc, storeCells]
      exact go _ _ hrun (by simpa using hown) ⟨rfl, rfl, rfl, Nat.le_refl _, fun _ _ _ => rfl⟩
    | some ad =>
      obtain ⟨v', w', hrun, ho, hg, _⟩ := run_append_own (P := P) w base t ty el i z sz by_ hu hi hzz hsz hbb hzs hpos v n xs hown ad 0 cp [] (by simp) (fun j u hj => by simp at hj) (by simp) hl hby hbase
      exact go _ _ hrun ho hg
  · obtain ⟨b, o, cs, T, fr, rfl, hb, hrow⟩ := hra.at_ hm
    obtain ⟨v', w', hrun, ho, hg, _⟩ := run_append_own (P := P) w base t ty el i z sz by_ hu hi hzz hsz hbb hzs hpos v n xs hown ⟨b, o, none⟩ m cp ys hra.len (fun j u hj => by
      rw [add_lit, cell_of_row w b (o + j) cs T fr hb]
      exact zQ4 hrow hj) h1 hl hby hbase
    exact go _ _ hrun ho hg
theorem jA2 {base : Nat} {n : Nat} {el : TypeId} {sz by_ : Nat} {z : Value} [hz : ElzI P t el sz by_ z] (hx : ev e x = .int k n) (hy : ev e y = .int k' n) (hby : by_ * n ≤ 281474976710656) (hl : n ≤ maxLen) (hbase : base ≤ w.heap.size)
    (h : ∀ b w', w.heap.size ≤ b → w'.ownsRow base el sz (.slice (some ⟨b, 0, none⟩) n n) n (madeCells z.cells (n * sz)).toList → Grow w w' → K (.slice (some ⟨b, 0, none⟩) n n) w') : Run1 P ⟨d, .makeSlice t x y, ty, pos, af, g⟩ e w K := by
  obtain ⟨hu, i, hi, hzz, hsz, hbb, hzs, hpos⟩ := qJ9 hz.h
  obtain ⟨w', hrun, ho, hg⟩ := run_make_full (P := P) w base t el i z sz hu hi hzz hsz k k' n (by rw [hbb]; exact hby) hl hbase
  refine zE1 (v := .slice (some ⟨w.heap.size, 0, none⟩) n n) (w' := w') ?_ (h _ w' (Nat.le_refl _) ho ⟨hg.os, hg.tape, hg.output, hg.size, fun q hq => hg.block q hq (by simp)⟩)
  simp only [execOp, hx, hy, Sem.run_bind, hrun, Result.andThen_ok, Sem.run_pure]
/-! ### a cut: what comes behind so many parts knows only so much -/
theorem qK0 {n : Nat} {c1 c : Code} (M : Env → World → Prop) (h1 : W P n c1 (qthen M Q) e w) (h2 : ∀ e w, M e w → W P n c Q e w) : W P n (.seq c1 c) Q e w :=
  qE9 (W.mono (fun x e w h => by cases x <;> first | exact h2 _ _ h | exact h) h1)
theorem jA3 {n : Nat} {c1 c2 c : Code} (M : Env → World → Prop) (h1 : W P n c1 (qthen (W P n c2 (qthen M Q)) Q) e w) (h2 : ∀ e w, M e w → W P n c Q e w) : W P n (.seq c1 (.seq c2 c)) Q e w :=
  qE9 (W.mono (fun x e w h => by cases x <;> first | exact qK0 M h h2 | exact h) h1)
end
theorem qA5 (z : Value) (m : Nat) : (Builtin.zeroCells #[z] m).toList = List.replicate m z := by
  apply List.ext_getElem?
  intro j
  by_cases hj : j < m
  · simp [Builtin.zeroCells, hj, Nat.mod_one]
  · simp [Builtin.zeroCells, hj]
section
variable {P : Program} (w : World)
theorem qP2 (base : Nat) (t ti ty e : TypeId) (i : TypeInfo) (z : Value) (by_ : Nat) (ki : IntKind) (ht : P.underlying t = some (.slice e)) (hti : P.underlying ti = some (.int ki)) (hi : P.info? e = some i) (hz : i.zero = some z) (hzc : z.cells = #[z]) (hs1 : i.size = 1) (hby : i.bytes = by_)
    (h1 : z.oneCell' = true) (v : Value) (n : Nat) (xs : List Value) (hown : w.ownsRow base e 1 v n xs) (m : Nat) (hnm : n + m ≤ 140737488355328) (hmb : (n + m) * by_ ≤ 140737488355328) (hbase : base ≤ w.heap.size) :
    ∃ v' w', (Builtin.append_ #[t, ti] ty #[v, .int .i64 m]).run P w = .ok v' w' ∧ w'.ownsRow base e 1 v' (n + m) (xs ++ List.replicate m z) ∧ w.grownBy w' v.ownBlock := by
  subst hby
  have hmm : m * i.bytes ≤ 140737488355328 := Nat.le_trans (Nat.mul_le_mul_right _ (by omega)) hmb
  have hw : IntKind.i64.wrap (m : Int) = m := by rw [IntKind.wrap_i64]; omega
  have n1 : ¬ ((m : Int) < 0) := by omega
  have n2 : ¬ (281474976710656 < (m : Int) * (i.bytes : Int)) := by
    have : ((m * i.bytes : Nat) : Int) ≤ 140737488355328 := by omega
    rw [Int.natCast_mul] at this; omega
  have n4 : ¬ (9223372036854775807 < ((n : Int) + (m : Int))) := by omega
  have hlen : (xs ++ List.replicate m z).length = n + m := by rw [List.length_append, hown.1, List.length_replicate, Nat.mul_one]
  have grown : ∀ (old : Nat), old < n + m → ∀ (row : Option Nat),
      (w.drew.alloc (.cells (xs.toArray ++ (List.replicate m z).toArray ++ Builtin.zeroCells #[z] (grownCap w (n + m) old e - (n + m))) e)).ownsRow base e 1
        (.slice (some ⟨w.heap.size, 0, none⟩) (n + m) (grownCap w (n + m) old e)) (n + m) (xs ++ List.replicate m z) ∧
      w.grownBy (w.drew.alloc (.cells (xs.toArray ++ (List.replicate m z).toArray ++ Builtin.zeroCells #[z] (grownCap w (n + m) old e - (n + m))) e)) row := by
    intro old ho row
    have hge := grownCap_ge w (n + m) old e
    have hcm : grownCap w (n + m) old e ≤ maxLen := grownCap_le_maxLen w (n + m) old e (by simp only [maxLen]; omega)
    refine ⟨⟨by rw [hlen, Nat.mul_one], .inr ⟨w.heap.size, _, _, rfl, hbase, heap_alloc_new w.drew _, hge, hcm, ?_, ?_⟩⟩, ⟨rfl, rfl, rfl, by simp, fun k hk _ => Below.heap_alloc w.drew _ k hk⟩⟩
    · have hz2 : (Builtin.zeroCells #[z] (grownCap w (n + m) old e - (n + m))).size = grownCap w (n + m) old e - (n + m) := by rw [← Array.length_toList, qA5, List.length_replicate]
      simp only [Array.size_append, List.size_toArray, hz2, hown.1, List.length_replicate]
      omega
    · simp only [Array.toList_append, List.append_assoc]
      rw [← List.append_assoc, Nat.mul_one, ← hlen]
      exact List.take_left
  rcases hown.2 with ⟨rfl, rfl⟩ | ⟨g, cap, cur, rfl, hbg, hg, hnc, hcm, hcs, htake⟩
  · have hx : xs = [] := List.eq_nil_of_length_eq_zero (by simpa using hown.1)
    subst hx
    by_cases hm : m = 0
    · subst hm
      refine ⟨.slice none 0 0, w, ?_, World.ownsRow_nil w base e 1, ⟨rfl, rfl, rfl, Nat.le_refl _, fun _ _ _ => rfl⟩⟩
      simp [Builtin.append_, run_underlying ht, run_underlying hti, sizeOf, typeInfo, hi, asInt, asIntOf, IntKind.wrap_i64]
    · have hgr := grown 0 (by omega) (Value.ownBlock (.slice none 0 0))
      have h48' : ¬ (281474976710656 < Builtin.nextslicecap m 0 * i.bytes) := by rw [nextslicecap_zero (by omega)]; omega
      simp only [Nat.zero_add, List.nil_append] at hgr n4 ⊢
      refine ⟨_, _, ?_, hgr.1, hgr.2⟩
      have n5 : ¬ (9223372036854775807 < (m : Int)) := by omega
      simp [Builtin.append_, run_underlying ht, run_underlying hti, sizeOf, typeInfo, zeroValue, hi, hz, hzc, hs1, asInt, asIntOf, hw, n1, n2, hm, n5, h48', Question.forced, run_firstCells_none, newRow, grownCap]
      congr 3
      apply Array.ext'
      simp [qA5]
  · by_cases hroom : n + m ≤ cap
    · have hst := run_storeCells_at P g n e (List.replicate m z) 0 cur w hg (by simp; omega) (fun v hv => by rw [(List.mem_replicate.1 hv).2]; exact h1)
      simp only [Nat.add_zero] at hst
      refine ⟨.slice (some ⟨g, 0, none⟩) (n + m) cap, w.setRow g (cur.toList.take n ++ List.replicate m z ++ cur.toList.drop (n + (List.replicate m z).length)).toArray, ?_, ⟨by rw [hlen, Nat.mul_one], .inr ⟨g, cap, _, rfl, hbg, setRow_heap w g cur _ e _ hg, hroom, hcm, ?_, ?_⟩⟩, ⟨rfl, rfl, rfl, by simp, fun k _ hk => setRow_other w g k _ (fun e => hk (by simp [Value.ownBlock, e]))⟩⟩
      · by_cases hm : m = 0
        · subst hm
          have hcur : (cur.toList.take n ++ List.replicate 0 z ++ cur.toList.drop (n + (List.replicate 0 z).length)).toArray = cur := by
            apply Array.ext'
            simp
          rw [hcur, setRow_self w g cur e (0, 0) hg]
          simp [Builtin.append_, run_underlying ht, run_underlying hti, sizeOf, typeInfo, hi, hs1, asInt, asIntOf, IntKind.wrap_i64, hnc, storeCells]
        · simp [Builtin.append_, run_underlying ht, run_underlying hti, sizeOf, typeInfo, zeroValue, hi, hz, hzc, hs1, asInt, asIntOf, hw, n1, n2, hm, hroom, Addr.add_lit, qA5, hst]
      · simp only [List.size_toArray, List.length_append, List.length_take, List.length_drop, Array.length_toList, List.length_replicate]
        omega
      · rw [Nat.mul_one] at htake
        rw [htake, Nat.mul_one, ← hlen]
        exact List.take_left
    · have holds : ∀ j u, xs[j]? = some u → w.cell? ((⟨g, 0, none⟩ : Addr).add j) = some u := hown.cells (g := g) rfl
      have hgr := grown cap (by omega) (Value.ownBlock (.slice (some ⟨g, 0, none⟩) n cap))
      have h48' : ¬ (281474976710656 < Builtin.nextslicecap (n + m) cap * i.bytes) := by have := growslice_fits (old := cap) (by omega) hmb; omega
      have hfo := run_firstCells_some (P := P) w.drew 1 n ⟨g, 0, none⟩ n cap xs hown.1 (by simpa using holds)
      refine ⟨_, _, ?_, hgr.1, hgr.2⟩
      have hm : ¬ m = 0 := by omega
      simp [Builtin.append_, run_underlying ht, run_underlying hti, sizeOf, typeInfo, zeroValue, hi, hz, hzc, hs1, asInt, asIntOf, hw, n1, n2, hm, n4, h48', hroom, Question.forced, hfo, newRow, grownCap]
      congr 3
      apply Array.ext'
      simp [qA5]
end
section
variable {P : Program} {ops : Array Oper} {e : Env} {w : World} {K : Value → World → Prop}
variable {d : Option Nat} {ty : TypeId} {pos : String} {af : Array Edge} {g : Option (Nat × Bool)}
variable {t u : TypeId} {x y : Operand} {k : IntKind}
theorem yI8 {xs_ : Array Operand} {at_ : Array TypeId} {ti : TypeId} (hxs : xs_ = #[x, y]) (hat : at_ = #[t, ti]) {base n m : Nat} {el : TypeId} {by_ : Nat} {z v : Value} {xs : List Value} [hz : ElzI P t el 1 by_ z] [hu : IntI P ti k] (hx : ev e x = v) (hy : ev e y = .int .i64 m) (hzc : z.cells = #[z]) (h1 : z.oneCell' = true)
    (hown : w.ownsRow base el 1 v n xs) (hl : n + m ≤ 140737488355328) (hby : (n + m) * by_ ≤ 140737488355328) (hbase : base ≤ w.heap.size)
    (h : ∀ v' w', w'.ownsRow base el 1 v' (n + m) (xs ++ List.replicate m z) → w.grownBy w' v.ownBlock → K v' w') : Run1 P ⟨d, .call ⟨.builtin .append, xs_, at_⟩, ty, pos, af, g⟩ e w K := by
  subst hxs; subst hat
  obtain ⟨hul, i, hi, hzz, hsz, hbb, hzs, hpos⟩ := qJ9 hz.h
  obtain ⟨v', w', hrun, ho, hg⟩ := qP2 (P := P) w base t ti ty el i z by_ k hul hu.h hi hzz hzc hsz hbb h1 v n xs hown m hl hby hbase
  refine zE1 (v := v') (w' := w') ?_ (h v' w' ho hg)
  simp only [execOp, resolve, invoke, builtin, Sem.run_bind, Sem.run_pure, Result.andThen_ok, List.map_toArray, List.map_cons, List.map_nil, hx, hy, hrun]
theorem yA0 {n c : Nat} {ad : Option Addr} {el : TypeId} {sz : Nat} [hui : ElI P t el sz] (hx : ev e x = .slice ad n c) (hy : ev e y = .slice none 0 0) (h : K (.bool ad.isNone) w) : Run1 P ⟨d, .binOp .eql t x y u, ty, pos, af, g⟩ e w K := by
  obtain ⟨hu, _⟩ := qA4 hui.h
  refine zE1 (w' := w) (v := .bool ad.isNone) ?_ h
  have hg : ∀ w : World, (eqGuard .eql t x y (.slice ad n c) (.slice none 0 0)).run P w = .ok () w := fun _ => rfl
  have hb : (binOp .eql t (.slice ad n c) (.slice none 0 0)).run P w = .ok (.bool ad.isNone) w := by
    simp only [binOp]
    simp [run_equal_slice_nil w t _ ad n c hu]
  simp only [execOp, hx, hy, Sem.run_bind, hg, Result.andThen_ok, hb, Sem.run_pure]
theorem yP2 {b base sz : Nat} {T : TypeId} (hc : w.heap[b]? = some (.cells #[] T (0, 0))) (hb : base ≤ b) : w.ownsRow base T sz (.slice (some ⟨b, 0, none⟩) 0 0) 0 [] :=
  ⟨by simp, .inr ⟨b, 0, #[], rfl, hb, hc, Nat.le_refl _, Nat.zero_le _, by simp, by simp⟩⟩
theorem Grow.grown {w w1 w2 : World} {row : Option Nat} (G : Grow w w1) (h : w1.grownBy w2 row) (hr : ∀ k, row = some k → w.heap.size ≤ k) : Grow w w2 := Below.grown G h G.size hr
theorem zH8 {base n sz : Nat} {T : TypeId} {v : Value} {xs : List Value} (h : w.ownsRow base T sz v n xs) : ∀ k, v.ownBlock = some k → base ≤ k := fun k hk => (h.lt k hk).1
theorem zI3 {base n sz : Nat} {T : TypeId} {v : Value} {xs : List Value} (h : w.ownsRow base T sz v n xs) (hl : n ≤ 140737488355328) : Row w sz v n xs := Row.of_own h hl
theorem zF3 {base n sz k : Nat} {T T' : TypeId} {v : Value} {xs : List Value} {cs : Array Value} {fr : Nat × Nat} (h : w.ownsRow base T sz v n xs) (hk : w.heap[k]? = some (.cells cs T' fr)) (hT : T ≠ T') : v.ownBlock ≠ some k := by
  intro he
  rcases h.2 with ⟨rfl, _⟩ | ⟨g, cap, cur, rfl, _, hg, _⟩
  · simp [Value.ownBlock] at he
  · simp only [Value.ownBlock, Option.some.injEq] at he
    subst he
    rw [hg] at hk
    simp only [Option.some.injEq, Obj.cells.injEq] at hk
    exact hT hk.2.1
theorem zI1 {w' : World} {row : Option Nat} {k : Nat} {o : Obj} (gr : w.grownBy w' row) (hb : w.heap[k]? = some o) (hne : row ≠ some k) : w'.heap[k]? = some o := by
  rw [gr.block k (zC1 hb) (fun h => hne h.symm)]; exact hb
theorem zG5 {w' : World} {base n sz b : Nat} {T : TypeId} {v : Value} {xs : List Value} (h : w.ownsRow base T sz v n xs) (u : Upd b w w') (hne : v.ownBlock ≠ some b) : w'.ownsRow base T sz v n xs := by
  refine ⟨h.1, ?_⟩
  rcases h.2 with hn | ⟨g, cap, cur, rfl, hb, hg, rest⟩
  · exact .inl hn
  · exact .inr ⟨g, cap, cur, rfl, hb, u.heap hg (by simpa [Value.ownBlock] using hne), rest⟩
theorem zB7 {w' : World} {base n sz : Nat} {T : TypeId} {v : Value} {xs : List Value} (h : w.ownsRow base T sz v n xs) (g : Grow w w') : w'.ownsRow base T sz v n xs := by
  refine ⟨h.1, ?_⟩
  rcases h.2 with hn | ⟨q, cap, cur, rfl, hb, hg, rest⟩
  · exact .inl hn
  · exact .inr ⟨q, cap, cur, rfl, hb, g.heap hg, rest⟩
theorem zT3 {base base' n sz : Nat} {T : TypeId} {v : Value} {xs : List Value} (h : w.ownsRow base T sz v n xs) (hb : base' ≤ base) : w.ownsRow base' T sz v n xs := by
  refine ⟨h.1, ?_⟩
  rcases h.2 with hn | ⟨q, cap, cur, rfl, hq, rest⟩
  · exact .inl hn
  · exact .inr ⟨q, cap, cur, rfl, by omega, rest⟩
theorem yV5 {base n sz : Nat} {T : TypeId} {v : Value} {xs : List Value} (h : w.ownsRow base T sz v n xs) : v.oneCell' = true := by
  rcases h.2 with ⟨rfl, _⟩ | ⟨q, cap, cur, rfl, _⟩ <;> rfl
end
theorem Grow.kp {F : List Nat} {w w' : World} (g : Grow w w') : Kp F w w' := Kp.of_grow g
theorem Grow.trK {F : List Nat} {w w1 w2 : World} (G : Grow w w1) (k : Kp F w1 w2) (hF : ∀ x ∈ F, w.heap.size ≤ x) : Grow w w2 := Kp.grow ((Kp.of_grow G).trans k fun x hx => .inr (hF x hx))
theorem Kp.tr {F : List Nat} {a b c : World} (h : Kp F a b) (k : Kp F b c) : Kp F a c := h.trans k fun x hx => .inl hx
structure KpR where
  r : World → World → Prop
  refl : ∀ w, r w w
  tr : ∀ {a b c : World}, r a b → r b c → r a c
  grow : ∀ {a b : World}, Grow a b → r a b
abbrev kpR (F : List Nat) : KpR := ⟨Kp F, Kp.refl F, Kp.tr, Grow.kp⟩
def Sp.StabR (F : KpR) : Sp → Prop
  | .ex _ => True
  | .so G => ∀ w w' v, F.r w w' → G w v → G w' v
theorem Sp.keepR {F : KpR} {s : Sp} (h : s.StabR F) {w w' : World} {v : Value} (g : F.r w w') (hv : s.holds w v) : s.holds w' v := by
  cases s with
  | ex x => exact hv
  | so G => exact h w w' v g hv
def zK4 : List Nat → Nat → Nat → Option Nat
  | [], _, _ => none
  | m :: ms, k, p => bif Nat.beq m p then some k else zK4 ms (k + 1) p
def Sp.StabRM (F : KpR) (ms : List Nat) (p : Nat) (s : Sp) : Prop := match zK4 ms 0 p with
  | some k => if k + 1 = ms.length then s.Stab else s.StabR F
  | none => s.StabR F
theorem yA1 {F : KpR} {ms : List Nat} {p : Nat} {s : Sp} (h : s.StabR F) : s.StabRM F ms p := by
  unfold Sp.StabRM
  split
  · split
    · cases s with
      | ex x => trivial
      | so G => exact fun w w' v g hv => h w w' v (F.grow g) hv
    · exact h
  · exact h
def OblR (P : Program) (ops : Array Oper) (F : KpR) (S : Nat → World → Prop) (w0 : World) (e : Env) (o : Oper) (s : Sp) (l : List (Option Nat × Sp)) : Option Nat → Prop
  | none => ∀ w, F.r w0 w → OblEnv l e w fun e' => OpG P ops o e' w fun v w' => Grow w w' ∧ s.holds w' v
  | some k => ∀ w, F.r w0 w → S k w → OblEnv l e w fun e' => OpG P ops o e' w fun v w' => F.r w w' ∧ S (k + 1) w' ∧ s.holds w' v
def AOR (P : Program) (ops : Array Oper) (F : KpR) (S : Nat → World → Prop) (ms : List Nat) (w0 : World) (e : Env) (K : List Dn → Prop) : List Oper → List (List Nat) → List Dn → Prop
  | [], _, rdone => K rdone.reverse
  | o :: r, an, rdone => ∃ s : Sp, s.StabRM F ms rdone.length ∧ OblR P ops F S w0 e o s (selB rdone (an.headD [])) (zK4 ms 0 rdone.length) ∧
      AOR P ops F S ms w0 e K r an.tail (⟨o, s, an.headD []⟩ :: rdone)
section
variable {P : Program} {ops : Array Oper} {F : KpR} {S : Nat → World → Prop} {ms : List Nat} {w0 : World} {e : Env} {K : List Dn → Prop} {o : Oper} {r : List Oper} {a : List Nat} {an : List (List Nat)} {rdone : List Dn}
theorem zN0 (x : Value) (hm : zK4 ms 0 rdone.length = none) (h : ∀ w, F.r w0 w → OblEnv (selB rdone a) e w fun e' => OpG P ops o e' w fun v w' => Grow w w' ∧ v = x)
    (next : AOR P ops F S ms w0 e K r an (⟨o, .ex x, a⟩ :: rdone)) : AOR P ops F S ms w0 e K (o :: r) (a :: an) rdone := ⟨.ex x, yA1 trivial, by rw [hm]; exact h, next⟩
theorem zR1 (k : Nat) (x : Value) (hm : zK4 ms 0 rdone.length = some k) (h : ∀ w, F.r w0 w → S k w → OblEnv (selB rdone a) e w fun e' => OpG P ops o e' w fun v w' => F.r w w' ∧ S (k + 1) w' ∧ v = x)
    (next : AOR P ops F S ms w0 e K r an (⟨o, .ex x, a⟩ :: rdone)) : AOR P ops F S ms w0 e K (o :: r) (a :: an) rdone := ⟨.ex x, yA1 trivial, by rw [hm]; exact h, next⟩
theorem qC4 {an : List (List Nat)} (h : K rdone.reverse) : AOR P ops F S ms w0 e K [] an rdone := h
end
def qI8 (an : List (List Nat)) : List Nat → List Nat → Bool
  | _, [] => true
  | before, m :: ms => (before.all fun b => (an.getD m []).elem b) && qI8 an (before ++ [m]) ms
theorem zQ5 {an : List (List Nat)} : ∀ {ms before : List Nat}, qI8 an before ms = true → ∀ (j p : Nat), ms[j]? = some p → (∀ b ∈ before, b ∈ an.getD p []) ∧ ∀ (i q : Nat), i < j → ms[i]? = some q → q ∈ an.getD p []
  | [], _, _, j, p, hj => by simp at hj
  | m :: ms, before, h, j, p, hj => by
    simp only [qI8, Bool.and_eq_true, List.all_eq_true, List.elem_eq_mem, decide_eq_true_eq] at h
    cases j with
    | zero =>
      simp only [List.getElem?_cons_zero, Option.some.injEq] at hj
      subst hj
      exact ⟨h.1, fun i q hi => by omega⟩
    | succ j =>
      obtain ⟨h1, h2⟩ := zQ5 h.2 j p (by simpa using hj)
      refine ⟨fun b hb => h1 b (by simp [hb]), fun i q hi hq => ?_⟩
      cases i with
      | zero =>
        simp only [List.getElem?_cons_zero, Option.some.injEq] at hq
        subst hq
        exact h1 m (by simp)
      | succ i => exact h2 i q (by omega) (by simpa using hq)
theorem zO5 : ∀ {ms : List Nat} {k p j : Nat}, zK4 ms k p = some j → k ≤ j ∧ ms[j - k]? = some p
  | [], k, p, j, h => by simp [zK4] at h
  | m :: ms, k, p, j, h => by
    simp only [zK4] at h
    cases hb : Nat.beq m p with
    | true => rw [hb] at h; simp only [cond_true, Option.some.injEq] at h; subst h; exact ⟨Nat.le_refl _, by simp [Nat.eq_of_beq_eq_true hb]⟩
    | false =>
      rw [hb] at h
      simp only [cond_false] at h
      obtain ⟨h1, h2⟩ := zO5 h
      refine ⟨by omega, ?_⟩
      rw [show j - k = (j - (k + 1)) + 1 from by omega, List.getElem?_cons_succ]
      exact h2
theorem zW9 : ∀ {ms : List Nat} {k p : Nat}, zK4 ms k p = none → ∀ j : Nat, ms[j]? ≠ some p
  | [], k, p, _, j => by simp
  | m :: ms, k, p, h, j => by
    simp only [zK4] at h
    cases hb : Nat.beq m p with
    | true => rw [hb] at h; simp at h
    | false =>
      rw [hb] at h
      simp only [cond_false] at h
      cases j with
      | zero => simp only [List.getElem?_cons_zero, ne_eq, Option.some.injEq]; intro he; subst he; simp at hb
      | succ j => rw [List.getElem?_cons_succ]; exact zW9 h j
theorem zM1 {w : World} {G G' : Env → Prop} (h : ∀ e, G e → G' e) : ∀ (l : List (Option Nat × Sp)) (e : Env), OblEnv l e w G → OblEnv l e w G'
  | [], e, hg => h e hg
  | (d, .ex x) :: r, e, hg => zM1 h r _ hg
  | (d, .so F) :: r, e, hg => fun v hv => zM1 h r _ (hg v hv)
def yV6 (P : Program) (ops : Array Oper) (F : KpR) (S : Nat → World → Prop) (ms : List Nat) (w0 : World) (e : Env) (D : List Dn) : Prop :=
  ∀ i d, D[i]? = some d → d.s.StabRM F ms i ∧ OblR P ops F S w0 e d.o d.s (selB (D.take i).reverse d.anc) (zK4 ms 0 i)
theorem yI9 {P : Program} {ops : Array Oper} {F : KpR} {S : Nat → World → Prop} {ms : List Nat} {w0 : World} {e : Env} {K : List Dn → Prop} : ∀ (r : List Oper) (an : List (List Nat)) (rdone : List Dn), r.length = an.length →
    AOR P ops F S ms w0 e K r an rdone → yV6 P ops F S ms w0 e rdone.reverse → ∃ D, K D ∧ yV6 P ops F S ms w0 e D ∧ D.map Dn.o = rdone.reverse.map Dn.o ++ r ∧ D.map Dn.anc = rdone.reverse.map Dn.anc ++ an
  | [], [], rdone, _, h, hg => ⟨rdone.reverse, h, hg, by simp, by simp⟩
  | [], _ :: _, _, hl, _, _ => by simp at hl
  | _ :: _, [], _, hl, _, _ => by simp at hl
  | o :: r, a :: an, rdone, hl, ⟨s, hs, ho, hn⟩, hg => by
    simp only [List.headD_cons, List.tail_cons] at ho hn
    obtain ⟨D, hK, hG, hD, hA⟩ := yI9 r an (⟨o, s, a⟩ :: rdone) (by simpa using hl) hn (by
      intro i d hd
      simp only [List.reverse_cons] at hd ⊢
      rcases Nat.lt_or_ge i rdone.reverse.length with hi | hi
      · rw [List.getElem?_append_left hi] at hd
        rw [List.take_append_of_le_length (by omega)]
        exact hg i d hd
      · rw [List.getElem?_append_right hi] at hd
        have h0 : i - rdone.reverse.length = 0 := by
          rcases Nat.eq_zero_or_pos (i - rdone.reverse.length) with h | h
          · exact h
          · rw [List.getElem?_eq_none (by simp only [List.length_cons, List.length_nil]; omega)] at hd; cases hd
        rw [h0] at hd
        have hi' : i = rdone.reverse.length := by omega
        subst hi'
        simp only [List.getElem?_cons_zero, Option.some.injEq] at hd
        subst hd
        have ht : (rdone.reverse ++ [(⟨o, s, a⟩ : Dn)]).take rdone.reverse.length = rdone.reverse := by simp
        rw [ht, List.reverse_reverse]
        rw [List.length_reverse]
        exact ⟨hs, ho⟩)
    exact ⟨D, hK, hG, by rw [hD]; simp, by rw [hA]; simp⟩
section main
variable {P : Program} {N : Nat} {hd tl : List Oper} {Q : Ex → Env → World → Prop} {F : KpR} {S : Nat → World → Prop} {ms : List Nat}
structure InvR (F : KpR) (S : Nat → World → Prop) (ms : List Nat) (P : Program) (hd tl : List Oper) (D : List Dn) (w0 : World) (e : Env) (L : Array Bool) (E : Env) (w : World) : Prop where
  msro : E.ms = e.ms ∧ E.ro = e.ro
  down : Down (hd ++ tl) L
  head : ∀ i, Ls L i → i < hd.length
  grow : F.r w0 w
  st : ∃ k, k ≤ ms.length ∧ S k w ∧ ∀ (j p : Nat), ms[j]? = some p → (Ls L p ↔ j < k)
  got : ∀ (i : Nat) (d : Dn), D[i]? = some d → Ls L i → ∃ v, d.s.holds w v ∧ ∀ t, d.o.dst = some t → E t = v
  off : ∀ u, (∀ (i : Nat) (o : Oper), (hd ++ tl)[i]? = some o → Ls L i → o.dst ≠ some u) → E u = e u
theorem yV7 (sh : Shape hd tl) {D : List Dn} {w0 : World} {e : Env} (hD : D.map Dn.o = hd) (hA : D.map Dn.anc = ancB (hd ++ tl) hd.length) (hg : yV6 P (hd ++ tl).toArray F S ms w0 e D)
    (hS : ∀ k w w', Grow w w' → S k w → S k w') (hmo : qI8 (ancL (hd ++ tl) []) [] ms = true) (hml : ∀ (j p : Nat), ms[j]? = some p → p < hd.length)
    (hfin : ∀ w, F.r w0 w → S ms.length w → Fin (fun e w => WL P (hd ++ tl).toArray Q tl e w) D e w) : ∀ (fuel : Nat) (L : Array Bool) (E : Env) (w : World),
    InvR F S ms P hd tl D w0 e L E w → left L ≤ fuel → AnyE P (hd ++ tl).toArray Q fuel L E w := by
  have hlen : D.length = hd.length := by rw [← hD]; simp
  have hDo : ∀ (i : Nat) (d : Dn), D[i]? = some d → (hd ++ tl)[i]? = some d.o := fun i d h => by
    have hi : i < D.length := (List.getElem?_eq_some_iff.1 h).1
    rw [List.getElem?_append_left (by omega), ← hD]; simp [h]
  have hanc := qM3 sh hlen hA
  -- with all of the head listed, what follows stands
  have fin : ∀ (L : Array Bool) (E : Env) (w : World), InvR F S ms P hd tl D w0 e L E w → (∀ i, i < hd.length → Ls L i) → WL P (hd ++ tl).toArray Q tl E w := by
    intro L E w inv hall
    have hSl : S ms.length w := by
      obtain ⟨k0, hk0, hSk, hch⟩ := inv.st
      rcases Nat.lt_or_ge k0 ms.length with hlt | hge
      · have hp := List.getElem?_eq_getElem hlt
        have := (hch k0 _ hp).1 (hall _ (hml k0 _ hp))
        omega
      · rw [show ms.length = k0 from by omega]; exact hSk
    obtain ⟨e', hG, hmr, hu⟩ := zZ7 E D e (hfin w inv.grow hSl) (fun d hd' => by
      obtain ⟨i, hi, rfl⟩ := List.getElem_of_mem hd'
      exact inv.got i _ (List.getElem?_eq_getElem hi) (hall i (by omega)))
    have : e' = E := by
      refine Env.ext' (fun u => ?_) (by rw [hmr.1, inv.msro.1]) (by rw [hmr.2, inv.msro.2])
      by_cases hin : ∃ d ∈ D, d.o.dst = some u
      · exact (hu u).1 hin
      · rw [(hu u).2 (fun d hd' he => hin ⟨d, hd', he⟩)]
        refine (inv.off u fun i o ho hl hou => hin ?_).symm
        have hi := inv.head i hl
        have hiD : i < D.length := by omega
        have := hDo i _ (List.getElem?_eq_getElem hiD)
        rw [ho] at this
        exact ⟨D[i], List.getElem_mem hiD, by rw [← Option.some.inj this]; exact hou⟩
    rw [← this]; exact hG
  -- and so the rest of the region
  have rest : ∀ (fuel : Nat) (L : Array Bool) (E : Env) (w : World), InvR F S ms P hd tl D w0 e L E w → (∀ i, i < hd.length → Ls L i) → left L ≤ fuel →
      AnyE P (hd ++ tl).toArray Q fuel L E w := by
    intro fuel L E w inv hall hf
    refine qZ5 sh fuel hd.length L E w inv.down (fun i => ⟨inv.head i, hall i⟩) (Nat.le_refl _) (by simp) hf ?_
    rw [List.drop_left]
    exact fin L E w inv hall
  intro fuel
  induction fuel with
  | zero =>
    intro L E w inv hf
    refine rest 0 L E w inv (fun i hi => ?_) hf
    by_cases hl : Ls L i
    · exact hl
    · have := zM5 (L := L) (i := i) (by rw [inv.down.size]; simp; omega) hl; omega
  | succ fuel ih =>
    intro L E w inv hf
    by_cases hall : ∀ i, i < hd.length → Ls L i
    · exact rest _ L E w inv hall hf
    refine ⟨fun hr => absurd (fun i hi => zR6 inv.down.size sh.back hr i (by simp; omega)) hall, fun i hi o' ho' => ?_⟩
    obtain ⟨hn, o, ho, hedge⟩ := (zP0 inv.down.size).1 hi
    have hin : i < (hd ++ tl).length := (List.getElem?_eq_some_iff.1 ho).1
    have hal := zI2 inv.down i o ho hedge
    have hih : i < hd.length := by
      rcases Nat.lt_or_ge i hd.length with h' | h'
      · exact h'
      · exact absurd (fun j hj => hal j (sh.tail i h' hin j (by omega))) hall
    have hi' : i < L.size := by rw [inv.down.size]; exact hin
    have hiD : i < D.length := by omega
    have hd' := List.getElem?_eq_getElem hiD
    generalize hdd : D[i] = d at hd'
    have hod : d.o = o := by have := hDo i d hd'; rw [ho] at this; exact (Option.some.inj this).symm
    obtain ⟨hst, hob⟩ := hg i d hd'
    have ha := hanc i d hd'
    rw [ha] at hob
    have hanI : (ancL (hd ++ tl) []).getD i [] = ancI (hd ++ tl) i := rfl
    have step : OblEnv (sel (D.take i) (ancI (hd ++ tl) i)) e w fun e' => OpG P (hd ++ tl).toArray d.o e' w fun v w' => F.r w w' ∧ (zK4 ms 0 i = none → Grow w w') ∧ (∃ k, k ≤ ms.length ∧ S k w' ∧ ∀ (j p : Nat), ms[j]? = some p → (Ls (L.setIfInBounds i true) p ↔ j < k)) ∧ d.s.holds w' v := by
      obtain ⟨k0, hk0, hSk, hch⟩ := inv.st
      cases hmu : zK4 ms 0 i with
      | none =>
        rw [hmu] at hob
        refine zM1 (fun e' h => h.mono fun v w' ⟨g, hv⟩ => ⟨F.grow g, fun _ => g, ⟨k0, hk0, hS _ _ _ g hSk, fun j p hj => ?_⟩, hv⟩) _ _ (hob w inv.grow)
        rw [zI7 hi', ← hch j p hj]
        have : p ≠ i := fun h => zW9 hmu j (h ▸ hj)
        simp [this]
      | some k =>
        rw [hmu] at hob
        obtain ⟨_, hms⟩ := zO5 hmu
        rw [Nat.sub_zero] at hms
        have hkl : k < ms.length := (List.getElem?_eq_some_iff.1 hms).1
        have hkk : k0 = k := by
          have h1 : ¬ k < k0 := fun h => hn ((hch k i hms).2 h)
          rcases Nat.lt_or_ge k0 k with hlt | hge
          · have hq := List.getElem?_eq_getElem (show k0 < ms.length by omega)
            have h2 := (zQ5 hmo k i hms).2 k0 _ hlt hq
            rw [hanI] at h2
            have := (hch k0 _ hq).1 (hal _ h2)
            omega
          · omega
        subst hkk
        refine zM1 (fun e' h => h.mono fun v w' ⟨g, hs', hv⟩ => ⟨g, nofun, ⟨k0 + 1, hkl, hs', fun j p hj => ?_⟩, hv⟩) _ _ (hob w inv.grow hSk)
        rw [zI7 hi', hch j p hj]
        have anc_lt : ∀ q, q ∈ ancI (hd ++ tl) i → q < i := fun q hq => ((zL3 ho).1 hq).1
        constructor
        · rintro (rfl | h)
          · rcases Nat.lt_trichotomy j k0 with h | h | h
            · omega
            · omega
            · have h2 := (zQ5 hmo j p hj).2 k0 p h hms
              exact absurd (anc_lt p h2) (by omega)
          · omega
        · intro h
          rcases Nat.lt_or_ge j k0 with h' | h'
          · exact .inr h'
          · have : j = k0 := by omega
            subst this
            rw [hms] at hj
            exact .inl (Option.some.inj hj).symm
    -- the obligation, at the frame that is there
    obtain ⟨e', hG, hu⟩ := zL9 E _ e (by
      intro p hp
      unfold sel at hp
      rw [List.mem_filterMap] at hp
      obtain ⟨j, hj, hp⟩ := hp
      rw [List.getElem?_take] at hp
      split at hp
      · cases hdj : D[j]? with
        | none => rw [hdj] at hp; simp at hp
        | some dj =>
          rw [hdj] at hp
          simp only [Option.map_some, Option.some.injEq] at hp
          subst hp
          exact inv.got j dj hdj (hal j hj)
      · simp at hp) step
    have hmem : ∀ u, (∃ p ∈ sel (D.take i) (ancI (hd ++ tl) i), p.1 = some u) ↔ ∃ j ∈ ancI (hd ++ tl) i, ∃ dj, D[j]? = some dj ∧ dj.o.dst = some u := by
      intro u
      unfold sel
      constructor
      · rintro ⟨p, hp, hpu⟩
        rw [List.mem_filterMap] at hp
        obtain ⟨j, hj, hp⟩ := hp
        rw [List.getElem?_take] at hp
        split at hp
        · cases hdj : D[j]? with
          | none => rw [hdj] at hp; simp at hp
          | some dj =>
            rw [hdj] at hp
            simp only [Option.map_some, Option.some.injEq] at hp
            subst hp
            exact ⟨j, hj, dj, hdj, hpu⟩
        · simp at hp
      · rintro ⟨j, hj, dj, hdj, hdu⟩
        refine ⟨(dj.o.dst, dj.s), ?_, hdu⟩
        rw [List.mem_filterMap]
        refine ⟨j, hj, ?_⟩
        rw [List.getElem?_take, if_pos ((zL3 ho).1 hj).1, hdj]
        rfl
    have hG2 : OpG P (hd ++ tl).toArray o E w fun v w' => F.r w w' ∧ (zK4 ms 0 i = none → Grow w w') ∧ (∃ k, k ≤ ms.length ∧ S k w' ∧ ∀ (j p : Nat), ms[j]? = some p → (Ls (L.setIfInBounds i true) p ↔ j < k)) ∧ d.s.holds w' v := by
      rw [hod] at hG
      refine zU9 (sh.nosel i o ho) (fun u hu' => ?_) hG
      by_cases hin' : ∃ p ∈ sel (D.take i) (ancI (hd ++ tl) i), p.1 = some u
      · exact (hu u).1 hin'
      · rw [(hu u).2 (fun p hp he => hin' ⟨p, hp, he⟩)]
        refine (inv.off u fun k p hp hl hpu => ?_).symm
        have hki : i ≠ k := fun h => hn (h ▸ hl)
        rcases sh.read i k o p ho hp hki u hpu hu' with h | h
        · refine hin' ((hmem u).2 ⟨k, h, ?_⟩)
          have hk := inv.head k hl
          have hkD : k < D.length := by omega
          have := hDo k _ (List.getElem?_eq_getElem hkD)
          rw [hp] at this
          exact ⟨_, List.getElem?_eq_getElem hkD, by rw [← Option.some.inj this]; exact hpu⟩
        · exact hn (zI2 inv.down k p hp (inv.down.down k p hp hl) i h)
    have hoo : o = o' := by rw [List.getElem?_toArray, ho] at ho'; exact Option.some.inj ho'
    subst hoo
    refine OpG.mono ?_ hG2
    rintro v w' ⟨hgr, hgw, hst', hv⟩
    refine ih _ _ w' ⟨⟨by rw [qO9]; exact inv.msro.1, by rw [qP0]; exact inv.msro.2⟩, inv.down.set ho hedge, fun j hj => ?_, F.tr inv.grow hgr, hst', fun j dj hdj hl => ?_, fun u hu' => ?_⟩ (by have := zM5 hi' hn; omega)
    · rw [zI7 hi'] at hj
      rcases hj with rfl | hj
      · exact hih
      · exact inv.head j hj
    · rw [zI7 hi'] at hl
      by_cases hji : j = i
      · subst hji
        rw [hd'] at hdj
        cases hdj
        refine ⟨v, hv, fun t ht => ?_⟩
        rw [hod] at ht
        rw [ht]; exact zP8 _ _ _
      · have hlj := hl.resolve_left hji
        obtain ⟨vj, hvj, htj⟩ := inv.got j dj hdj hlj
        have hkeep : dj.s.holds w' vj := by
          have hsj := (hg j dj hdj).1
          unfold Sp.StabRM at hsj
          cases hmi : zK4 ms 0 i with
          | none =>
            cases hmj : zK4 ms 0 j with
            | none => rw [hmj] at hsj; exact Sp.keepR hsj hgr hvj
            | some k =>
              rw [hmj] at hsj
              simp only at hsj
              split at hsj
              · exact Sp.keep hsj (hgw hmi) hvj
              · exact Sp.keepR hsj hgr hvj
          | some k1 =>
            cases hmj : zK4 ms 0 j with
            | none => rw [hmj] at hsj; exact Sp.keepR hsj hgr hvj
            | some k =>
              rw [hmj] at hsj
              simp only at hsj
              split at hsj
              · rename_i hlast
                exfalso
                obtain ⟨_, e1⟩ := zO5 hmi
                obtain ⟨_, e2⟩ := zO5 hmj
                rw [Nat.sub_zero] at e1 e2
                have hk1 : k1 < ms.length := (List.getElem?_eq_some_iff.1 e1).1
                rcases Nat.lt_or_ge k1 k with h' | h'
                · have h2 := (zQ5 hmo k j e2).2 k1 i h' e1
                  exact hn (zI2 inv.down j dj.o (hDo j dj hdj) (inv.down.down j dj.o (hDo j dj hdj) hlj) i h2)
                · have : k1 = k := by omega
                  subst this
                  rw [e1] at e2
                  exact hji (Option.some.inj e2).symm
              · exact Sp.keepR hsj hgr hvj
        refine ⟨vj, hkeep, fun t ht => ?_⟩
        rw [← htj t ht]
        cases hdst' : o.dst with
        | none => rfl
        | some t' =>
          refine zR5 _ _ fun htt => ?_
          exact sh.uniq i j o dj.o ho (hDo j dj hdj) (Ne.symm hji) t' hdst' (by rw [ht, htt])
    · have hne : o.dst ≠ some u := hu' i o ho ((zI7 hi').2 (.inl rfl))
      have : E.put o.dst v u = E u := by
        cases hdst' : o.dst with
        | none => rfl
        | some t' => exact zR5 _ _ fun htt => hne (by rw [hdst', htt])
      rw [this]
      exact inv.off u fun k p hp hl => hu' k p hp ((zI7 hi').2 (.inr hl))
theorem qK1 {id : Nat} {e : Env} {w : World} {l : List Oper} (m : Nat) (an : List (List Nat)) (ms : List Nat) (F : KpR) (S : Nat → World → Prop) (hm : P.follows .mixedOrders = true) (hsh : zY3 (l.take m) (l.drop m) = true)
    (han : ancB l (l.take m).length = an) (hdst : qM1 N l = true) (hmo : (qI8 (ancL l []) [] ms && ms.all fun p => Nat.blt p (l.take m).length) = true) (hS : ∀ k w w', Grow w w' → S k w → S k w') (h0 : ∀ w0, Grow w w0 → S 0 w0)
    (h : ∀ w0, Grow w w0 → AOR P l.toArray F S ms w0 e (fun D => ∀ w', F.r w0 w' → S ms.length w' → Fin (fun e w => WL P l.toArray Q (l.drop m) e w) D e w') (l.take m) an []) :
    W P N (.region id l.toArray true) Q e w := by
  have hl := List.take_append_drop m l
  generalize hhd : l.take m = hd at *
  generalize htl : l.drop m = tl at *
  subst hl
  have h := h { w with drawn := w.drawn + 1 } (Grow.drew' w)
  have h0 := h0 { w with drawn := w.drawn + 1 } (Grow.drew' w)
  simp only [Bool.and_eq_true, List.all_eq_true] at hmo
  have hml : ∀ (j p : Nat), ms[j]? = some p → p < hd.length := fun j p hj => by
    have := hmo.2 p (List.mem_of_getElem? hj)
    simpa [Nat.blt_eq] using this
  intro b a k cs hs he
  subst he
  have sh := qF2 hsh
  obtain ⟨D, hK, hG, hDo, hDa⟩ := yI9 _ _ _ (by rw [← han]; simp [ancB, zK3]) h (fun i d hd' => by simp at hd')
  have hDo' : D.map Dn.o = hd := by simpa using hDo
  have hDa' : D.map Dn.anc = ancB (hd ++ tl) hd.length := by rw [hDa, han]; simp
  have hno : ∀ i, ¬ Ls (Array.replicate (hd ++ tl).toArray.size false) i := fun i => by simp [Ls, Array.getD_eq_getD_getElem?, Array.getElem?_replicate]; split <;> simp
  have hany : AnyE P (hd ++ tl).toArray Q (hd ++ tl).toArray.size (Array.replicate (hd ++ tl).toArray.size false) (env b.roundOf a) { w with drawn := w.drawn + 1 } := by
    refine yV7 sh hDo' hDa' hG hS hmo.1 hml hK _ _ _ _ ⟨⟨rfl, rfl⟩, ⟨by simp, fun i o ho hl => absurd hl (hno i)⟩, fun i hl => absurd hl (hno i), F.refl _, ⟨0, Nat.zero_le _, h0, fun j p hj => ⟨fun hl => absurd hl (hno p), fun h => by omega⟩⟩, fun i d hd' hl => absurd hl (hno i), fun u _ => rfl⟩ ?_
    unfold Go.Proofs.YtkkbbhpbcfcplaaGreat.K.left
    have := List.countP_le_length (p := (!·)) (l := (Array.replicate (hd ++ tl).toArray.size false).toList)
    simpa using this
  have hs2 := zW4 _ ((w.tape w.drawn (.order b.fn id))) _ _ _ hany
  obtain ⟨x, a', w', h1, h2, h3⟩ := zO9 hdst (k := k) (cs := cs) _ a _ hs hs2
  refine ⟨x, a', w', h1, h2, .of (.one stepR_region_draw) ?_⟩
  simp only [Region.schedule, hm, Bool.true_or, if_true]
  exact h3
/-! ### ..of which what is kept is all but some blocks -/
abbrev AOM (P : Program) (ops : Array Oper) (F : List Nat) (S : Nat → World → Prop) (ms : List Nat) (w0 : World) (e : Env) (K : List Dn → Prop) : List Oper → List (List Nat) → List Dn → Prop := AOR P ops (kpR F) S ms w0 e K
section
variable {P : Program} {ops : Array Oper} {F : List Nat} {S : Nat → World → Prop} {ms : List Nat} {w0 : World} {e : Env} {K : List Dn → Prop} {o : Oper} {r : List Oper} {a : List Nat} {an : List (List Nat)} {rdone : List Dn}
theorem yJ0 (x : Value) (hm : zK4 ms 0 rdone.length = none) (h : ∀ w, Kp F w0 w → OblEnv (selB rdone a) e w fun e' => OpG P ops o e' w fun v w' => Grow w w' ∧ v = x)
    (next : AOM P ops F S ms w0 e K r an (⟨o, .ex x, a⟩ :: rdone)) : AOM P ops F S ms w0 e K (o :: r) (a :: an) rdone := zN0 x hm h next
theorem yV8 (k : Nat) (x : Value) (hm : zK4 ms 0 rdone.length = some k) (h : ∀ w, Kp F w0 w → S k w → OblEnv (selB rdone a) e w fun e' => OpG P ops o e' w fun v w' => Kp F w w' ∧ S (k + 1) w' ∧ v = x)
    (next : AOM P ops F S ms w0 e K r an (⟨o, .ex x, a⟩ :: rdone)) : AOM P ops F S ms w0 e K (o :: r) (a :: an) rdone := zR1 k x hm h next
theorem yV9 {an : List (List Nat)} (h : K rdone.reverse) : AOM P ops F S ms w0 e K [] an rdone := qC4 h
end
theorem jA4 {id : Nat} {e : Env} {w : World} {l : List Oper} (m : Nat) (an : List (List Nat)) (ms : List Nat) (F : List Nat) (S : Nat → World → Prop) (hm : P.follows .mixedOrders = true) (hsh : zY3 (l.take m) (l.drop m) = true)
    (han : ancB l (l.take m).length = an) (hdst : qM1 N l = true) (hmo : (qI8 (ancL l []) [] ms && ms.all fun p => Nat.blt p (l.take m).length) = true) (hS : ∀ k w w', Grow w w' → S k w → S k w') (h0 : ∀ w0, Grow w w0 → S 0 w0)
    (h : ∀ w0, Grow w w0 → AOM P l.toArray F S ms w0 e (fun D => ∀ w', Kp F w0 w' → S ms.length w' → Fin (fun e w => WL P l.toArray Q (l.drop m) e w) D e w') (l.take m) an []) :
    W P N (.region id l.toArray true) Q e w := qK1 m an ms (kpR F) S hm hsh han hdst hmo hS h0 h
end main
section
variable {P : Program} {ops : Array Oper} {Q : Ex → Env → World → Prop} {e : Env} {w : World} {r : List Oper}
theorem stp {d : Nat} {op : Op} {ty : TypeId} {pos : String} {af : Array Edge} {g : Option (Nat × Bool)} (h : Run1 P ⟨some d, op, ty, pos, af, g⟩ e w fun v w' => WL P ops Q r (Env.set e d v) w') (hw : zL2 ops ⟨some d, op, ty, pos, af, g⟩ e = true := by rfl) : WL P ops Q (⟨some d, op, ty, pos, af, g⟩ :: r) e w := zA3 (og hw h)
theorem stn {op : Op} {ty : TypeId} {pos : String} {af : Array Edge} {g : Option (Nat × Bool)} (h : Run1 P ⟨none, op, ty, pos, af, g⟩ e w fun v w' => WL P ops Q r e w') (hw : zL2 ops ⟨none, op, ty, pos, af, g⟩ e = true := by rfl) : WL P ops Q (⟨none, op, ty, pos, af, g⟩ :: r) e w := yU5 (og hw h)
end
class StrI (P : Program) (t : TypeId) : Prop where
  h : P.underlying t = some .string
theorem sb : (∀ a b : Bool, ((a && b) = true) = (a = true ∧ b = true)) ∧ (∀ a b : Bool, ((a || b) = true) = (a = true ∨ b = true)) ∧ (∀ b : Bool, ((!b) = true) = (b = false)) ∧ (∀ a b : Bool, ((a && b) = false) = (a = false ∨ b = false)) ∧ (∀ a b : Bool, ((a || b) = false) = (a = false ∧ b = false)) ∧ (∀ b : Bool, ((!b) = false) = (b = true)) ∧
    (∀ (p : Prop) [Decidable p], (decide p = true) = p) ∧ (∀ (p : Prop) [Decidable p], (decide p = false) = ¬ p) ∧ ((!true) = false) ∧ ((!false) = true) ∧ (∀ a b : Bool, ((!a) = b) = (a = !b)) ∧ (∀ b : Bool, (b || false) = b) ∧ (∀ b : Bool, (b && true) = b) ∧ (∀ b : Bool, (b || true) = true) ∧ (∀ b : Bool, (b && false) = false) ∧ (∀ b : Bool, (false || b) = b) ∧ (∀ b : Bool, (true && b) = b) ∧ (∀ b : Bool, (true || b) = true) ∧ (∀ b : Bool, (false && b) = false) ∧ ((false = true) = False) ∧ ((true = false) = False) :=
  ⟨by simp, by simp, by simp, by simp, by simp, by simp, by simp, by simp, by simp, by simp, by simp, by simp, by simp, by simp, by simp, by simp, by simp, by simp, by simp, by simp, by simp⟩
def gv (c : Bool) (v : Value) : Value := bif c then v else undef
theorem gvt {c : Bool} {v : Value} (h : c = true) : gv c v = v := by rw [h]; rfl
def wgb (x : Value) (b : Bool) : Bool := match x with | .bool c => c == b | _ => false
theorem zE2 (p : Bool) : wgb (.bool p) true = p := by cases p <;> rfl
theorem zE3 (p : Bool) : wgb (.bool p) false = !p := by cases p <;> rfl
theorem zK1 (c p : Bool) : wgb (gv c (.bool p)) true = (c && p) := by cases c <;> cases p <;> rfl
theorem and_t {a b : Bool} (h : (a && b) = true) : a = true ∧ b = true := by simpa using h
section
variable {P : Program} {ops : Array Oper} {Q : Ex → Env → World → Prop} {e : Env} {w : World} {K : Value → World → Prop} {r : List Oper}
variable {d : Option Nat} {ty : TypeId} {pos : String} {af : Array Edge} {g : Option (Nat × Bool)}
variable {t u : TypeId} {x y z : Operand} {k k' : IntKind} {a : Int}
theorem zB2 {o : Oper} {s : Value} {b c : Bool} {v : Value} (hw : zL2 ops o e = wgb s b) (hc : wgb s b = c) (hr : c = true → Run1 P o e w fun v' w' => v' = v ∧ w' = w) (h : K (gv c v) w) : OpG P ops o e w K := by
  rw [hc] at hw
  cases c with
  | true => exact og hw ((hr rfl).mono fun v' w' ⟨h1, h2⟩ => by subst h1; subst h2; exact h)
  | false => exact zP6 hw h
theorem zX8 {o : Oper} {s : Value} {b c : Bool} {v : Value} (hw : zL2 ops o e = wgb s b) (hc : wgb s b = c) (hr : c = true → Run1 P o e w fun v' w' => v' = v ∧ Grow w w') (h : ∀ w', Grow w w' → K (gv c v) w') : OpG P ops o e w K := by
  rw [hc] at hw
  cases c with
  | true => exact og hw ((hr rfl).mono fun v' w' ⟨h1, h2⟩ => by subst h1; exact h _ h2)
  | false => exact zP6 hw (h _ (Grow.rfl' _))
theorem zG8 {p q : Bool} (hc : ev e x = .bool p) (hy : ev e y = gv p (.bool q)) (hz : ev e z = .bool false) (h : K (.bool (p && q)) w) : Run1 P ⟨d, .pick x y z, ty, pos, af, g⟩ e w K := by
  cases p
  · exact qM4 hc rfl hz h
  · exact zJ6 hc rfl hy h
theorem zH6 {p q : Bool} (hc : ev e x = .bool p) (hy : ev e y = .bool true) (hz : ev e z = gv (!p) (.bool q)) (h : K (.bool (p || q)) w) : Run1 P ⟨d, .pick x y z, ty, pos, af, g⟩ e w K := by
  cases p
  · exact qM4 hc rfl hz h
  · exact zJ6 hc rfl hy h
theorem qB2 {c p q : Bool} (ht : c = true) (hc : ev e x = .bool p) (hy : ev e y = gv (c && p) (.bool q)) (hz : ev e z = .bool false) (h : K (.bool (p && q)) w) : Run1 P ⟨d, .pick x y z, ty, pos, af, g⟩ e w K := by
  subst ht; exact zG8 hc (by simpa using hy) hz h
theorem zM7 {f : FuncId} {fv : Operand} {args : Array Operand} {at_ : Array TypeId} {fst cap : Array Value} {v : Value} {l : List Value}
    (hx : ev e fv = .func (.func f) fst cap) [hfi : FuncI P f] (ha : qJ5 e fst args cap = l) (hc : zB6 P f l.toArray w v) (h : ∀ w', Grow w w' → K v w') : Run1 P ⟨d, .call ⟨.value fv, args, at_⟩, ty, pos, af, g⟩ e w K :=
  zA4 hx (by rw [ha]; exact hc) h
/-! ### rows, by their address -/
def eadr (ad : Option Addr) (k : Nat) : Addr := ⟨(ad.getD ⟨0, 0, none⟩).block, (ad.getD ⟨0, 0, none⟩).off + k, none⟩
theorem zE7 {n c sz : Nat} {ad : Option Addr} {el : TypeId} {xs : List Value} {i : Int} [hui : ElI P t el sz] (R : RowAt w sz ad n xs) (hx : ev e x = .slice ad n c) (hy : ev e y = .int k i) (h0 : 0 ≤ i) (h1 : i < n)
    (h : K (.pointer (some (eadr ad (i.toNat * sz)))) w) : Run1 P ⟨d, .indexAddr t x y, ty, pos, af, g⟩ e w K := by
  obtain ⟨b, o, cs, T, fr, rfl, hb, hr⟩ := R.at_ (by omega)
  exact zH2 hx hy h0 h1 h
theorem zC8 {n c sz : Nat} {ad : Option Addr} {el : TypeId} {xs : List Value} {i : Nat} [hui : ElI P t el sz] (R : RowAt w sz ad n xs) (hx : ev e x = .slice ad n c) (hy : ev e y = .int k (i : Int)) (h1 : i < n)
    (h : K (.pointer (some (eadr ad (i * sz)))) w) : Run1 P ⟨d, .indexAddr t x y, ty, pos, af, g⟩ e w K :=
  zE7 R hx hy (by omega) (by omega) (by rw [Int.toNat_natCast]; exact h)
theorem zC5 {n m j : Nat} {ad : Option Addr} {xs : List Value} {v : Value} {sz : Nat} [hti : TyI P t 1 false] (R : RowAt w sz ad n xs) (hx : ev e x = .pointer (some (eadr ad j))) (hj : xs[j]? = some v) (h : K v w) : Run1 P ⟨d, .load t x, ty, pos, af, g⟩ e w K := by
  have hlt : j < xs.length := (List.getElem?_eq_some_iff.1 hj).1
  have hn : 0 < n := by
    rcases Nat.eq_zero_or_pos n with h0 | h0
    · subst h0; have := R.len; rw [Nat.zero_mul] at this; omega
    · exact h0
  obtain ⟨b, o, cs, T, fr, rfl, hb, hr⟩ := R.at_ hn
  exact zG7 hx hb (zQ4 hr hj) h
theorem zL5 {n m j : Nat} {ad : Option Addr} {xs : List Value} {vs : List Value} {sz : Nat} [hti : TyI P t m true] (R : RowAt w sz ad n xs) (hx : ev e x = .pointer (some (eadr ad j))) (hm : 0 < m) (hjm : j + m ≤ xs.length) (hj : (xs.drop j).take m = vs) (h : K (.agg vs.toArray) w) : Run1 P ⟨d, .load t x, ty, pos, af, g⟩ e w K := by
  have hn : 0 < n := by
    rcases Nat.eq_zero_or_pos n with h0 | h0
    · subst h0; have := R.len; rw [Nat.zero_mul] at this; omega
    · exact h0
  obtain ⟨b, o, cs, T, fr, rfl, hb, hr⟩ := R.at_ hn
  have hsz := yP1 hr R.len (Nat.lt_of_lt_of_le (by omega) (Nat.le_of_eq R.len))
  have hl := R.len
  refine zI0 (vs := vs.toArray) hx hb (Nat.ble_eq_true_of_le (by show o + j + m ≤ _; omega)) ?_ h
  show ((cs.toList.drop (o + j)).take m).toArray = _
  rw [qZ8 hr (by omega), hj]
theorem qB3 {f off j : Nat} {ad : Option Addr} [hfi : FldI P t f off] (hx : ev e x = .pointer (some (eadr ad j))) (h : K (.pointer (some (eadr ad (j + off)))) w) : Run1 P ⟨d, .fieldAddr t x f, ty, pos, af, g⟩ e w K :=
  zD4 hx (by
    have : (⟨(ad.getD ⟨0, 0, none⟩).block, (ad.getD ⟨0, 0, none⟩).off + j + off, none⟩ : Addr) = eadr ad (j + off) := by simp only [eadr, Nat.add_assoc]
    rw [this]; exact h)
end
theorem zY6 {α : Type} {f : α → Value} {L : List α} (dflt : α) {j : Nat} (h : j < L.length) : (L.map f)[j]? = some (f (L.getD j dflt)) := by
  rw [List.getElem?_map, List.getElem?_eq_getElem h, List.getD_eq_getElem?_getD, List.getElem?_eq_getElem h]; rfl
theorem zE6 {α : Type} {f : α → Value} {L : List α} (dflt : α) {j : Nat} (h : j < L.length) : (L.map f)[j * 1]? = some (f (L.getD j dflt)) := by rw [Nat.mul_one]; exact zY6 dflt h
theorem zE5 {α : Type} {L : List α} {dflt : α} {j : Nat} (h : j < L.length) : L.getD j dflt = L[j] := by
  rw [List.getD_eq_getElem?_getD, List.getElem?_eq_getElem h]; rfl
theorem yJ4 {w : World} {b base n sz : Nat} {T : TypeId} {cs : Array Value} (hc : w.heap[b]? = some (.cells cs T (0, 0))) (hb : base ≤ b) (hn : cs.size = n * sz) (hl : n ≤ maxLen) : w.ownsRow base T sz (.slice (some ⟨b, 0, none⟩) n n) n cs.toList :=
  ⟨by rw [Array.length_toList, hn], .inr ⟨b, n, cs, rfl, hb, hc, Nat.le_refl _, hl, hn, by rw [List.take_of_length_le (by rw [Array.length_toList, hn]; exact Nat.le_refl _)]⟩⟩
theorem qM5 {w w' : World} {n : Nat} (h : w.grownBy w' (Value.slice none n n).ownBlock) : Grow w w' := ⟨h.os, h.tape, h.output, h.size, fun k hk => h.block k hk (by simp [Value.ownBlock])⟩
theorem yA5 {w w' : World} {base base' n m sz sz' : Nat} {T T' : TypeId} {v v' : Value} {xs ys : List Value} (h : w.ownsRow base T sz v n xs) (h' : w.ownsRow base' T' sz' v' m ys) (hT : T ≠ T') (g : w.grownBy w' v'.ownBlock) : w'.ownsRow base T sz v n xs := by
  refine ⟨h.1, ?_⟩
  rcases h.2 with hn | ⟨q, cap, cur, rfl, hb, hg, rest⟩
  · exact .inl hn
  · exact .inr ⟨q, cap, cur, rfl, hb, zI1 g hg (zF3 h' hg hT.symm), rest⟩
theorem zT5 {w : World} {base n sz : Nat} {T : TypeId} {v : Value} {xs : List Value} (h : w.ownsRow base T sz v n xs) (hn : 0 < n) : ∃ g c cur, v = .slice (some ⟨g, 0, none⟩) n c ∧ base ≤ g ∧ w.heap[g]? = some (.cells cur T (0, 0)) ∧ n ≤ c ∧ c ≤ maxLen ∧ cur.size = c * sz ∧ cur.toList.take (n * sz) = xs := by
  rcases h.2 with ⟨_, h0⟩ | h
  · omega
  · obtain ⟨g, c, cur, h1, h2, h3, h4, h5, h6, h7⟩ := h; exact ⟨g, c, cur, h1, h2, h3, h4, h5, h6, h7⟩
theorem zE0 {w : World} {base n sz : Nat} {T : TypeId} {v : Value} {xs : List Value} (h : w.ownsRow base T sz v n xs) : ∃ ad m c, v = .slice ad m c := by
  rcases h.2 with ⟨rfl, rfl⟩ | ⟨q, cap, cur, rfl, _, _, hn, _⟩
  · exact ⟨_, _, _, rfl⟩
  · exact ⟨_, _, _, rfl⟩
def cgL : List Value → Nat → Option Value
  | [], _ => none
  | x :: _, 0 => some x
  | _ :: l, n + 1 => cgL l n
theorem cgL_eq : ∀ (l : List Value) (n : Nat), cgL l n = l[n]?
  | [], n => by simp [cgL]
  | x :: l, 0 => by simp [cgL]
  | x :: l, n + 1 => by simp [cgL, cgL_eq l n]
section
variable {P : Program} {e : Env} {w : World} {K : Value → World → Prop} {d : Option Nat} {ty : TypeId} {pos : String} {af : Array Edge} {g : Option (Nat × Bool)} {t : TypeId} {x : Operand}
theorem r_loadL {b o n : Nat} {cs : Array Value} {T : TypeId} {fr : Nat × Nat} {v : Value} [hti : TyI P t n false] (hx : ev e x = .pointer (some ⟨b, o, none⟩)) (hb : w.heap[b]? = some (.cells cs T fr)) (hv : cgL cs.toList o = some v) (h : K v w) : Run1 P ⟨d, .load t x, ty, pos, af, g⟩ e w K :=
  zG7 hx hb (by rw [cgL_eq] at hv; rw [← hv]; simp) h
theorem r_extractL {i : Nat} {xs : Array Value} {v : Value} (hx : ev e x = .tuple xs) (hv : cgL xs.toList i = some v) (h : K v w) : Run1 P ⟨d, .extract x i, ty, pos, af, g⟩ e w K :=
  zC9 hx (by rw [cgL_eq] at hv; rw [← hv]; simp) h
end
structure Hq (n : Nat) (q : Prop) : Prop where
  h : q
theorem Hq.s {n : Nat} {q : Prop} (h : Hq (n + 1) q) : Hq n q := ⟨h.h⟩
theorem qZ {p q : Prop} (n : Nat) (k : q) (h : Hq n q → p := by
  intro hq_
  repeat (replace hq_ := Hq.s hq_; first
    | refine stp (zD3 rfl ?_) | refine stp (zQ1 rfl ?_) | refine zA6 ?_ | refine qE9 ?_ | refine zZ6 rfl ?_ | refine stp (zD4 rfl ?_) | refine yZ7 ?_ | refine zX6 ?_ | refine yH0 ?_
    | refine stp (r_loadL rfl (by assumption) (by exact rfl) ?_) | refine stp (zD8 rfl (by assumption) (by rfl) ?_)
    | refine stp (zH9 rfl ?_) | refine stp (zM6 rfl ?_) | refine stp (zM0 rfl ?_) | refine stp (zO2 rfl ?_) | refine stp (zW5 rfl ?_) | refine stp (zQ2 rfl ?_) | refine stp (yC6 rfl rfl rfl ?_) | refine stp (zW7 rfl ?_)
    | refine stp (zW6 rfl ?_) | refine stp (zP9 rfl ?_) | refine stp (zQ3 rfl ?_) | refine stp (r_extractL rfl rfl ?_) | refine yT8 ?_ | refine yG9 ?_ | refine stp (zQ0 rfl ?_) | refine stp (zX7 rfl ?_) | refine stp (zS9 rfl ?_) | refine stp (zZ8 rfl ?_) | refine stp (qJ4 rfl ?_) | refine stp (qD7 rfl ?_))
  exact hq_.h) : p := h ⟨k⟩
theorem qO {p q : Prop} (n : Nat) (k : q) (h : Hq n q → p := by
  intro hq_
  repeat (replace hq_ := Hq.s hq_; first
    | refine stp (zD3 rfl ?_) | refine stp (zQ1 rfl ?_) | refine zA6 ?_ | refine qE9 ?_ | refine zZ6 rfl ?_ | refine stp (zD4 rfl ?_) | refine yZ7 ?_ | refine zX6 ?_ | refine yH0 ?_
    | refine stp (r_loadL rfl (by assumption) (by exact rfl) ?_) | refine stp (zD8 rfl (by assumption) (by rfl) ?_)
    | refine stp (zH9 rfl ?_) | refine stp (zM6 rfl ?_) | refine stp (zM0 rfl ?_) | refine stp (zO2 rfl ?_) | refine stp (zW5 rfl ?_) | refine stp (zQ2 rfl ?_) | refine stp (yC6 rfl rfl rfl ?_) | refine stp (zW7 rfl ?_)
    | refine stp (zW6 rfl ?_) | refine stp (zP9 rfl ?_) | refine stp (zQ3 rfl ?_) | refine stp (r_extractL rfl rfl ?_) | refine yT8 ?_ | refine yG9 ?_ | refine stp (zQ0 rfl ?_) | refine stp (zX7 rfl ?_) | refine stp (zS9 rfl ?_) | refine stp (zZ8 rfl ?_) | refine stp (qJ4 rfl ?_) | refine stp (qD7 rfl ?_) | refine stp (zH5 rfl ?_) | refine stp (zJ5 rfl ?_))
  exact hq_.h) : p := h ⟨k⟩
theorem qA {p q : Prop} (n : Nat) (k : q) (h : Hq n q → p := by
  intro hq_
  repeat (replace hq_ := Hq.s hq_; apply zC0; · (intro w_ g_; first
    | (refine og rfl ?_; (first | refine zD4 rfl ?_ | refine zD3 rfl ?_ | refine r_loadL rfl (g_.heap (by assumption)) (by exact rfl) ?_ | refine zD8 rfl (g_.heap (by assumption)) (by rfl) ?_ | refine yC6 rfl rfl rfl ?_ | refine zQ1 rfl ?_ | refine zH9 rfl ?_ | refine zM0 rfl ?_ | refine zO2 rfl ?_ | refine zW5 rfl ?_ | refine zM6 rfl ?_ | refine zQ2 rfl ?_ | refine zW7 rfl ?_ | refine r_extractL rfl rfl ?_ | refine zW6 rfl ?_ | refine zP9 rfl ?_ | refine zQ3 rfl ?_ | refine zQ0 rfl ?_ | refine zS9 rfl ?_); exact ⟨Grow.rfl' _, rfl⟩)
    | (refine zP6 rfl ?_; exact ⟨Grow.rfl' _, rfl⟩)))
  exact hq_.h) : p := h ⟨k⟩
theorem qM {p q : Prop} (n : Nat) (k : q) (h : Hq n q → p := by
  intro hq_
  repeat (replace hq_ := Hq.s hq_; (first | apply yJ0 (hm := by rfl) | apply zN0 (hm := by rfl)); · (intro w_ g_; first
    | (refine og rfl ?_; (first | refine zD4 rfl ?_ | refine zD3 rfl ?_ | refine yC6 rfl rfl rfl ?_ | refine zQ1 rfl ?_ | refine zH9 rfl ?_ | refine zM0 rfl ?_ | refine zO2 rfl ?_ | refine zW5 rfl ?_ | refine zM6 rfl ?_ | refine zQ2 rfl ?_ | refine zW7 rfl ?_ | refine r_extractL rfl rfl ?_ | refine zW6 rfl ?_ | refine zP9 rfl ?_ | refine zQ3 rfl ?_ | refine zQ0 rfl ?_ | refine zS9 rfl ?_); exact ⟨Grow.rfl' _, rfl⟩)
    | (refine zP6 rfl ?_; exact ⟨Grow.rfl' _, rfl⟩)))
  exact hq_.h) : p := h ⟨k⟩
theorem qG {p q : Prop} (n : Nat) (k : q) (h : Hq n q → p := by
  intro hq_
  repeat (replace hq_ := Hq.s hq_; first
    | (refine zA3 ?_; apply zB2 (s := .bool _) rfl (zE2 _); · (intro hc_; (first | refine zD3 (by first | exact rfl | exact gvt hc_) ?_ | refine zD4 rfl ?_ | refine r_loadL (by first | exact rfl | exact gvt hc_) (by assumption) (by exact rfl) ?_ | refine zH9 (by first | exact rfl | exact gvt hc_) ?_ | refine yC6 rfl rfl (by first | exact rfl | exact gvt hc_) ?_ | refine zM0 (by first | exact rfl | exact gvt hc_) ?_); exact ⟨rfl, rfl⟩))
    | (refine zA3 ?_; apply zB2 (s := .bool _) rfl (zE3 _); · (intro hc_; (first | refine zD3 (by first | exact rfl | exact gvt hc_) ?_ | refine zD4 rfl ?_ | refine r_loadL (by first | exact rfl | exact gvt hc_) (by assumption) (by exact rfl) ?_ | refine zH9 (by first | exact rfl | exact gvt hc_) ?_ | refine yC6 rfl rfl (by first | exact rfl | exact gvt hc_) ?_ | refine zM0 (by first | exact rfl | exact gvt hc_) ?_); exact ⟨rfl, rfl⟩)))
  exact hq_.h) : p := h ⟨k⟩
theorem qC {p q : Prop} (k : q) (h : Hq 1 q → p := by
  intro hq_
  first
    | (refine zT1 rfl rfl ?_ ?_; (first | assumption | omega)) | (refine qU5 rfl rfl ?_ ?_; (first | assumption | omega)) | refine zD5 rfl rfl ?_
    | (refine yU6 rfl rfl ?_ ?_; (first | assumption | omega)) | (refine yH7 rfl rfl ?_ ?_; (first | assumption | omega)) | refine zG9 rfl rfl ?_
    | (refine yU7 rfl rfl ?_ ?_; (first | assumption | omega)) | (refine yH8 rfl rfl ?_ ?_; (first | assumption | omega)) | refine zF6 rfl rfl ?_
    | (refine yU8 rfl rfl ?_ ?_; (first | assumption | omega)) | (refine yU9 rfl rfl ?_ ?_; (first | assumption | omega)) | refine zU7 rfl rfl ?_
    | (refine yV0 rfl rfl ?_ ?_; (first | assumption | omega)) | (refine yH9 rfl rfl ?_ ?_; (first | assumption | omega)) | refine zN7 rfl rfl ?_
    | (refine yV1 rfl rfl ?_ ?_; (first | assumption | omega)) | (refine yV2 rfl rfl ?_ ?_; (first | assumption | omega)) | refine zP7 rfl rfl ?_
    | (refine zJ6 rfl ?_ rfl ?_; (first | rfl | assumption)) | (refine qM4 rfl ?_ rfl ?_; (first | rfl | assumption))
    | refine yI0 rfl ?_ | refine yI1 rfl ?_ | refine qU6 rfl ?_ | refine yO9 rfl rfl ?_
  exact hq_.h) : p := h ⟨k⟩
theorem qX {w : World} {v : Value} : Grow w w ∧ v = v := ⟨Grow.rfl' _, rfl⟩
theorem qT {p : Prop} [Decidable p] (h : decide p = true) : p := of_decide_eq_true h
theorem qF {p : Prop} [Decidable p] (h : decide p = false) : ¬ p := of_decide_eq_false h
theorem qN {w : World} {b c : Nat} {o : Obj} (h : w.heap[b]? = some o) (h2 : w.heap.size ≤ c) : b ≠ c := Nat.ne_of_lt (Nat.lt_of_lt_of_le (zC1 h) h2)
section
variable {P : Program} {ops : Array Oper} {e : Env} {w : World} {K : Value → World → Prop} {d : Option Nat} {ty : TypeId} {pos : String} {af : Array Edge} {g : Option (Nat × Bool)}
variable {t u : TypeId} {x y : Operand}
theorem qS {b n : Nat} {ag : Bool} {cs vs : Array Value} {T : TypeId} [hti : TyI P t n ag] (hb : w.heap[b]? = some (.cells cs T (0, 0)))
    (h : ∀ w' : World, w'.heap[b]? = some (.cells vs T (0, 0)) → Upd b w w' → K undef w') (hx : ev e x = .pointer (some ⟨b, 0, none⟩) := by exact rfl) (hy : ev e y = .agg vs := by exact rfl) (hn : vs.size = n := by rfl) (hf : cs.size = n := by rfl) (h1 : vs.toList.all Value.oneCell' = true := by rfl) : Run1 P ⟨d, .store t x y, ty, pos, af, g⟩ e w K := zW8 hx hy hb hn hf h1 h
end
end Go.Proofs.YtkkbbhpbcfcplaaGreat.K
namespace Go.Proofs.YtkkbbhpbcfcplaaGreat.K
open Go Go.RowKit Go.Proofs
instance : UndI Tryz.prog 3 := ⟨⟨_, Tryz.underlying3⟩⟩
instance : TyI Tryz.prog 3 1 false := ⟨by kernel_rfl⟩
instance : IntI Tryz.prog 3 .i64 := ⟨Tryz.underlying3⟩
instance : TyI Tryz.prog 4 1 false := ⟨by kernel_rfl⟩
instance : UndI Tryz.prog 5 := ⟨⟨_, Tryz.underlying5⟩⟩
instance : TyI Tryz.prog 5 1 false := ⟨by kernel_rfl⟩
instance : IntI Tryz.prog 5 .u8 := ⟨Tryz.underlying5⟩
instance : StrI Tryz.prog 9 := ⟨Tryz.underlying9⟩
instance : TyI Tryz.prog 22 1 false := ⟨by kernel_rfl⟩
instance : ElI Tryz.prog 22 5 1 := ⟨by kernel_rfl⟩
instance : ElzI Tryz.prog 22 5 1 1 (.int .u8 0) := ⟨by kernel_rfl⟩
instance : UndI Tryz.prog 23 := ⟨⟨_, Tryz.underlying23⟩⟩
instance : TyI Tryz.prog 23 1 false := ⟨by kernel_rfl⟩
instance : IntI Tryz.prog 23 .u64 := ⟨Tryz.underlying23⟩
instance : TyI Tryz.prog 26 1 false := ⟨by kernel_rfl⟩
instance : ElI Tryz.prog 26 37 1 := ⟨by kernel_rfl⟩
instance : ElzI Tryz.prog 26 37 1 24 (.slice none 0 0) := ⟨by kernel_rfl⟩
instance : TyI Tryz.prog 28 1 false := ⟨by kernel_rfl⟩
instance : ElI Tryz.prog 28 3 1 := ⟨by kernel_rfl⟩
instance : ElzI Tryz.prog 28 3 1 8 (.int .i64 0) := ⟨by kernel_rfl⟩
instance : TyI Tryz.prog 30 2 true := ⟨by kernel_rfl⟩
instance : ZeroI Tryz.prog 30 #[.slice none 0 0, .int .i64 0] := ⟨by kernel_rfl⟩
instance : FldI Tryz.prog 30 0 0 := ⟨by kernel_rfl⟩
instance : FldI Tryz.prog 30 1 1 := ⟨by kernel_rfl⟩
instance : TyI Tryz.prog 32 1 false := ⟨by kernel_rfl⟩
instance : ElI Tryz.prog 32 61 2 := ⟨by kernel_rfl⟩
instance : ElzI Tryz.prog 32 61 2 16 (.agg #[.int .i64 0, .int .i64 0]) := ⟨by kernel_rfl⟩
instance : TyI Tryz.prog 37 1 false := ⟨by kernel_rfl⟩
instance : ElI Tryz.prog 37 23 1 := ⟨by kernel_rfl⟩
instance : ElzI Tryz.prog 37 23 1 8 (.int .u64 0) := ⟨by kernel_rfl⟩
instance : TyI Tryz.prog 40 5 true := ⟨by kernel_rfl⟩
instance : ZeroI Tryz.prog 40 #[.int .i64 0, .int .i64 0, .int .i64 0, .int .i64 0, .int .u64 0] := ⟨by kernel_rfl⟩
instance : FlatI Tryz.prog 40 [.i .i64, .i .i64, .i .i64, .i .i64, .i .u64] := ⟨by kernel_rfl⟩
instance : FldI Tryz.prog 40 2 2 := ⟨by kernel_rfl⟩
instance : FldI Tryz.prog 40 3 3 := ⟨by kernel_rfl⟩
instance : TyI Tryz.prog 46 1 false := ⟨by kernel_rfl⟩
instance : ElI Tryz.prog 46 48 5 := ⟨by kernel_rfl⟩
instance : ElzI Tryz.prog 46 48 5 88 (.agg #[.int .i64 0, .int .i64 0, .slice none 0 0, .slice none 0 0, .slice none 0 0]) := ⟨by kernel_rfl⟩
instance : TyI Tryz.prog 48 5 true := ⟨by kernel_rfl⟩
instance : ZeroI Tryz.prog 48 #[.int .i64 0, .int .i64 0, .slice none 0 0, .slice none 0 0, .slice none 0 0] := ⟨by kernel_rfl⟩
instance : FldI Tryz.prog 48 0 0 := ⟨by kernel_rfl⟩
instance : FldI Tryz.prog 48 1 1 := ⟨by kernel_rfl⟩
instance : FldI Tryz.prog 48 2 2 := ⟨by kernel_rfl⟩
instance : FldI Tryz.prog 48 3 3 := ⟨by kernel_rfl⟩
instance : FldI Tryz.prog 48 4 4 := ⟨by kernel_rfl⟩
instance : TyI Tryz.prog 61 2 true := ⟨by kernel_rfl⟩
instance : ZeroI Tryz.prog 61 #[.int .i64 0, .int .i64 0] := ⟨by kernel_rfl⟩
instance : FlatI Tryz.prog 61 [.i .i64, .i .i64] := ⟨by kernel_rfl⟩
instance : FldI Tryz.prog 61 0 0 := ⟨by kernel_rfl⟩
instance : FldI Tryz.prog 61 1 1 := ⟨by kernel_rfl⟩
instance : TyI Tryz.prog 70 8 true := ⟨by kernel_rfl⟩
instance : ZeroI Tryz.prog 70 #[.int .i64 0, .int .i64 0, .int .i64 0, .int .i64 0, .int .i64 0, .int .i64 0, .int .i64 0, .bool false] := ⟨by kernel_rfl⟩
instance : FlatI Tryz.prog 70 [.i .i64, .i .i64, .i .i64, .i .i64, .i .i64, .i .i64, .i .i64, .b] := ⟨by kernel_rfl⟩
instance : FldI Tryz.prog 70 0 0 := ⟨by kernel_rfl⟩
instance : FldI Tryz.prog 70 1 1 := ⟨by kernel_rfl⟩
instance : FldI Tryz.prog 70 2 2 := ⟨by kernel_rfl⟩
instance : FldI Tryz.prog 70 3 3 := ⟨by kernel_rfl⟩
instance : FldI Tryz.prog 70 4 4 := ⟨by kernel_rfl⟩
instance : FldI Tryz.prog 70 5 5 := ⟨by kernel_rfl⟩
instance : FldI Tryz.prog 70 6 6 := ⟨by kernel_rfl⟩
instance : FldI Tryz.prog 70 7 7 := ⟨by kernel_rfl⟩
instance : ConcI Tryz.prog 74 := ⟨by kernel_rfl⟩
instance : TyI Tryz.prog 76 1 false := ⟨by kernel_rfl⟩
instance : FtI Tryz.prog 79 0 76 := ⟨by kernel_rfl⟩
instance : FldI Tryz.prog 79 0 0 := ⟨by kernel_rfl⟩
instance : FldI Tryz.prog 79 1 1 := ⟨by kernel_rfl⟩
instance : TyI Tryz.prog 86 3 true := ⟨by kernel_rfl⟩
instance : FldI Tryz.prog 86 0 0 := ⟨by kernel_rfl⟩
instance : FldI Tryz.prog 86 1 1 := ⟨by kernel_rfl⟩
instance : IntI Tryz.prog 96 .u64 := ⟨Tryz.underlying96⟩
instance : TyI Tryz.prog 99 3 true := ⟨by kernel_rfl⟩
instance : ZeroI Tryz.prog 99 #[.slice none 0 0, .int .i64 0, .bool false] := ⟨by kernel_rfl⟩
instance : FldI Tryz.prog 99 0 0 := ⟨by kernel_rfl⟩
instance : FldI Tryz.prog 99 1 1 := ⟨by kernel_rfl⟩
instance : FldI Tryz.prog 99 2 2 := ⟨by kernel_rfl⟩
instance : FldI Tryz.prog 110 0 0 := ⟨by kernel_rfl⟩
instance : ConcI Tryz.prog 110 := ⟨by kernel_rfl⟩
instance : TyI Tryz.prog 112 7 true := ⟨by kernel_rfl⟩
instance : ZeroI Tryz.prog 112 #[.int .i64 0, .int .i64 0, .int .i64 0, .int .i64 0, .int .i64 0, .int .i64 0, .int .i64 0] := ⟨by kernel_rfl⟩
instance : FldI Tryz.prog 112 0 0 := ⟨by kernel_rfl⟩
instance : FldI Tryz.prog 112 1 1 := ⟨by kernel_rfl⟩
instance : FldI Tryz.prog 112 2 2 := ⟨by kernel_rfl⟩
instance : FldI Tryz.prog 112 3 3 := ⟨by kernel_rfl⟩
instance : FldI Tryz.prog 112 4 4 := ⟨by kernel_rfl⟩
instance : FldI Tryz.prog 112 5 5 := ⟨by kernel_rfl⟩
instance : FldI Tryz.prog 112 6 6 := ⟨by kernel_rfl⟩
instance : FldI Tryz.prog 117 0 0 := ⟨by kernel_rfl⟩
instance : FldI Tryz.prog 117 1 1 := ⟨by kernel_rfl⟩
instance : FldI Tryz.prog 117 2 8 := ⟨by kernel_rfl⟩
instance : FldI Tryz.prog 172 0 0 := ⟨by kernel_rfl⟩
instance : FldI Tryz.prog 172 1 1 := ⟨by kernel_rfl⟩
instance : TyI Tryz.prog 205 2 true := ⟨by kernel_rfl⟩
instance : ZeroI Tryz.prog 205 #[.int .i64 0, .int .i64 0] := ⟨by kernel_rfl⟩
instance : FldI Tryz.prog 205 0 0 := ⟨by kernel_rfl⟩
instance : FtI Tryz.prog 205 1 3 := ⟨by kernel_rfl⟩
instance : FldI Tryz.prog 205 1 1 := ⟨by kernel_rfl⟩
instance : FuncI Tryz.prog 9 := ⟨⟨Tryz.f9, Tryz.func9, rfl⟩⟩   -- sculler/scullerlaw11.known
instance : FuncI Tryz.prog 10 := ⟨⟨Tryz.f10, Tryz.func10, rfl⟩⟩   -- sculler/scullerlaw09.Bent
instance : FuncI Tryz.prog 11 := ⟨⟨Tryz.f11, Tryz.func11, rfl⟩⟩   -- sculler/scullerlaw09.Path
instance : FuncI Tryz.prog 12 := ⟨⟨Tryz.f12, Tryz.func12, rfl⟩⟩   -- sculler/valid.Touched
instance : FuncI Tryz.prog 13 := ⟨⟨Tryz.f13, Tryz.func13, rfl⟩⟩   -- sculler/scullerlaw11.has
instance : FuncI Tryz.prog 14 := ⟨⟨Tryz.f14, Tryz.func14, rfl⟩⟩   -- sculler/scullerref09.Of
instance : FuncI Tryz.prog 15 := ⟨⟨Tryz.f15, Tryz.func15, rfl⟩⟩   -- sculler/scullerref04.Same
instance : FuncI Tryz.prog 16 := ⟨⟨Tryz.f16, Tryz.func16, rfl⟩⟩   -- sculler/valid.Check
instance : FuncI Tryz.prog 20 := ⟨⟨Tryz.f20, Tryz.func20, rfl⟩⟩   -- sculler/scullerlaw08.Tree
instance : FuncI Tryz.prog 21 := ⟨⟨Tryz.f21, Tryz.func21, rfl⟩⟩   -- sculler/scullerref08.Build
instance : FuncI Tryz.prog 27 := ⟨⟨Tryz.f27, Tryz.func27, rfl⟩⟩   -- sculler/valid.Equal
instance : FuncI Tryz.prog 29 := ⟨⟨Tryz.f29, Tryz.func29, rfl⟩⟩   -- sculler/scullerref06.Encode
instance : FuncI Tryz.prog 30 := ⟨⟨Tryz.f30, Tryz.func30, rfl⟩⟩   -- sculler/arena.Right
instance : FuncI Tryz.prog 31 := ⟨⟨Tryz.f31, Tryz.func31, rfl⟩⟩   -- sculler/read.Whole
instance : FuncI Tryz.prog 32 := ⟨⟨Tryz.f32, Tryz.func32, rfl⟩⟩   -- sculler/read.Walk
instance : FuncI Tryz.prog 33 := ⟨⟨Tryz.f33, Tryz.func33, rfl⟩⟩   -- sculler/span.Norm
instance : FuncI Tryz.prog 34 := ⟨⟨Tryz.f34, Tryz.func34, rfl⟩⟩   -- sculler/scullerref07.Right
instance : FuncI Tryz.prog 35 := ⟨⟨Tryz.f35, Tryz.func35, rfl⟩⟩   -- sculler/scullerref09.Walk
instance : FuncI Tryz.prog 36 := ⟨⟨Tryz.f36, Tryz.func36, rfl⟩⟩   -- sculler/valid.decoded
instance : FuncI Tryz.prog 41 := ⟨⟨Tryz.f41, Tryz.func41, rfl⟩⟩   -- sculler/scullerref08.Right
instance : FuncI Tryz.prog 42 := ⟨⟨Tryz.f42, Tryz.func42, rfl⟩⟩   -- sculler/scullerref08.lay
instance : FuncI Tryz.prog 47 := ⟨⟨Tryz.f47, Tryz.func47, rfl⟩⟩   -- sculler/build.Same
instance : FuncI Tryz.prog 48 := ⟨⟨Tryz.f48, Tryz.func48, rfl⟩⟩   -- sculler/scullerref06.low
instance : FuncI Tryz.prog 49 := ⟨⟨Tryz.f49, Tryz.func49, rfl⟩⟩   -- sculler/scullerref06.Decode
instance : FuncI Tryz.prog 50 := ⟨⟨Tryz.f50, Tryz.func50, rfl⟩⟩   -- sculler/arena.Fits
instance : FuncI Tryz.prog 51 := ⟨⟨Tryz.f51, Tryz.func51, rfl⟩⟩   -- sculler/arena.Sizes
instance : FuncI Tryz.prog 52 := ⟨⟨Tryz.f52, Tryz.func52, rfl⟩⟩   -- sculler/read.Follow
instance : FuncI Tryz.prog 53 := ⟨⟨Tryz.f53, Tryz.func53, rfl⟩⟩   -- (*sculler/read.walker).pay
instance : FuncI Tryz.prog 54 := ⟨⟨Tryz.f54, Tryz.func54, rfl⟩⟩   -- (*sculler/read.walker).step
instance : FuncI Tryz.prog 55 := ⟨⟨Tryz.f55, Tryz.func55, rfl⟩⟩   -- (*sculler/read.walker).is
instance : FuncI Tryz.prog 56 := ⟨⟨Tryz.f56, Tryz.func56, rfl⟩⟩   -- (*sculler/read.walker).word
instance : FuncI Tryz.prog 57 := ⟨⟨Tryz.f57, Tryz.func57, rfl⟩⟩   -- slices.DeleteFunc[[]sculler/api.Span,sculler/api.Span]
instance : FuncI Tryz.prog 58 := ⟨⟨Tryz.f58, Tryz.func58, rfl⟩⟩   -- slices.Clone[[]sculler/api.Span,sculler/api.Span]
instance : FuncI Tryz.prog 59 := ⟨⟨Tryz.f59, Tryz.func59, rfl⟩⟩   -- sculler/span.none
instance : FuncI Tryz.prog 60 := ⟨⟨Tryz.f60, Tryz.func60, rfl⟩⟩   -- slices.SortFunc[[]sculler/api.Span,sculler/api.Span]
instance : FuncI Tryz.prog 62 := ⟨⟨Tryz.f62, Tryz.func62, rfl⟩⟩   -- cmp.Or[int]
instance : FuncI Tryz.prog 63 := ⟨⟨Tryz.f63, Tryz.func63, rfl⟩⟩   -- cmp.Compare[int]
instance : FuncI Tryz.prog 64 := ⟨⟨Tryz.f64, Tryz.func64, rfl⟩⟩   -- sculler/scullerref07.Fits
instance : FuncI Tryz.prog 65 := ⟨⟨Tryz.f65, Tryz.func65, rfl⟩⟩   -- sculler/scullerref07.Sizes
instance : FuncI Tryz.prog 66 := ⟨⟨Tryz.f66, Tryz.func66, rfl⟩⟩   -- sculler/scullerref09.Follow
instance : FuncI Tryz.prog 67 := ⟨⟨Tryz.f67, Tryz.func67, rfl⟩⟩   -- sculler/scullerref09.Words
instance : FuncI Tryz.prog 68 := ⟨⟨Tryz.f68, Tryz.func68, rfl⟩⟩   -- sculler/scullerref09.step
instance : FuncI Tryz.prog 69 := ⟨⟨Tryz.f69, Tryz.func69, rfl⟩⟩   -- sculler/scullerref09.value
instance : FuncI Tryz.prog 70 := ⟨⟨Tryz.f70, Tryz.func70, rfl⟩⟩   -- sculler/tree.Decode
instance : FuncI Tryz.prog 71 := ⟨⟨Tryz.f71, Tryz.func71, rfl⟩⟩   -- sculler/build.Right
instance : FuncI Tryz.prog 72 := ⟨⟨Tryz.f72, Tryz.func72, rfl⟩⟩   -- sculler/scullerref09.Word
instance : FuncI Tryz.prog 73 := ⟨⟨Tryz.f73, Tryz.func73, rfl⟩⟩   -- sculler/scullerref08.deep
instance : FuncI Tryz.prog 74 := ⟨⟨Tryz.f74, Tryz.func74, rfl⟩⟩   -- sculler/scullerref08.Need
instance : FuncI Tryz.prog 75 := ⟨⟨Tryz.f75, Tryz.func75, rfl⟩⟩   -- sculler/scullerref08.set
instance : FuncI Tryz.prog 76 := ⟨⟨Tryz.f76, Tryz.func76, rfl⟩⟩   -- sculler/scullerref08.near
instance : FuncI Tryz.prog 77 := ⟨⟨Tryz.f77, Tryz.func77, rfl⟩⟩   -- sculler/scullerref08.more
instance : FuncI Tryz.prog 78 := ⟨⟨Tryz.f78, Tryz.func78, rfl⟩⟩   -- sculler/scullerref08.far
instance : FuncI Tryz.prog 79 := ⟨⟨Tryz.f79, Tryz.func79, rfl⟩⟩   -- sculler/scullerref08.content
instance : FuncI Tryz.prog 82 := ⟨⟨Tryz.f82, Tryz.func82, rfl⟩⟩   -- slices.Equal[[]uint64,uint64]
instance : FuncI Tryz.prog 83 := ⟨⟨Tryz.f83, Tryz.func83, rfl⟩⟩   -- bytes.Equal
instance : FuncI Tryz.prog 84 := ⟨⟨Tryz.f84, Tryz.func84, rfl⟩⟩   -- slices.EqualFunc[[]sculler/api.Node,[]sculler/api.Node,sculler/api.Node,sculler/api.Node]
instance : FuncI Tryz.prog 85 := ⟨⟨Tryz.f85, Tryz.func85, rfl⟩⟩   -- sculler/scullerref06.bits
instance : FuncI Tryz.prog 86 := ⟨⟨Tryz.f86, Tryz.func86, rfl⟩⟩   -- sculler/scullerref01.Signed
instance : FuncI Tryz.prog 87 := ⟨⟨Tryz.f87, Tryz.func87, rfl⟩⟩   -- sculler/word.Add
instance : FuncI Tryz.prog 88 := ⟨⟨Tryz.f88, Tryz.func88, rfl⟩⟩   -- sculler/read.pointer
instance : FuncI Tryz.prog 89 := ⟨⟨Tryz.f89, Tryz.func89, rfl⟩⟩   -- sculler/read.near
instance : FuncI Tryz.prog 90 := ⟨⟨Tryz.f90, Tryz.func90, rfl⟩⟩   -- sculler/read.found
instance : FuncI Tryz.prog 91 := ⟨⟨Tryz.f91, Tryz.func91, rfl⟩⟩   -- sculler/read.twice
instance : FuncI Tryz.prog 92 := ⟨⟨Tryz.f92, Tryz.func92, rfl⟩⟩   -- sculler/read.landed
instance : FuncI Tryz.prog 93 := ⟨⟨Tryz.f93, Tryz.func93, rfl⟩⟩   -- sculler/read.Words
instance : FuncI Tryz.prog 94 := ⟨⟨Tryz.f94, Tryz.func94, rfl⟩⟩   -- slices.IndexFunc[[]sculler/api.Span,sculler/api.Span]
instance : FuncI Tryz.prog 97 := ⟨⟨Tryz.f97, Tryz.func97, rfl⟩⟩   -- cmp.isNaN[int]
instance : FuncI Tryz.prog 98 := ⟨⟨Tryz.f98, Tryz.func98, rfl⟩⟩   -- sculler/scullerref09.ptr
instance : FuncI Tryz.prog 99 := ⟨⟨Tryz.f99, Tryz.func99, rfl⟩⟩   -- sculler/scullerref09.near
instance : FuncI Tryz.prog 100 := ⟨⟨Tryz.f100, Tryz.func100, rfl⟩⟩   -- sculler/scullerref09.bounds
instance : FuncI Tryz.prog 101 := ⟨⟨Tryz.f101, Tryz.func101, rfl⟩⟩   -- sculler/scullerref09.obj
instance : FuncI Tryz.prog 102 := ⟨⟨Tryz.f102, Tryz.func102, rfl⟩⟩   -- sculler/scullerref09.double
instance : FuncI Tryz.prog 103 := ⟨⟨Tryz.f103, Tryz.func103, rfl⟩⟩   -- sculler/scullerref06.Words
instance : FuncI Tryz.prog 104 := ⟨⟨Tryz.f104, Tryz.func104, rfl⟩⟩   -- sculler/scullerref09.word
instance : FuncI Tryz.prog 105 := ⟨⟨Tryz.f105, Tryz.func105, rfl⟩⟩   -- (*sculler/tree.decoder).node
instance : FuncI Tryz.prog 106 := ⟨⟨Tryz.f106, Tryz.func106, rfl⟩⟩   -- sculler/build.right
instance : FuncI Tryz.prog 107 := ⟨⟨Tryz.f107, Tryz.func107, rfl⟩⟩   -- sculler/scullerref07.Word
instance : FuncI Tryz.prog 109 := ⟨⟨Tryz.f109, Tryz.func109, rfl⟩⟩   -- sculler/scullerref07.Words
instance : FuncI Tryz.prog 110 := ⟨⟨Tryz.f110, Tryz.func110, rfl⟩⟩   -- sculler/scullerref01.Get
instance : FuncI Tryz.prog 116 := ⟨⟨Tryz.f116, Tryz.func116, rfl⟩⟩   -- sculler/ptr.Decode
instance : FuncI Tryz.prog 117 := ⟨⟨Tryz.f117, Tryz.func117, rfl⟩⟩   -- sculler/ptr.Words
instance : FuncI Tryz.prog 118 := ⟨⟨Tryz.f118, Tryz.func118, rfl⟩⟩   -- sculler/read.of
instance : FuncI Tryz.prog 119 := ⟨⟨Tryz.f119, Tryz.func119, rfl⟩⟩   -- sculler/arena.Within
instance : FuncI Tryz.prog 130 := ⟨⟨Tryz.f130, Tryz.func130, rfl⟩⟩   -- sculler/scullerref07.Within
instance : FuncI Tryz.prog 131 := ⟨⟨Tryz.f131, Tryz.func131, rfl⟩⟩   -- (*sculler/tree.decoder).words
instance : FuncI Tryz.prog 132 := ⟨⟨Tryz.f132, Tryz.func132, rfl⟩⟩   -- (*sculler/tree.decoder).bytes
instance : FuncI Tryz.prog 133 := ⟨⟨Tryz.f133, Tryz.func133, rfl⟩⟩   -- sculler/build.own
instance : FuncI Tryz.prog 134 := ⟨⟨Tryz.f134, Tryz.func134, rfl⟩⟩   -- slices.ContainsFunc[[]sculler/api.Node,sculler/api.Node]
instance : FuncI Tryz.prog 135 := ⟨⟨Tryz.f135, Tryz.func135, rfl⟩⟩   -- sculler/build.right$1
instance : FuncI Tryz.prog 136 := ⟨⟨Tryz.f136, Tryz.func136, rfl⟩⟩   -- sculler/word.Ceil
instance : FuncI Tryz.prog 141 := ⟨⟨Tryz.f141, Tryz.func141, rfl⟩⟩   -- sculler/ptr.kind
instance : FuncI Tryz.prog 142 := ⟨⟨Tryz.f142, Tryz.func142, rfl⟩⟩   -- (sculler/ptr.field).get
instance : FuncI Tryz.prog 143 := ⟨⟨Tryz.f143, Tryz.func143, rfl⟩⟩   -- sculler/ptr.data
instance : FuncI Tryz.prog 144 := ⟨⟨Tryz.f144, Tryz.func144, rfl⟩⟩   -- sculler/ptr.ptrs
instance : FuncI Tryz.prog 145 := ⟨⟨Tryz.f145, Tryz.func145, rfl⟩⟩   -- sculler/ptr.size
instance : FuncI Tryz.prog 146 := ⟨⟨Tryz.f146, Tryz.func146, rfl⟩⟩   -- sculler/ptr.count
instance : FuncI Tryz.prog 147 := ⟨⟨Tryz.f147, Tryz.func147, rfl⟩⟩   -- sculler/ptr.place
instance : FuncI Tryz.prog 148 := ⟨⟨Tryz.f148, Tryz.func148, rfl⟩⟩   -- sculler/ptr.seg
instance : FuncI Tryz.prog 149 := ⟨⟨Tryz.f149, Tryz.func149, rfl⟩⟩   -- sculler/ptr.double
instance : FuncI Tryz.prog 150 := ⟨⟨Tryz.f150, Tryz.func150, rfl⟩⟩   -- sculler/word.Signed
instance : FuncI Tryz.prog 151 := ⟨⟨Tryz.f151, Tryz.func151, rfl⟩⟩   -- sculler/ptr.off
instance : FuncI Tryz.prog 157 := ⟨⟨Tryz.f157, Tryz.func157, rfl⟩⟩   -- sculler/word.Put
instance : FuncI Tryz.prog 158 := ⟨⟨Tryz.f158, Tryz.func158, rfl⟩⟩   -- slices.IndexFunc[[]sculler/api.Node,sculler/api.Node]
instance : FuncI Tryz.prog 181 := ⟨⟨Tryz.f181, Tryz.func181, rfl⟩⟩   -- sculler/arena.Place
instance : FuncI Tryz.prog 184 := ⟨⟨Tryz.f184, Tryz.func184, rfl⟩⟩   -- sculler/arena.Word
theorem mixed : Tryz.prog.follows .mixedOrders = true := by kernel_rfl
end Go.Proofs.YtkkbbhpbcfcplaaGreat.K
namespace Go.Proofs.YtkkbbhpbcfcplaaGreat.K
open Go Go.RowKit
theorem wrap_u64 (n : Int) : IntKind.u64.wrap n = n % 18446744073709551616 := by simp [IntKind.wrap, IntKind.bits, IntKind.signed]
theorem yJ1 {k : IntKind} {a b : Int} (ha : 0 ≤ a) (hb : 0 ≤ b) (ha' : a < 2 ^ k.bits) (hb' : b < 2 ^ k.bits) : yC5 .and k a b = k.wrap ((a.toNat &&& b.toNat : Nat) : Int) := by
  simp only [yC5, BitVec.toNat_and, BitVec.toNat_ofInt]
  congr 2
  have h1 : (a % ((2 ^ k.bits : Nat) : Int)).toNat = a.toNat := by rw [Int.emod_eq_of_lt ha (by simpa using ha')]
  have h2 : (b % ((2 ^ k.bits : Nat) : Int)).toNat = b.toNat := by rw [Int.emod_eq_of_lt hb (by simpa using hb')]
  rw [h1, h2]
def getF (at_ wide x : Int) : Int := yC5 .and .u64 (x / 2 ^ min at_.toNat 64) (IntKind.u64.wrap (IntKind.u64.wrap (1 * 2 ^ min wide.toNat 64) - 1))
theorem zR2 (a b : Nat) (ha : a ≤ 63) (hb : b ≤ 63) (x : Int) (h0 : 0 ≤ x) (h1 : x ≤ 18446744073709551615) : getF a b x = x / 2 ^ a % 2 ^ b := by
  unfold getF
  have e1 : min ((a : Int)).toNat 64 = a := by simp; omega
  have e2 : min ((b : Int)).toNat 64 = b := by simp; omega
  rw [e1, e2, Int.one_mul]
  have hp : (2 : Int) ^ b ≤ 2 ^ 63 := by
    have := Nat.pow_le_pow_right (show 0 < 2 by omega) hb
    exact_mod_cast this
  have hp1 : (1 : Int) ≤ 2 ^ b := by
    have := Nat.one_le_two_pow (n := b)
    exact_mod_cast this
  have hw1 : IntKind.u64.wrap ((2 : Int) ^ b) = 2 ^ b := by rw [wrap_u64]; omega
  have hw2 : IntKind.u64.wrap ((2 : Int) ^ b - 1) = 2 ^ b - 1 := by rw [wrap_u64]; omega
  rw [hw1, hw2]
  have hq0 : 0 ≤ x / 2 ^ a := Int.ediv_nonneg h0 (by have := Nat.one_le_two_pow (n := a); have : (1 : Int) ≤ 2 ^ a := by exact_mod_cast this
                                                     omega)
  have hq1 : x / 2 ^ a ≤ x := Int.ediv_le_self _ h0
  rw [yJ1 hq0 (by omega) (by show _ < (18446744073709551616 : Int); omega) (by show _ < (18446744073709551616 : Int); omega)]
  have ht : ((2 : Int) ^ b - 1).toNat = 2 ^ b - 1 := by
    have : ((2 : Int) ^ b - 1) = ((2 ^ b - 1 : Nat) : Int) := by
      have := Nat.one_le_two_pow (n := b); push_cast [this]; rfl
    rw [this]; simp
  rw [ht, Nat.and_two_pow_sub_one_eq_mod]
  have hx : ((((x / 2 ^ a).toNat % 2 ^ b : Nat)) : Int) = x / 2 ^ a % 2 ^ b := by
    rw [Int.natCast_emod, Int.toNat_of_nonneg hq0]; simp
  rw [hx]
  have hm0 := Int.emod_nonneg (x / 2 ^ a) (show (2 : Int) ^ b ≠ 0 by omega)
  have hm1 := Int.emod_lt_of_pos (x / 2 ^ a) (show (0 : Int) < 2 ^ b by omega)
  rw [wrap_u64]; omega
def qA6 (n : Int) : Int := if n < 536870912 then n else n - 1073741824
theorem yJ2 (n : Int) (h0 : 0 ≤ n) (h1 : n < 1073741824) :
    IntKind.i64.wrap (IntKind.u64.wrap (n * 2 ^ min ((64 : Int) - 30).toNat IntKind.u64.bits)) / 2 ^ min ((64 : Int) - 30).toNat IntKind.i64.bits = qA6 n := by
  show IntKind.i64.wrap (IntKind.u64.wrap (n * 17179869184)) / 17179869184 = qA6 n
  rw [wrap_u64, IntKind.wrap_i64]
  unfold qA6
  split <;> omega
structure Pt where
  kind : Int
  off : Int
  data : Int
  ptrs : Int
  size : Int
  count : Int
  seg : Int
  dbl : Bool
  deriving DecidableEq
def Pt.v (p : Pt) : Value := .agg #[.int .i64 p.kind, .int .i64 p.off, .int .i64 p.data, .int .i64 p.ptrs, .int .i64 p.size, .int .i64 p.count, .int .i64 p.seg, .bool p.dbl]
def Pt0 : Pt := ⟨0, 0, 0, 0, 0, 0, 0, false⟩
def decP (x : Int) : Pt :=
  if x = 0 then Pt0
  else if x % 4 = 0 then ⟨1, qA6 (x / 4 % 1073741824), x / 4294967296 % 65536, x / 281474976710656 % 65536, 0, 0, 0, false⟩
  else if x % 4 = 1 then ⟨2, qA6 (x / 4 % 1073741824), 0, 0, x / 4294967296 % 8, x / 34359738368 % 536870912, 0, false⟩
  else if x % 4 = 2 then ⟨3, x / 8 % 536870912, 0, 0, 0, 0, x / 4294967296 % 4294967296, decide (x / 4 % 2 = 1)⟩
  else Pt0
def decE (x : Int) : Int := if x = 0 then 0 else if x % 4 = 3 then 23 else 0
def encW (p : Pt) : Int :=
  if p.kind = 1 then p.off % 1073741824 * 4 + p.data % 65536 * 4294967296 + p.ptrs % 65536 * 281474976710656
  else if p.kind = 2 then 1 + p.off % 1073741824 * 4 + p.size % 8 * 4294967296 + p.count % 536870912 * 34359738368
  else if p.kind = 3 then 2 + (if p.dbl then 4 else 0) + p.off % 536870912 * 8 + p.seg % 4294967296 * 4294967296
  else 0
def zV1 (p : Pt) : Bool := decide (decE (encW p) = 0 ∧ decP (encW p) = p)
def encR (p : Pt) : Int := if zV1 p then encW p else 0
def encE (p : Pt) : Int := if zV1 p then 0 else 1
theorem zO6 (p : Pt) : 0 ≤ encW p ∧ encW p ≤ 18446744073709551615 := by
  unfold encW
  split
  · omega
  · split
    · omega
    · split
      · split <;> omega
      · omega
def zF4 (p : Pt) : Int :=
  if p.kind = 0 then 0
  else if p.kind = 1 then IntKind.i64.wrap (p.data + p.ptrs)
  else if p.kind = 3 then (if p.dbl then 2 else 1)
  else if p.kind = 2 then (if p.size = 2 then IntKind.i64.wrap ((IntKind.i64.wrap (IntKind.i64.wrap (p.count + 8) - 1)).tdiv 8) else if p.size = 5 ∨ p.size = 6 then p.count else 0)
  else 0
def zF9 (p : Pt) : Int :=
  if p.kind = 0 then 0
  else if p.kind = 1 then 0
  else if p.kind = 3 then 0
  else if p.kind = 2 then (if p.size = 2 then 0 else if p.size = 5 ∨ p.size = 6 then 0 else 23)
  else 23
def fieldsOf (p : Pt) : List (Int × Int × Int) :=
  if p.kind = 1 then [(0, 2, 0), (2, 30, p.off), (32, 16, p.data), (48, 16, p.ptrs)]
  else if p.kind = 2 then [(0, 2, 1), (2, 30, p.off), (32, 3, p.size), (35, 29, p.count)]
  else [(0, 2, 2), (2, 1, if p.dbl then 1 else 0), (3, 29, p.off), (32, 32, p.seg)]
theorem qA7 (n : Int) : IntKind.i64.wrap (n + 7) = IntKind.i64.wrap (IntKind.i64.wrap (n + 8) - 1) := by
  simp only [IntKind.wrap_i64, wrap64]; omega
theorem yW0 (x : Int) (k : Nat) : x / 2 ^ (k + 1) = x / 2 ^ k / 2 := by
  have h1 : (1 : Int) ≤ 2 ^ k := by have := Nat.one_le_two_pow (n := k); exact_mod_cast this
  rw [Int.pow_succ, Int.ediv_ediv_of_nonneg (by omega)]
theorem qA8 (k : Nat) (h : k ≤ 62) : (1 : Int) ≤ 2 ^ k ∧ (2 : Int) ^ k ≤ 4611686018427387904 ∧ (2 : Int) ^ (k + 1) = 2 * 2 ^ k := by
  refine ⟨?_, ?_, ?_⟩
  · have := Nat.one_le_two_pow (n := k); exact_mod_cast this
  · have := Nat.pow_le_pow_right (show 0 < 2 by omega) h
    have h5 : ((2 ^ k : Nat) : Int) ≤ ((2 ^ 62 : Nat) : Int) := by exact_mod_cast this
    simpa using h5
  · rw [Int.pow_succ]; omega
theorem qP3 (x : Int) (k : Nat) (h0 : 0 ≤ x) : 0 ≤ x / 2 ^ k ∧ x / 2 ^ k ≤ x := by
  have : (1 : Int) ≤ 2 ^ k := by have := Nat.one_le_two_pow (n := k); exact_mod_cast this
  exact ⟨Int.ediv_nonneg h0 (by omega), Int.ediv_le_self _ h0⟩
theorem qU9 (k : Nat) (h : k ≤ 29) : (1 : Int) ≤ 2 ^ k ∧ (2 : Int) ^ k ≤ 536870912 ∧ (2 : Int) ^ (k + 1) = 2 * 2 ^ k := by
  refine ⟨(qA8 k (by omega)).1, ?_, (qA8 k (by omega)).2.2⟩
  have := Nat.pow_le_pow_right (show 0 < 2 by omega) h
  have h5 : ((2 ^ k : Nat) : Int) ≤ ((2 ^ 29 : Nat) : Int) := by exact_mod_cast this
  simpa using h5
theorem five {c : List Value} (h : c.length = 5) : ∃ x0 x1 x2 x3 x4, c = [x0, x1, x2, x3, x4] := by
  match c, h with
  | [x0, x1, x2, x3, x4], _ => exact ⟨_, _, _, _, _, rfl⟩
def getP : List Int → Int
  | [] => 0
  | x :: xs => x + 256 * getP xs
theorem qC5 : ∀ (xs : List Int), (∀ x ∈ xs, inR .u8 x) → 0 ≤ getP xs ∧ getP xs < 256 ^ xs.length
  | [], _ => by simp [getP]
  | x :: xs, h => by
    have h1 := h x (by simp)
    have h2 := qC5 xs fun y hy => h y (by simp [hy])
    simp only [inR] at h1
    simp only [getP, List.length_cons, Int.pow_succ]
    omega
theorem yW1 {k : Nat} (h : k ≤ 7) : (256 : Int) ^ k ≤ 72057594037927936 := by
  match k, h with
  | 0, _ | 1, _ | 2, _ | 3, _ | 4, _ | 5, _ | 6, _ | 7, _ => decide
  | n + 8, h => omega
theorem yJ3 {ys : List Int} {m i : Nat} (hm : m = ys.length) (hi : i < m) : getP (ys.drop (m - (i + 1))) = ys[m - 1 - i]'(by omega) + 256 * getP (ys.drop (m - i)) := by
  rw [show m - (i + 1) = m - 1 - i from by omega, List.drop_eq_getElem_cons (by omega : m - 1 - i < ys.length), show m - 1 - i + 1 = m - i from by omega]
  rfl
def zQ6 (n j : Nat) : Nat := min 8 (n - 8 * j)
def zV2 (bs : List Int) (j : Nat) : Int := getP ((bs.drop (8 * j)).take 8)
theorem yC7 (bs : List Int) (j : Nat) : (bs.drop (8 * j)).take (zQ6 bs.length j) = (bs.drop (8 * j)).take 8 := by
  rw [List.take_eq_take_iff, List.length_drop, zQ6]; omega
def qC6 (bs : List Int) : List Int := (List.range ((bs.length + 7) / 8)).map (zV2 bs)
mutual
def Nd.sz : Nd → Nat
  | .mk _ _ _ _ ks => 1 + Nd.szs ks
def Nd.szs : List Nd → Nat
  | [] => 0
  | t :: ts => Nd.sz t + Nd.szs ts
end
theorem Nd.sz_pos (t : Nd) : 0 < t.sz := by cases t; simp only [Nd.sz]; omega
theorem Nd.szs_at : ∀ (ts : List Nd) (i : Nat) (t : Nd), ts[i]? = some t → t.sz ≤ Nd.szs ts
  | [], i, t, h => by simp at h
  | t :: ts, 0, u, h => by simp only [List.getElem?_cons_zero, Option.some.injEq] at h; subst h; simp only [Nd.szs]; omega
  | t :: ts, i + 1, u, h => by have := Nd.szs_at ts i u (by simpa using h); simp only [Nd.szs]; omega
def Nd.need : Nd → Int
  | .mk k _ w b ks => if k = 1 then (w.length : Int) + ks.length else if k = 2 then (w.length : Int) + ks.length + ((b.length : Int) + 7) / 8 else 0
def Nd.own : Nd → Bool
  | .mk k s w b ks =>
    if k = 0 then decide (s = 0) && decide ((w.length : Int) + b.length + ks.length = 0)
    else if k = 1 then decide (s = 0) && (decide ((b.length : Int) = 0) && decide ((if (ks.length : Int) > w.length then (ks.length : Int) else w.length) ≤ 100))
    else if k = 2 then
      if s = 2 then decide ((w.length : Int) + ks.length = 0) && decide ((b.length : Int) ≤ 4096)
      else if s = 5 then decide ((b.length : Int) + ks.length = 0) && decide ((w.length : Int) ≤ 4096)
      else if s = 6 then decide ((b.length : Int) + w.length = 0) && decide ((ks.length : Int) ≤ 4096)
      else false
    else false
mutual
def Nd.right : Nd → Nat → Bool
  | .mk k s w b ks, left => (Nd.mk k s w b ks).own && !(decide (k ≠ 0) && decide (left = 0)) && Nd.rights ks (left - 1)
def Nd.rights : List Nd → Nat → Bool
  | [], _ => true
  | t :: ts, left => Nd.right t left && Nd.rights ts left
end
def zR7 (p : Nat → Bool) : Nat → Nat → Int
  | 0, i => -1
  | n + 1, i => if p i then i else zR7 p n (i + 1)
theorem qC7 {p : Nat → Bool} : ∀ (n i : Nat), (∀ j, i ≤ j → j < i + n → p j = false) → zR7 p n i = -1
  | 0, _, _ => rfl
  | n + 1, i, h => by
    simp only [zR7, h i (Nat.le_refl _) (by omega), Bool.false_eq_true, if_false]
    exact qC7 n (i + 1) fun j h1 h2 => h j (by omega) (by omega)
theorem qC8 {p : Nat → Bool} : ∀ (n i k : Nat), i ≤ k → k < i + n → p k = true → (∀ j, i ≤ j → j < k → p j = false) → zR7 p n i = k
  | 0, i, k, h1, h2, _, _ => by omega
  | n + 1, i, k, h1, h2, h3, h4 => by
    by_cases hik : i = k
    · subst hik; simp only [zR7, h3, if_true]
    · simp only [zR7, h4 i (Nat.le_refl _) (by omega), Bool.false_eq_true, if_false]
      exact qC8 n (i + 1) k (by omega) (by omega) h3 fun j h5 h6 => h4 j (by omega) h6
theorem qP4 (p : Nat → Bool) : ∀ (n i : Nat), decide (zR7 p n i ≥ 0) = (List.range' i n).any p
  | 0, i => rfl
  | n + 1, i => by
    simp only [zR7, List.range'_succ, List.any_cons]
    by_cases h : p i = true
    · simp only [h, if_true, Bool.true_or]; exact decide_eq_true (by omega)
    · have h : p i = false := by simpa using h
      simp only [h, Bool.false_eq_true, if_false, Bool.false_or]; exact qP4 p n (i + 1)
theorem qK2 (left : Nat) : ∀ (ks : List Nd), Nd.rights ks left = !((List.range' 0 ks.length).any fun i => !((ks.getD i (.mk 0 0 [] [] [])).right left))
  | [] => by simp [Nd.rights]
  | t :: ts => by
    simp only [Nd.rights, List.length_cons, List.range'_succ, List.any_cons, List.getD_cons_zero]
    rw [qK2 left ts]
    have : (List.range' (0 + 1) ts.length).any (fun i => !(((t :: ts).getD i (.mk 0 0 [] [] [])).right left)) = (List.range' 0 ts.length).any fun i => !((ts.getD i (.mk 0 0 [] [] [])).right left) := by
      rw [show List.range' (0 + 1) ts.length = (List.range' 0 ts.length).map (· + 1) from by
        apply List.ext_getElem?
        intro i
        simp [List.getElem?_range', Nat.add_comm]
        by_cases h : i < ts.length <;> simp [h, Nat.add_comm]]
      rw [List.any_map]
      rfl
    rw [this, Bool.not_or, Bool.not_not]
def Nd.content : Nd → List Int
  | .mk _ _ w b ks => w ++ qC6 b ++ List.replicate ks.length 0
def Nd.ptr (off : Int) : Nd → Pt
  | .mk k s w b ks => if k = 1 then ⟨k, off, w.length, ks.length, 0, 0, 0, false⟩ else if k = 2 then ⟨k, off, 0, 0, s, (w.length : Int) + ks.length + b.length, 0, false⟩ else ⟨k, off, 0, 0, 0, 0, 0, false⟩
def Nd.near (t : Nd) (off : Int) : Int := encR (t.ptr off)
def farP (seg at_ : Int) : Int := encR ⟨3, at_, 0, 0, 0, 0, seg, false⟩
mutual
def Nd.needs : Nd → Int
  | .mk k s w b ks => (Nd.mk k s w b ks).need + Nd.needsL ks
def Nd.needsL : List Nd → Int
  | [] => 0
  | t :: ts => Nd.needs t + Nd.needsL ts
end
theorem Nd.need_nn (t : Nd) : 0 ≤ t.need := by
  cases t
  simp only [Nd.need]
  split
  · omega
  · split <;> omega
mutual
theorem Nd.needs_nn : ∀ (t : Nd), 0 ≤ t.needs
  | .mk k s w b ks => by have := Nd.need_nn (.mk k s w b ks); have := Nd.needsL_nn ks; simp only [Nd.needs]; omega
theorem Nd.needsL_nn : ∀ (ts : List Nd), 0 ≤ Nd.needsL ts
  | [] => by simp [Nd.needsL]
  | t :: ts => by have := Nd.needs_nn t; have := Nd.needsL_nn ts; simp only [Nd.needsL]; omega
end
theorem qA9 : ∀ (a b : List Nd), Nd.needsL (a ++ b) = Nd.needsL a + Nd.needsL b
  | [], b => by simp [Nd.needsL]
  | t :: a, b => by simp only [List.cons_append, Nd.needsL, qA9 a b]; omega
theorem qB0 (left : Nat) : ∀ (a b : List Nd), Nd.rights (a ++ b) left = (Nd.rights a left && Nd.rights b left)
  | [], b => by simp [Nd.rights]
  | t :: a, b => by simp [Nd.rights, qB0 left a b, Bool.and_assoc]
theorem qD9 {left : Nat} : ∀ {ks : List Nd} {k : Nat} (h : k < ks.length), ks[k].right left = false → Nd.rights ks left = false
  | t :: ts, 0, _, h => by simp at h; simp [Nd.rights, h]
  | t :: ts, k + 1, hk, h => by
    have := qD9 (ks := ts) (k := k) (by simpa using hk) (by simpa using h)
    simp [Nd.rights, this]
theorem qE0 {w b : List Int} {ks : List Nd} (h : (w.length : Int) + b.length + ks.length = 0) : ks = [] := List.eq_nil_of_length_eq_zero (by omega)
theorem yA2 {k s : Int} {w b : List Int} {ks : List Nd} (h : (Nd.mk k s w b ks).own = true) (hk : ¬ k ≠ 0) : ks = [] := by
  have hk : k = 0 := by omega
  subst hk
  simp only [Nd.own, if_true, Bool.and_eq_true, decide_eq_true_eq] at h
  exact qE0 h.2
theorem yA3 {k s : Int} {w b : List Int} {ks : List Nd} (h0 : ¬ k = 0) (h2 : ¬ k = 2) : ((((decide (k = 1) && decide (s = 0)) && decide ((w.length : Int) ≤ 100)) && decide ((b.length : Int) = 0)) && decide ((ks.length : Int) ≤ 100)) = (Nd.mk k s w b ks).own := by
  simp only [Nd.own, if_neg h0, if_neg h2]
  rw [Bool.eq_iff_iff]
  by_cases h1 : k = 1
  · simp only [h1, decide_true, Bool.true_and, if_true, Bool.and_eq_true, decide_eq_true_eq]
    split <;> omega
  · simp [h1]
theorem yA4 {k s : Int} {w b : List Int} {ks : List Nd} (h2 : k = 2) : ((((decide (s = 2) && decide ((w.length : Int) = 0)) && decide ((ks.length : Int) = 0)) && decide ((b.length : Int) ≤ 4096)) || (((decide (s = 5) && decide ((b.length : Int) = 0)) && decide ((ks.length : Int) = 0)) && decide ((w.length : Int) ≤ 4096)) || (((decide (s = 6) && decide ((b.length : Int) = 0)) && decide ((w.length : Int) = 0)) && decide ((ks.length : Int) ≤ 4096))) = (Nd.mk k s w b ks).own := by
  subst h2
  simp only [Nd.own, show ¬ ((2 : Int) = 0) from by decide, show ¬ ((2 : Int) = 1) from by decide, if_false, if_true]
  rw [Bool.eq_iff_iff]
  by_cases s2 : s = 2
  · simp only [if_pos s2, Bool.or_eq_true, Bool.and_eq_true, decide_eq_true_eq]; omega
  · by_cases s5 : s = 5
    · simp only [if_neg s2, if_pos s5, Bool.or_eq_true, Bool.and_eq_true, decide_eq_true_eq]; omega
    · by_cases s6 : s = 6
      · simp only [if_neg s2, if_neg s5, if_pos s6, Bool.or_eq_true, Bool.and_eq_true, decide_eq_true_eq]; omega
      · simp [s2, s5, s6]
def zJ1 (ws : List Int) : List Value := ws.map (.int .u64)
def zC4 : List (List Int) → Int
  | [] => 0
  | s :: A => (s.length : Int) + zC4 A
theorem zT4 : ∀ (a b : List (List Int)), zC4 (a ++ b) = zC4 a + zC4 b
  | [], b => by simp [zC4]
  | s :: a, b => by simp only [List.cons_append, zC4, zT4 a b]; omega
theorem zY5 {A : List (List Int)} {k : Nat} (h : k < A.length) : zC4 (A.take (k + 1)) = zC4 (A.take k) + (A[k].length : Int) := by
  rw [List.take_add_one, List.getElem?_eq_getElem h, zT4]; simp [zC4]
theorem qE1 : ∀ {A : List (List Int)}, (∀ s ∈ A, s.length ≤ 100000) → 0 ≤ zC4 A ∧ zC4 A ≤ 100000 * (A.length : Int)
  | [], _ => by simp [zC4]
  | s :: A, h => by
    have h1 := h s (by simp)
    have h2 := qE1 (A := A) fun t ht => h t (by simp [ht])
    simp only [zC4, List.length_cons]
    omega
theorem zN1 : ∀ (A : List (List Int)), 0 ≤ zC4 A
  | [] => by simp [zC4]
  | s :: A => by have := zN1 A; simp only [zC4]; omega
theorem qP5 {A : List (List Int)} (k : Nat) : zC4 (A.take k) ≤ zC4 A := by
  have h := zT4 (A.take k) (A.drop k)
  rw [List.take_append_drop] at h
  have := zN1 (A.drop k)
  omega
section
variable {TB TO TW : TypeId} {w w' : World} {bB : Nat} {so : Value} {segs : List Value} {A : List (List Int)} {size all : Int}
end
theorem qP6 {P : Program} {w w' : World} {base n m cp : Nat} {t ty el : TypeId} {sz by_ : Nat} {z v v' : Value} {ad : Option Addr} {xs ys : List Value} [hz : ElzI P t el sz by_ z] (hown : w.ownsRow base el sz v n xs) (hra : RowAt w sz ad m ys)
    (h1 : ∀ q ∈ ys, q.oneCell' = true) (hl : n + m ≤ maxLen) (hby : (n + m) * by_ ≤ 140737488355328) (hrun : (Builtin.append_ #[t, t] ty #[v, .slice ad m cp]).run P w = .ok v' w') : v'.ownBlock = v.ownBlock ∨ v'.ownBlock = some w.heap.size := by
  obtain ⟨hu, i, hi, hzz, hsz, hbb, hzs, hpos⟩ := qJ9 hz.h
  subst hsz; subst hbb
  have hsmall : n + m ≤ 9223372036854775807 := by simp only [maxLen] at hl; omega
  rcases Nat.eq_zero_or_pos m with hm | hm
  · subst hm
    have hys : ys = [] := List.eq_nil_of_length_eq_zero (by simpa using hra.len)
    subst hys
    rcases hown.2 with ⟨rfl, rfl⟩ | ⟨g, cap, cur, rfl, _, hg, hnc, _, hcs, _⟩
    · have hr : (Builtin.append_ #[t, t] ty #[.slice none 0 0, .slice ad 0 cp]).run P w = .ok (.slice none 0 0) w := by
        cases ad <;> simp [Builtin.append_, run_underlying hu, sizeOf, typeInfo, hi, Builtin.lenOf, Builtin.firstCells, loadCells, loadCellsFrom]
      rw [hr] at hrun
      simp only [Result.ok.injEq] at hrun
      exact .inl (by rw [← hrun.1])
    · cases ad with
      | none =>
        have hr : (Builtin.append_ #[t, t] ty #[.slice (some ⟨g, 0, none⟩) n cap, .slice none 0 cp]).run P w = .ok (.slice (some ⟨g, 0, none⟩) n cap) w := by
          simp [Builtin.append_, run_underlying hu, sizeOf, typeInfo, hi, Builtin.lenOf, Builtin.firstCells, hnc, storeCells]
        rw [hr] at hrun
        simp only [Result.ok.injEq] at hrun
        exact .inl (by rw [← hrun.1])
      | some ad =>
        have hr := run_append_room (P := P) w t ty el i hu hi g n cap cur hg ad 0 cp [] (by simp) (fun j u hj => by simp at hj) (by simp) (by omega) (by simp [hcs]; exact Nat.mul_le_mul_right _ hnc)
        rw [hr] at hrun
        simp only [Result.ok.injEq] at hrun
        exact .inl (by rw [← hrun.1]; rfl)
  · obtain ⟨b, o, cs, T, fr, rfl, hb, hrow⟩ := hra.at_ hm
    have hcell : ∀ j u, ys[j]? = some u → w.cell? ((⟨b, o, none⟩ : Addr).add j) = some u := fun j u hj => by
      rw [add_lit, cell_of_row w b (o + j) cs T fr hb]
      exact zQ4 hrow hj
    rcases hown.2 with ⟨rfl, rfl⟩ | ⟨g, cap, cur, rfl, _, hg, hnc, _, hcs, _⟩
    · have hr := run_append_nil (P := P) w t ty el i z hu hi hzz ⟨b, o, none⟩ m cp ys hra.len hcell hm (by omega) (by have := hby; simp only [Nat.zero_add] at this; omega)
      rw [hr] at hrun
      simp only [Result.ok.injEq] at hrun
      exact .inr (by rw [← hrun.1]; rfl)
    · by_cases hroom : n + m ≤ cap
      · have hr := run_append_room (P := P) w t ty el i hu hi g n cap cur hg ⟨b, o, none⟩ m cp ys hra.len hcell h1 hroom (by rw [hra.len, hcs, ← Nat.add_mul]; exact Nat.mul_le_mul_right _ hroom)
        rw [hr] at hrun
        simp only [Result.ok.injEq] at hrun
        exact .inl (by rw [← hrun.1]; rfl)
      · have hr := run_append_grow (P := P) w t ty el i z hu hi hzz ⟨g, 0, none⟩ n cap xs hown.1 (hown.cells (g := g) rfl) ⟨b, o, none⟩ m cp ys hra.len hcell (by omega) (by omega) (growslice_fits (by omega) hby)
        rw [hr] at hrun
        simp only [Result.ok.injEq] at hrun
        exact .inr (by rw [← hrun.1]; rfl)
theorem yC8 {P : Program} {w : World} {base n m cp : Nat} {t ty el : TypeId} {sz by_ : Nat} {z v : Value} {ad : Option Addr} {xs ys : List Value} [hz : ElzI P t el sz by_ z] (hown : w.ownsRow base el sz v n xs) (hra : RowAt w sz ad m ys)
    (h1 : ∀ q ∈ ys, q.oneCell' = true) (hl : n + m ≤ maxLen) (hby : (n + m) * by_ ≤ 140737488355328) (hbase : base ≤ w.heap.size) :
    ∃ v' w', (Builtin.append_ #[t, t] ty #[v, .slice ad m cp]).run P w = .ok v' w' ∧ w'.ownsRow base el sz v' (n + m) (xs ++ ys) ∧ w.grownBy w' v.ownBlock ∧ (v'.ownBlock = v.ownBlock ∨ v'.ownBlock = some w.heap.size) := by
  obtain ⟨hu, i, hi, hzz, hsz, hbb, hzs, hpos⟩ := qJ9 hz.h
  suffices h : ∃ v' w', (Builtin.append_ #[t, t] ty #[v, .slice ad m cp]).run P w = .ok v' w' ∧ w'.ownsRow base el sz v' (n + m) (xs ++ ys) ∧ w.grownBy w' v.ownBlock by
    obtain ⟨v', w', hr, ho, hg⟩ := h
    exact ⟨v', w', hr, ho, hg, qP6 (cp := cp) (ty := ty) hown hra h1 hl hby hr⟩
  rcases Nat.eq_zero_or_pos m with hm | hm
  · subst hm
    have hys : ys = [] := List.eq_nil_of_length_eq_zero (by simpa using hra.len)
    subst hys
    cases ad with
    | none =>
      have hrun : (Builtin.append_ #[t, t] ty #[v, .slice none 0 cp]).run P w = .ok v w := by
        rcases hown.2 with ⟨rfl, rfl⟩ | ⟨gg, cap, cur, rfl, _, _, hnc, _⟩
        · simp [Builtin.append_, run_underlying hu, sizeOf, typeInfo, hi, Builtin.lenOf, Builtin.firstCells]
        · simp [Builtin.append_, run_underlying hu, sizeOf, typeInfo, hi, Builtin.lenOf, Builtin.firstCells, hnc, storeCells]
      exact ⟨_, _, hrun, by simpa using hown, ⟨rfl, rfl, rfl, Nat.le_refl _, fun _ _ _ => rfl⟩⟩
    | some ad =>
      obtain ⟨v', w', hrun, ho, hg, _⟩ := run_append_own (P := P) w base t ty el i z sz by_ hu hi hzz hsz hbb hzs hpos v n xs hown ad 0 cp [] (by simp) (fun j u hj => by simp at hj) (by simp) hl hby hbase
      exact ⟨v', w', hrun, ho, hg⟩
  · obtain ⟨b, o, cs, T, fr, rfl, hb, hrow⟩ := hra.at_ hm
    obtain ⟨v', w', hrun, ho, hg, _⟩ := run_append_own (P := P) w base t ty el i z sz by_ hu hi hzz hsz hbb hzs hpos v n xs hown ⟨b, o, none⟩ m cp ys hra.len (fun j u hj => by
      rw [add_lit, cell_of_row w b (o + j) cs T fr hb]
      exact zQ4 hrow hj) h1 hl hby hbase
    exact ⟨v', w', hrun, ho, hg⟩
theorem qG6 {P : Program} {e : Env} {w : World} {K : Value → World → Prop} {d : Option Nat} {ty : TypeId} {pos : String} {af : Array Edge} {g : Option (Nat × Bool)} {t : TypeId} {x y : Operand} {xs_ : Array Operand} {at_ : Array TypeId} (hxs : xs_ = #[x, y]) (hat : at_ = #[t, t]) {base n m : Nat} {el : TypeId} {sz by_ : Nat} {z v u : Value} {xs ys : List Value} [hz : ElzI P t el sz by_ z] (hx : ev e x = v) (hy : ev e y = u)
    (hown : w.ownsRow base el sz v n xs) (hr : Row w sz u m ys) (h1 : ∀ q ∈ ys, q.oneCell' = true) (hl : n + m ≤ maxLen) (hby : (n + m) * by_ ≤ 140737488355328) (hbase : base ≤ w.heap.size)
    (h : ∀ v' w', w'.ownsRow base el sz v' (n + m) (xs ++ ys) → w.grownBy w' v.ownBlock → (v'.ownBlock = v.ownBlock ∨ v'.ownBlock = some w.heap.size) → K v' w') : Run1 P ⟨d, .call ⟨.builtin .append, xs_, at_⟩, ty, pos, af, g⟩ e w K := by
  subst hxs; subst hat
  obtain ⟨ad, cp, rfl, hmc, _, hra⟩ := hr
  obtain ⟨v', w', hrun, ho, hg, hbk⟩ := yC8 (P := P) (t := t) (ty := ty) (cp := cp) hown hra h1 hl hby hbase
  refine zE1 (v := v') (w' := w') ?_ (h v' w' ho hg hbk)
  simp only [execOp, resolve, invoke, builtin, Sem.run_bind, Sem.run_pure, Result.andThen_ok, List.map_toArray, List.map_cons, List.map_nil, hx, hy, hrun]
def growB (A : List (List Int)) (q : Nat) : List (List Int) := if q = A.length then A ++ [[]] else A
def zM2 (A : List (List Int)) (q : Nat) (l : List Int) : List (List Int) := (growB A q).set q ((growB A q).getD q [] ++ l)
theorem qB1 {A : List (List Int)} {q : Nat} (hq : q ≤ A.length) : q < (growB A q).length ∧ (growB A q).length ≤ A.length + 1 := by
  unfold growB; split
  · simp; omega
  · omega
section
variable {TB TO TW : TypeId} {w w1 w' : World} {bB : Nat} {so : Value} {segs : List Value} {A : List (List Int)} {size all : Int}
end
def zG2 (w : World) (v : Value) (A : List (List Int)) : Prop := ∃ segs, Row w 1 v A.length segs ∧ ∀ (i : Nat) (s : List Int), A[i]? = some s → ∃ u, segs[i]? = some u ∧ Row w 1 u s.length (zJ1 s)
theorem zG2.grow {w w' : World} {v : Value} {A : List (List Int)} (h : zG2 w v A) (g : Grow w w') : zG2 w' v A := by
  obtain ⟨segs, h1, h2⟩ := h
  refine ⟨segs, h1.grow g, fun i s hs => ?_⟩
  obtain ⟨u, hu, hr⟩ := h2 i s hs
  exact ⟨u, hu, hr.grow g⟩
structure KtP (T : TypeId) (base : Nat) (w w' : World) : Prop where
  os : w'.os = w.os
  tape : w'.tape = w.tape
  output : w'.output = w.output
  size : w.heap.size ≤ w'.heap.size
  old : ∀ k : Nat, k < w.heap.size → (k < base ∨ ¬ ∃ cs, w.heap[k]? = some (.cells cs T (0, 0))) → w'.heap[k]? = w.heap[k]?
  new : ∀ (k : Nat) (cs : Array Value), w.heap[k]? = some (.cells cs T (0, 0)) → ∃ cs' : Array Value, cs'.size = cs.size ∧ w'.heap[k]? = some (.cells cs' T (0, 0))
def ktR (T : TypeId) (base : Nat) : KpR where
  r := KtP T base
  refl := fun w => ⟨rfl, rfl, rfl, Nat.le_refl _, fun _ _ _ => rfl, fun k cs h => ⟨cs, rfl, h⟩⟩
  tr := fun {a b c} h k => ⟨k.os.trans h.os, k.tape.trans h.tape, k.output.trans h.output, Nat.le_trans h.size k.size, fun i hi hc => by
      have h1 := h.old i hi hc
      rw [k.old i (Nat.lt_of_lt_of_le hi h.size) (by rw [h1]; exact hc), h1], fun i cs hi => by
      obtain ⟨cs1, h1, h2⟩ := h.new i cs hi
      obtain ⟨cs2, h3, h4⟩ := k.new i cs1 h2
      exact ⟨cs2, h3.trans h1, h4⟩⟩
  grow := fun {a b} g => ⟨g.os, g.tape, g.output, g.size, fun k hk _ => g.block k hk, fun k cs h => ⟨cs, rfl, g.heap h⟩⟩
theorem KtP.to_grow {T : TypeId} {W w w' : World} (k : KtP T W.heap.size w w') (g : Grow W w) : Grow W w' :=
  ⟨k.os.trans g.os, k.tape.trans g.tape, k.output.trans g.output, Nat.le_trans g.size k.size, fun i hi => by rw [k.old i (Nat.lt_of_lt_of_le hi g.size) (.inl hi), g.block i hi]⟩
theorem KtP.of_upd {T : TypeId} {base b : Nat} {w w' : World} {cs cs2 : Array Value} (u : Upd b w w') (hb : base ≤ b) (h : w.heap[b]? = some (.cells cs T (0, 0))) (h2 : w'.heap[b]? = some (.cells cs2 T (0, 0))) (hs : cs2.size = cs.size) : KtP T base w w' :=
  ⟨u.os, u.tape, u.output, by rw [u.size]; exact Nat.le_refl _, fun k hk hc => u.other k (fun he => hc.elim (fun h3 => by omega) (fun h3 => h3 ⟨cs, he ▸ h⟩)), fun k cs3 h3 => by
    by_cases he : k = b
    · subst he
      rw [h] at h3
      simp only [Option.some.injEq, Obj.cells.injEq] at h3
      exact ⟨cs2, by rw [hs, h3.1], h2⟩
    · exact ⟨cs3, rfl, by rw [u.other k he]; exact h3⟩⟩
abbrev len2 (A : List (List Int)) (j : Nat) : Nat := (A.getD j []).length
def setP (A : List (List Int)) (s i : Nat) (x : Int) : List (List Int) := A.set s ((A.getD s []).set i x)
theorem yA6 {α : Type} (A : List α) (s j : Nat) (x d : α) (hs : s < A.length) : (A.set s x).getD j d = if j = s then x else A.getD j d := by
  rw [List.getD_eq_getElem?_getD, List.getD_eq_getElem?_getD]
  by_cases h : j = s
  · subst h; rw [List.getElem?_set_self hs, if_pos rfl]; rfl
  · rw [List.getElem?_set_ne (Ne.symm h), if_neg h]
theorem zE4 (A : List (List Int)) (s i : Nat) (x : Int) : (setP A s i x).length = A.length := by simp [setP]
theorem yJ5 (A : List (List Int)) (s i j : Nat) (x : Int) (hs : s < A.length) : (setP A s i x).getD j [] = if j = s then (A.getD s []).set i x else A.getD j [] := yA6 A s j _ _ hs
theorem zP2 (A : List (List Int)) (s i j : Nat) (x : Int) : len2 (setP A s i x) j = len2 A j := by
  by_cases hs : s < A.length
  · simp only [len2, yJ5 A s i j x hs]
    split
    · subst_vars; simp
    · rfl
  · simp only [len2, setP, List.set_eq_of_length_le (by omega : A.length ≤ s)]
theorem qK3 : ∀ (A : List (List Int)) (s : Nat) (l : List Int), s < A.length → zC4 (A.set s l) = zC4 A - (A.getD s []).length + l.length
  | [], s, l, h => by simp at h
  | a :: A, 0, l, h => by simp [zC4]; omega
  | a :: A, s + 1, l, h => by
    have := qK3 A s l (by simpa using h)
    simp only [List.set_cons_succ, zC4, this, List.getD_cons_succ]; omega
theorem qG7 (A : List (List Int)) (s i : Nat) (x : Int) : zC4 (setP A s i x) = zC4 A := by
  by_cases hs : s < A.length
  · unfold setP; rw [qK3 A s _ hs, List.length_set]; omega
  · rw [setP, List.set_eq_of_length_le (by omega : A.length ≤ s)]
theorem zQ7 (A : List (List Int)) (q : Nat) : (growB A q).length = if q = A.length then A.length + 1 else A.length := by
  unfold growB; split <;> simp
theorem qC9 (A : List (List Int)) (q j : Nat) : (growB A q).getD j [] = A.getD j [] := by
  unfold growB
  split
  · rw [List.getD_eq_getElem?_getD, List.getD_eq_getElem?_getD]
    rcases Nat.lt_trichotomy j A.length with h | h | h
    · rw [List.getElem?_append_left h]
    · subst h; rw [List.getElem?_append_right (Nat.le_refl _), List.getElem?_eq_none (Nat.le_refl _)]; simp
    · rw [List.getElem?_eq_none (by simp; omega), List.getElem?_eq_none (by omega)]
  · rfl
theorem zK7 (A : List (List Int)) (q : Nat) (l : List Int) : (zM2 A q l).length = if q = A.length then A.length + 1 else A.length := by
  unfold zM2; rw [List.length_set, zQ7]
theorem zM3 (A : List (List Int)) (q j : Nat) (l : List Int) (hq : q ≤ A.length) : (zM2 A q l).getD j [] = if j = q then A.getD q [] ++ l else A.getD j [] := by
  unfold zM2
  rw [yA6 _ _ _ _ _ (qB1 hq).1, qC9, qC9]
structure Lay where
  A : List (List Int)
  full : Bool
def qV0 (size : Int) (A : List (List Int)) (q : Nat) : Bool := !(decide ((A.length : Int) ≤ 16) && (decide ((len2 A q : Int) ≤ size) && decide (zC4 A ≤ 4096)))
def zO3 (size : Int) (S : Lay) (q : Nat) (l : List Int) : Lay := ⟨zM2 S.A q l, S.full || qV0 size (zM2 S.A q l) q⟩
structure Plc where
  S : Lay
  seg : Nat
  at_ : Nat
def zD2 (A : List (List Int)) : Nat := A.length - 1
def yA7 (size : Int) (t : Nd) (A : List (List Int)) (s : Nat) : Bool := decide (s = zD2 A) || decide ((len2 A (zD2 A) : Int) + t.need + 1 > size)
def zG0 (size : Int) (t : Nd) (S : Lay) (s i : Nat) : Plc :=
  if s = zD2 S.A ∧ (len2 S.A (zD2 S.A) : Int) + t.need ≤ size then ⟨⟨setP S.A s i (t.near ((len2 S.A (zD2 S.A) : Int) - i - 1)), S.full⟩, zD2 S.A, len2 S.A (zD2 S.A)⟩
  else if yA7 size t S.A s then ⟨zO3 size ⟨setP S.A s i (farP ((zD2 S.A : Int) + 1) 0), S.full⟩ (zD2 S.A + 1) [t.near 0], zD2 S.A + 1, 1⟩
  else ⟨zO3 size ⟨setP S.A s i (farP (zD2 S.A) (len2 S.A (zD2 S.A))), S.full⟩ (zD2 S.A) [t.near 0], zD2 S.A, len2 S.A (zD2 S.A) + 1⟩
mutual
def Nd.lay (size : Int) : Nd → Lay → Nat → Nat → Lay
  | .mk k z w b ks, S, s, i =>
    if k = 0 ∨ S.full = true then S
    else if (Nd.mk k z w b ks).need = 0 then ⟨setP S.A s i ((Nd.mk k z w b ks).near (if k = 1 then -1 else 0)), S.full⟩
    else Nd.lays size ks (zO3 size (zG0 size (.mk k z w b ks) S s i).S (zG0 size (.mk k z w b ks) S s i).seg (Nd.mk k z w b ks).content) (zG0 size (.mk k z w b ks) S s i).seg ((zG0 size (.mk k z w b ks) S s i).at_ + ((Nd.mk k z w b ks).need.toNat - ks.length))
def Nd.lays (size : Int) : List Nd → Lay → Nat → Nat → Lay
  | [], S, _, _ => S
  | t :: ts, S, s, i => Nd.lays size ts (Nd.lay size t S s i) s (i + 1)
end
theorem Nd.lays_append {size : Int} : ∀ (a b : List Nd) (S : Lay) (s i : Nat), Nd.lays size (a ++ b) S s i = Nd.lays size b (Nd.lays size a S s i) s (i + a.length)
  | [], b, S, s, i => rfl
  | t :: a, b, S, s, i => by
    simp only [List.cons_append, Nd.lays, List.length_cons]
    rw [Nd.lays_append a b]; congr 1; omega
theorem Nd.lays_take {size : Int} {ks : List Nd} {k : Nat} (h : k < ks.length) (S : Lay) (s i : Nat) : Nd.lays size (ks.take (k + 1)) S s i = ks[k].lay size (Nd.lays size (ks.take k) S s i) s (i + k) := by
  rw [List.take_add_one, List.getElem?_eq_getElem h, Nd.lays_append]
  simp only [Option.toList_some, Nd.lays, List.length_take]
  rw [Nat.min_eq_left (by omega)]
structure Fit (size : Int) (A : List (List Int)) : Prop where
  one : 1 ≤ A.length
  most : A.length ≤ 16
  seg : ∀ j, (len2 A j : Int) ≤ size
  all : zC4 A ≤ 4096
theorem Fit.set {size : Int} {A : List (List Int)} (h : Fit size A) (s i : Nat) (x : Int) : Fit size (setP A s i x) :=
  ⟨by rw [zE4]; exact h.one, by rw [zE4]; exact h.most, fun j => by rw [zP2]; exact h.seg j, by rw [qG7]; exact h.all⟩
theorem qV1 {size : Int} {A : List (List Int)} {q : Nat} (h : qV0 size A q = false) : A.length ≤ 16 ∧ (len2 A q : Int) ≤ size ∧ zC4 A ≤ 4096 := by
  simp only [qV0, Bool.not_eq_false', Bool.and_eq_true, decide_eq_true_eq] at h; omega
theorem Fit.more {size : Int} {A : List (List Int)} (h : Fit size A) {q : Nat} {l : List Int} (hq : q ≤ A.length) (hf : qV0 size (zM2 A q l) q = false) : Fit size (zM2 A q l) := by
  obtain ⟨h1, h2, h3⟩ := qV1 hf
  refine ⟨?_, h1, fun j => ?_, h3⟩
  · rw [zK7]; have := h.one; split <;> omega
  · by_cases hj : j = q
    · subst hj; exact h2
    · have h4 := h.seg j
      simp only [len2] at h4 ⊢
      rw [zM3 A q j l hq, if_neg hj]; exact h4
theorem yC9 (A : List (List Int)) (q j : Nat) (l : List Int) (hq : q ≤ A.length) : len2 A j ≤ len2 (zM2 A q l) j := by
  simp only [len2]; rw [zM3 A q j l hq]
  split
  · subst_vars; simp
  · exact Nat.le_refl _
theorem qP7 (A : List (List Int)) (q : Nat) (l : List Int) : A.length ≤ (zM2 A q l).length := by rw [zK7]; split <;> omega
structure Grew (A B : List (List Int)) : Prop where
  len : A.length ≤ B.length
  seg : ∀ j, len2 A j ≤ len2 B j
theorem Grew.refl (A : List (List Int)) : Grew A A := ⟨Nat.le_refl _, fun _ => Nat.le_refl _⟩
theorem Grew.trans {A B C : List (List Int)} (h : Grew A B) (k : Grew B C) : Grew A C := ⟨Nat.le_trans h.len k.len, fun j => Nat.le_trans (h.seg j) (k.seg j)⟩
theorem Grew.set (A : List (List Int)) (s i : Nat) (x : Int) : Grew A (setP A s i x) := ⟨by rw [zE4]; exact Nat.le_refl _, fun j => by rw [zP2]; exact Nat.le_refl _⟩
theorem Grew.more (A : List (List Int)) (q : Nat) (l : List Int) (hq : q ≤ A.length) : Grew A (zM2 A q l) := ⟨qP7 A q l, fun j => yC9 A q j l hq⟩
structure PlcOk (size : Int) (t : Nd) (S : Lay) (s i : Nat) : Prop where
  grew : Grew S.A (zG0 size t S s i).S.A
  seg : (zG0 size t S s i).seg < (zG0 size t S s i).S.A.length
  at_ : (zG0 size t S s i).at_ = len2 (zG0 size t S s i).S.A (zG0 size t S s i).seg
  fit : Fit size S.A → (zG0 size t S s i).S.full = false → Fit size (zG0 size t S s i).S.A
  full : S.full = true → (zG0 size t S s i).S.full = true
theorem zR8 {A : List (List Int)} {j : Nat} (h : A.length ≤ j) : len2 A j = 0 := by
  simp only [len2]; rw [List.getD_eq_getElem?_getD, List.getElem?_eq_none h]; rfl
theorem qP8 (size : Int) (t : Nd) (S : Lay) (s i : Nat) (h1 : 1 ≤ S.A.length) : PlcOk size t S s i := by
  have hl : zD2 S.A + 1 = S.A.length := by unfold zD2; omega
  unfold zG0 at *
  by_cases h : s = zD2 S.A ∧ (len2 S.A (zD2 S.A) : Int) + t.need ≤ size
  · constructor <;> simp only [zG0, if_pos h]
    · exact Grew.set _ _ _ _
    · rw [zE4]; omega
    · rw [zP2]
    · intro hF _; exact hF.set _ _ _
    · exact id
  · by_cases hn : yA7 size t S.A s = true
    · have hq : zD2 S.A + 1 ≤ (setP S.A s i (farP ((zD2 S.A : Int) + 1) 0)).length := by rw [zE4]; omega
      constructor <;> simp only [zG0, if_neg h, if_pos hn, zO3]
      · exact (Grew.set S.A s i (farP ((zD2 S.A : Int) + 1) 0)).trans (Grew.more _ _ _ hq)
      · rw [zK7, zE4]; split <;> omega
      · rw [len2, zM3 _ _ _ _ hq, if_pos rfl, List.length_append]
        have : len2 (setP S.A s i (farP ((zD2 S.A : Int) + 1) 0)) (zD2 S.A + 1) = 0 := zR8 (by rw [zE4]; omega)
        simp only [len2] at this; rw [this]; rfl
      · intro hF hf; simp only [Bool.or_eq_false_iff] at hf; exact (hF.set _ _ _).more hq hf.2
      · intro h; simp [h]
    · have hq : zD2 S.A ≤ (setP S.A s i (farP (zD2 S.A) (len2 S.A (zD2 S.A)))).length := by rw [zE4]; omega
      constructor <;> simp only [zG0, if_neg h, if_neg hn, zO3]
      · exact (Grew.set S.A s i (farP (zD2 S.A) (len2 S.A (zD2 S.A)))).trans (Grew.more _ _ _ hq)
      · rw [zK7, zE4]; split <;> omega
      · have h2 := zP2 S.A s i (zD2 S.A) (farP (zD2 S.A) (len2 S.A (zD2 S.A)))
        have h3 : len2 (zM2 (setP S.A s i (farP (zD2 S.A) (len2 S.A (zD2 S.A)))) (zD2 S.A) [t.near 0]) (zD2 S.A) = len2 (setP S.A s i (farP (zD2 S.A) (len2 S.A (zD2 S.A)))) (zD2 S.A) + 1 := by
          rw [len2, zM3 _ _ _ _ hq, if_pos rfl, List.length_append]; rfl
        rw [h3, h2]
      · intro hF hf; simp only [Bool.or_eq_false_iff] at hf; exact (hF.set _ _ _).more hq hf.2
      · intro h; simp [h]
structure LayOk (size : Int) (S R : Lay) : Prop where
  grew : Grew S.A R.A
  fit : Fit size S.A → R.full = false → Fit size R.A
  full : S.full = true → R.full = true
theorem LayOk.refl (size : Int) (S : Lay) : LayOk size S S := ⟨Grew.refl _, fun h _ => h, id⟩
theorem LayOk.trans {size : Int} {S R Q : Lay} (h : LayOk size S R) (k : LayOk size R Q) : LayOk size S Q :=
  ⟨h.grew.trans k.grew, fun hF hq => k.fit (h.fit hF (by cases hR : R.full with | false => rfl | true => rw [k.full hR] at hq; exact absurd hq (by simp))) hq, fun hS => k.full (h.full hS)⟩
theorem LayOk.more (size : Int) (S : Lay) (q : Nat) (l : List Int) (hq : q ≤ S.A.length) : LayOk size S (zO3 size S q l) :=
  ⟨Grew.more _ _ _ hq, fun hF hf => by simp only [zO3, Bool.or_eq_false_iff] at hf; exact hF.more hq hf.2, fun h => by simp [zO3, h]⟩
mutual
theorem Nd.lay_ok (size : Int) : ∀ (t : Nd) (S : Lay) (s i : Nat), 1 ≤ S.A.length → LayOk size S (t.lay size S s i)
  | .mk k z w b ks, S, s, i, h1 => by
    simp only [Nd.lay]
    split
    · exact LayOk.refl _ _
    · split
      · exact ⟨Grew.set _ _ _ _, fun hF _ => hF.set _ _ _, id⟩
      · have hp := qP8 size (.mk k z w b ks) S s i h1
        refine LayOk.trans ⟨hp.grew, hp.fit, hp.full⟩ (LayOk.trans (LayOk.more size _ _ (Nd.mk k z w b ks).content (Nat.le_of_lt hp.seg)) ?_)
        refine Nd.lays_ok size ks _ _ _ ?_
        have := hp.grew.len
        have := qP7 (zG0 size (.mk k z w b ks) S s i).S.A (zG0 size (.mk k z w b ks) S s i).seg (Nd.mk k z w b ks).content
        simp only [zO3]; omega
theorem Nd.lays_ok (size : Int) : ∀ (ts : List Nd) (S : Lay) (s i : Nat), 1 ≤ S.A.length → LayOk size S (Nd.lays size ts S s i)
  | [], S, _, _, _ => LayOk.refl _ _
  | t :: ts, S, s, i, h1 => by
    simp only [Nd.lays]
    have h := Nd.lay_ok size t S s i h1
    exact h.trans (Nd.lays_ok size ts _ _ _ (Nat.le_trans h1 h.grew.len))
end
theorem Nd.content_length (t : Nd) (hk : t.kind = 1 ∨ t.kind = 2) (hb : t.kind = 1 → t.bytes = []) : (t.content.length : Int) = t.need := by
  obtain ⟨k, z, w, b, ks⟩ := t
  simp only [Nd.kind, Nd.bytes] at hk hb
  simp only [Nd.content, Nd.need, qC6, List.length_append, List.length_map, List.length_range, List.length_replicate]
  rcases hk with h | h
  · have := hb h; subst this; simp [h]
  · simp [h]; omega
def Nd.build (t : Nd) (size : Int) : List (List Int) × Int :=
  if size < 1 ∨ size > 4096 ∨ t.right 32 = false then ([], 1)
  else if (t.lay size ⟨[[0]], false⟩ 0 0).full then ([], 24) else ((t.lay size ⟨[[0]], false⟩ 0 0).A, 0)
theorem zT6 {w w' : World} {base g n c i : Nat} {T : TypeId} {xs : List Value} {x : Value} {cur cur' : Array Value} (h : w.ownsRow base T 1 (.slice (some ⟨g, 0, none⟩) n c) n xs) (hb : w.heap[g]? = some (.cells cur T (0, 0)))
    (hb' : w'.heap[g]? = some (.cells cur' T (0, 0))) (hs : cur'.toList = cur.toList.set i x) : w'.ownsRow base T 1 (.slice (some ⟨g, 0, none⟩) n c) n (xs.set i x) := by
  obtain ⟨h1, h2⟩ := h
  refine ⟨by rw [List.length_set]; exact h1, .inr ?_⟩
  rcases h2 with ⟨h0, _⟩ | ⟨q, cap, cur0, hv, hq, hg, h3, h4, h5, h6⟩
  · cases h0
  · simp only [Value.slice.injEq, Option.some.injEq, Addr.mk.injEq, and_true, true_and] at hv
    obtain ⟨rfl, rfl⟩ := hv
    rw [hb] at hg
    simp only [Option.some.injEq, Obj.cells.injEq, and_true] at hg
    subst hg
    refine ⟨g, c, cur', rfl, hq, hb', h3, h4, ?_, ?_⟩
    · rw [← Array.length_toList, hs, List.length_set, Array.length_toList, h5]
    · rw [hs, List.take_set, h6]
structure OwnA (TO TW : TypeId) (w : World) (base : Nat) (so : Value) (segs : List Value) (A : List (List Int)) : Prop where
  out : w.ownsRow base TO 1 so A.length segs
  seg : ∀ (i : Nat) (v : Value) (ws : List Int), segs[i]? = some v → A[i]? = some ws → w.ownsRow base TW 1 v ws.length (zJ1 ws)
  dis : ∀ (i j : Nat) (v u : Value) (b : Nat), segs[i]? = some v → segs[j]? = some u → v.ownBlock = some b → u.ownBlock = some b → i = j
section
variable {TO TW : TypeId} {w w' : World} {base : Nat} {so so' : Value} {segs : List Value} {A : List (List Int)}
theorem OwnA.len (h : OwnA TO TW w base so segs A) : segs.length = A.length := by rw [h.out.1, Nat.mul_one]
theorem OwnA.at_ (h : OwnA TO TW w base so segs A) {i : Nat} (hi : i < A.length) : ∃ v, segs[i]? = some v ∧ w.ownsRow base TW 1 v A[i].length (zJ1 A[i]) :=
  ⟨segs[i]'(by rw [h.len]; exact hi), List.getElem?_eq_getElem _, h.seg i _ _ (List.getElem?_eq_getElem _) (List.getElem?_eq_getElem hi)⟩
theorem OwnA.grow (h : OwnA TO TW w base so segs A) (g : Grow w w') : OwnA TO TW w' base so segs A :=
  ⟨zB7 h.out g, fun i v ws hv hw => zB7 (h.seg i v ws hv hw) g, h.dis⟩
theorem OwnA.lower {base' : Nat} (h : OwnA TO TW w base so segs A) (hb : base' ≤ base) : OwnA TO TW w base' so segs A :=
  ⟨zT3 h.out hb, fun i v ws hv hw => zT3 (h.seg i v ws hv hw) hb, h.dis⟩
theorem OwnA.arena (h : OwnA TO TW w base so segs A) (hA : A.length ≤ 1000) (hs : ∀ s ∈ A, s.length ≤ 100000) : zG2 w so A := by
  refine ⟨segs, zI3 h.out (by omega), fun i s hi => ?_⟩
  have hl : i < A.length := (List.getElem?_eq_some_iff.1 hi).1
  obtain ⟨v, hv, ho⟩ := h.at_ hl
  have he : A[i] = s := by rw [List.getElem?_eq_getElem hl] at hi; exact Option.some.inj hi
  rw [he] at ho
  exact ⟨v, hv, zI3 ho (by have := hs s (List.mem_of_getElem? hi); omega)⟩
def growV (segs : List Value) (q : Nat) : List Value := if q = segs.length then segs ++ [.slice none 0 0] else segs
theorem qF4 {q i : Nat} {v : Value} (h : (growV segs q)[i]? = some v) : segs[i]? = some v ∨ (i = segs.length ∧ v = .slice none 0 0) := by
  unfold growV at h
  split at h
  · rcases Nat.lt_or_ge i segs.length with hi | hi
    · rw [List.getElem?_append_left hi] at h; exact .inl h
    · rw [List.getElem?_append_right hi] at h
      have h2 := List.getElem?_eq_some_iff.1 h
      simp at h2
      obtain ⟨h3, h4⟩ := h2
      exact .inr ⟨by omega, h4.symm⟩
  · exact .inl h
theorem OwnA.copy {q : Nat} {u : Value} {ws : List Int} (h : OwnA TO TW w base so segs A) (hbw : base ≤ w.heap.size) (g : Grow w w') (hq : q ≤ A.length) (hu : w'.ownsRow w.heap.size TW 1 u ws.length (zJ1 ws)) (ho : w'.ownsRow base TO 1 so' (growB A q).length ((growV segs q).set q u)) :
    OwnA TO TW w' base so' ((growV segs q).set q u) ((growB A q).set q ws) := by
  have hlen : (growV segs q).length = (growB A q).length := by unfold growV growB; rw [h.len]; split <;> simp [h.len]
  have hqB := (qB1 hq).1
  have old : ∀ (i : Nat) (v : Value), (growV segs q)[i]? = some v → ∀ b, v.ownBlock = some b → b < w.heap.size := by
    intro i v hv b hb
    rcases qF4 hv with hv | ⟨_, rfl⟩
    · have hi : i < A.length := by rw [← h.len]; exact (List.getElem?_eq_some_iff.1 hv).1
      exact ((h.seg i v _ hv (List.getElem?_eq_getElem hi)).lt b hb).2
    · simp [Value.ownBlock] at hb
  refine ⟨by rw [List.length_set]; exact ho, fun i v s hv hs => ?_, fun i j v x b hv hx h1 h2 => ?_⟩
  · by_cases hi : i = q
    · subst hi
      rw [List.getElem?_set_self (by rw [hlen]; exact hqB)] at hv
      rw [List.getElem?_set_self hqB] at hs
      obtain rfl := Option.some.inj hv
      obtain rfl := Option.some.inj hs
      exact zT3 hu hbw
    · rw [List.getElem?_set_ne (Ne.symm hi)] at hv hs
      have hil : i < A.length := by
        have := (List.getElem?_eq_some_iff.1 hs).1
        have hg := zQ7 A q
        split at hg <;> omega
      have hs' : A[i]? = some s := by
        unfold growB at hs; split at hs
        · rwa [List.getElem?_append_left hil] at hs
        · exact hs
      rcases qF4 hv with hv | ⟨hi2, rfl⟩
      · exact zB7 (h.seg i v s hv hs') g
      · rw [h.len] at hi2; omega
  · by_cases hi : i = q
    · by_cases hj : j = q
      · rw [hi, hj]
      · subst hi
        rw [List.getElem?_set_self (by rw [hlen]; exact hqB)] at hv
        rw [List.getElem?_set_ne (Ne.symm hj)] at hx
        obtain rfl := Option.some.inj hv
        have := (hu.lt b h1).1
        have := old j x hx b h2
        omega
    · rw [List.getElem?_set_ne (Ne.symm hi)] at hv
      by_cases hj : j = q
      · subst hj
        rw [List.getElem?_set_self (by rw [hlen]; exact hqB)] at hx
        obtain rfl := Option.some.inj hx
        have := (hu.lt b h2).1
        have := old i v hv b h1
        omega
      · rw [List.getElem?_set_ne (Ne.symm hj)] at hx
        rcases qF4 hv with hv | ⟨_, rfl⟩
        · rcases qF4 hx with hx | ⟨_, rfl⟩
          · exact h.dis i j v x b hv hx h1 h2
          · simp [Value.ownBlock] at h2
        · simp [Value.ownBlock] at h1
theorem OwnA.setw {q i g cap : Nat} {ws : List Int} {x : Int} {cur cur' : Array Value} (hOW : TO ≠ TW) (h : OwnA TO TW w base so segs A) (hA : A[q]? = some ws) (hs : segs[q]? = some (.slice (some ⟨g, 0, none⟩) ws.length cap))
    (hcur : w.heap[g]? = some (.cells cur TW (0, 0))) (hcur' : w'.heap[g]? = some (.cells cur' TW (0, 0))) (hset : cur'.toList = cur.toList.set i (.int .u64 x)) (u : Upd g w w') :
    OwnA TO TW w' base so segs (A.set q (ws.set i x)) := by
  have hqA : q < A.length := (List.getElem?_eq_some_iff.1 hA).1
  refine ⟨by rw [List.length_set]; exact zG5 h.out u (zF3 h.out hcur hOW), fun j v wj hv hw => ?_, h.dis⟩
  by_cases hj : j = q
  · subst hj
    rw [List.getElem?_set_self hqA] at hw
    rw [hs] at hv
    obtain rfl := Option.some.inj hv
    obtain rfl := Option.some.inj hw
    have := zT6 (h.seg j _ ws hs hA) hcur hcur' hset
    rw [List.length_set, zJ1, List.map_set]
    exact this
  · rw [List.getElem?_set_ne (Ne.symm hj)] at hw
    have hsj := h.seg j v wj hv hw
    exact zG5 hsj u fun he => hj (h.dis j q v _ g hv hs he rfl)
end
theorem zR9 {w : World} {base n sz : Nat} {T : TypeId} {v : Value} {xs : List Value} (h : w.ownsRow base T sz v n xs) : ∃ ad c, v = .slice ad n c ∧ n ≤ c := by
  rcases h.2 with ⟨rfl, rfl⟩ | ⟨q, cap, cur, rfl, _, _, hn, _⟩
  · exact ⟨_, _, rfl, Nat.le_refl _⟩
  · exact ⟨_, _, rfl, hn⟩
theorem qB4 {n : Nat} {segs : List Value} {len : Nat → Nat} (h : ∀ i, i < n → ∃ ad c, segs[i]? = some (.slice ad (len i) c)) : ∃ (sa : Nat → Option Addr) (sc : Nat → Nat), ∀ i, i < n → segs[i]? = some (.slice (sa i) (len i) (sc i)) := by
  have h2 : ∀ i, ∃ p : Option Addr × Nat, i < n → segs[i]? = some (.slice p.1 (len i) p.2) := fun i => by
    by_cases hi : i < n
    · obtain ⟨ad, c, h⟩ := h i hi; exact ⟨(ad, c), fun _ => h⟩
    · exact ⟨(none, 0), fun h => absurd h hi⟩
  obtain ⟨f, hf⟩ := Classical.axiomOfChoice h2
  exact ⟨fun i => (f i).1, fun i => (f i).2, hf⟩
section
variable {TB TO TW : TypeId} {w w' : World} {bB : Nat} {so : Value} {segs : List Value} {A : List (List Int)} {size all : Int}
theorem Grow.kp1 {g : Nat} {w0 w w' : World} (h : Grow w0 w) (k : Kp [g] w w') (hg : w0.heap.size ≤ g) : Grow w0 w' := h.trK k fun x hx => by simp only [List.mem_singleton] at hx; subst hx; exact hg
end
theorem yP3 {A : List (List Int)} (h : 1 ≤ A.length) : zD2 A < A.length ∧ ((A.length : Int) - 1) = (zD2 A : Int) := by unfold zD2; omega
def Nd.fine (t : Nd) : Prop := ∃ l, t.right l = true
theorem Nd.fine_own {t : Nd} (h : t.fine) : t.own = true := by
  obtain ⟨l, h⟩ := h
  obtain ⟨k, s, w, b, ks⟩ := t
  simp only [Nd.right, Bool.and_eq_true] at h
  exact h.1.1
theorem qP9 {left : Nat} : ∀ {ks : List Nd} {k : Nat} (h : k < ks.length), Nd.rights ks left = true → ks[k].right left = true
  | t :: ts, 0, _, h => by simp only [Nd.rights, Bool.and_eq_true] at h; exact h.1
  | t :: ts, k + 1, hk, h => by
    simp only [Nd.rights, Bool.and_eq_true] at h
    have := qP9 (ks := ts) (k := k) (by simpa using hk) h.2
    simpa using this
theorem Nd.fine_kid {k s : Int} {w b : List Int} {ks : List Nd} {j : Nat} (h : (Nd.mk k s w b ks).fine) (hj : j < ks.length) : ks[j].fine := by
  obtain ⟨l, h⟩ := h
  simp only [Nd.right, Bool.and_eq_true] at h
  exact ⟨_, qP9 hj h.2⟩
structure OwnB (k : Int) (w b : List Int) (ks : List Nd) (need : Int) : Prop where
  kd : k = 0 ∨ k = 1 ∨ k = 2
  lw : w.length ≤ 4096
  lb : b.length ≤ 4096
  lk : ks.length ≤ 4096
  nn : 0 ≤ need
  most : need ≤ 5000
  kids : k ≠ 0 → (ks.length : Int) ≤ need
  b1 : k = 1 → b = []
theorem Nd.own_b {k s : Int} {w b : List Int} {ks : List Nd} (h : (Nd.mk k s w b ks).own = true) : OwnB k w b ks (Nd.mk k s w b ks).need := by
  simp only [Nd.own] at h
  split at h
  · rename_i h0
    simp only [Bool.and_eq_true, decide_eq_true_eq] at h
    exact ⟨.inl h0, by omega, by omega, by omega, by simp [Nd.need, h0], by simp [Nd.need, h0], fun h => absurd h0 h, fun h => by omega⟩
  · rename_i h0
    split at h
    · rename_i h1
      simp only [Bool.and_eq_true, decide_eq_true_eq] at h
      obtain ⟨_, h2, h3⟩ := h
      have : w.length ≤ 100 ∧ ks.length ≤ 100 := by split at h3 <;> omega
      refine ⟨.inr (.inl h1), by omega, by omega, by omega, ?_, ?_, fun _ => ?_, fun _ => List.eq_nil_of_length_eq_zero (by omega)⟩ <;> simp only [Nd.need, if_pos h1] <;> omega
    · rename_i h1
      split at h
      · rename_i h2
        have : w.length ≤ 4096 ∧ b.length ≤ 4096 ∧ ks.length ≤ 4096 ∧ (w.length + ks.length = 0 ∨ (b.length = 0 ∧ (w.length = 0 ∨ ks.length = 0))) := by
          split at h
          · simp only [Bool.and_eq_true, decide_eq_true_eq] at h; omega
          · split at h
            · simp only [Bool.and_eq_true, decide_eq_true_eq] at h; omega
            · split at h
              · simp only [Bool.and_eq_true, decide_eq_true_eq] at h; omega
              · cases h
        refine ⟨.inr (.inr h2), by omega, by omega, by omega, ?_, ?_, fun _ => ?_, fun h => absurd h h1⟩ <;> simp only [Nd.need, if_neg h1, if_pos h2] <;> omega
      · cases h
theorem NodeR.cells {w : World} {c : List Value} {t : Nd} (h : NodeR w c t) : ∃ k s a n cp a2 n2 c2 a3 n3 c3, c = [.int .i64 k, .int .i64 s, .slice a n cp, .slice a2 n2 c2, .slice a3 n3 c3] := by
  obtain @⟨kind, size, words, bytes, kids, ws, bs, ks, kc, hk, hs, hW, hwr, hB, hbr, hK, hKs⟩ := h
  obtain ⟨aw, cw, rfl, -⟩ := hW
  obtain ⟨ab, cb, rfl, -⟩ := hB
  obtain ⟨ak, ck, rfl, -⟩ := hK
  exact ⟨_, _, _, _, _, _, _, _, _, _, _, rfl⟩
theorem Fit.init {size : Int} (h : 1 ≤ size) : Fit size [[0]] := ⟨by simp, by simp, fun j => by
  match j with
  | 0 => simp [len2]; exact h
  | j + 1 => simp [len2]; omega, by simp [zC4]⟩
theorem OwnA.nil (TO TW : TypeId) (w : World) (base : Nat) : OwnA TO TW w base (.slice none 0 0) [] [] :=
  ⟨⟨by simp, .inl ⟨rfl, rfl⟩⟩, fun i v ws hv _ => by simp at hv, fun i j v u b hv _ _ _ => by simp at hv⟩
theorem OwnA.fn {TO TW : TypeId} {w : World} {base : Nat} {so : Value} {segs : List Value} {A : List (List Int)} (h : OwnA TO TW w base so segs A) (hA : A.length ≤ 1000) : ∃ (ado : Option Addr) (co : Nat) (sa : Nat → Option Addr) (sc : Nat → Nat), so = .slice ado A.length co ∧ A.length ≤ co ∧ co ≤ maxLen ∧ RowAt w 1 ado A.length segs ∧ ∀ i, i < A.length → segs[i]? = some (.slice (sa i) (len2 A i) (sc i)) ∧ w.ownsRow base TW 1 (.slice (sa i) (len2 A i) (sc i)) (len2 A i) (zJ1 (A.getD i [])) := by
  obtain ⟨ado, co, h1, h2, h2', h3⟩ := zI3 h.out (by omega)
  obtain ⟨sa, sc, h4⟩ := qB4 (n := A.length) (segs := segs) (len := len2 A) fun i hi => by
    obtain ⟨v, hv, ho⟩ := h.at_ hi
    obtain ⟨ad, c, rfl, _⟩ := zR9 ho
    exact ⟨ad, c, by rw [len2, zE5 hi]; exact hv⟩
  refine ⟨ado, co, sa, sc, h1, h2, h2', h3, fun i hi => ⟨h4 i hi, ?_⟩⟩
  have := h.seg i _ _ (h4 i hi) (List.getElem?_eq_getElem hi)
  rw [len2, zE5 hi] at *
  exact this
theorem OwnA.one {TO TW : TypeId} {w : World} {base : Nat} {so : Value} {segs : List Value} {A : List (List Int)} (h : OwnA TO TW w base so segs A) : ∀ q ∈ segs, q.oneCell' = true := by
  intro q hq
  obtain ⟨i, hi, rfl⟩ := List.getElem_of_mem hq
  have hl : i < A.length := by rw [← h.len]; exact hi
  obtain ⟨v, hv, ho⟩ := h.at_ hl
  rw [List.getElem?_eq_getElem hi] at hv
  obtain rfl := Option.some.inj hv
  exact yV5 ho
def LayV (TO TW : TypeId) (w : World) (base : Nat) (lim : Int) (v : Value) (S : Lay) : Prop := ∃ so segs, v = .agg #[so, .int .i64 lim, .bool S.full] ∧ OwnA TO TW w base so segs S.A
theorem LayV.grow {TO TW : TypeId} {w w' : World} {base : Nat} {lim : Int} {v : Value} {S : Lay} (h : LayV TO TW w base lim v S) (g : Grow w w') : LayV TO TW w' base lim v S := by
  obtain ⟨so, segs, h1, h2⟩ := h; exact ⟨so, segs, h1, h2.grow g⟩
structure Sml (A : List (List Int)) : Prop where
  len : A.length ≤ 900
  seg : ∀ j, len2 A j ≤ 50000
theorem Sml.all {A : List (List Int)} (h : Sml A) : ∀ s ∈ A, s.length ≤ 100000 := by
  intro s hm
  obtain ⟨i, hi, rfl⟩ := List.getElem_of_mem hm
  have := h.seg i
  rw [len2, zE5 hi] at this
  omega
theorem Fit.sml {size : Int} {A : List (List Int)} (h : Fit size A) (hs : size ≤ 4096) : Sml A := ⟨by have := h.most; omega, fun j => by have := h.seg j; omega⟩
structure Near (a b : Nat) (A B : List (List Int)) : Prop where
  len : B.length ≤ A.length + a
  seg : ∀ j, len2 B j ≤ len2 A j + b
theorem Near.set (A : List (List Int)) (s i : Nat) (x : Int) : Near 0 0 A (setP A s i x) := ⟨by rw [zE4]; omega, fun j => by rw [zP2]; omega⟩
theorem Near.more (A : List (List Int)) (q : Nat) (l : List Int) (hq : q ≤ A.length) : Near 1 l.length A (zM2 A q l) := ⟨by rw [zK7]; split <;> omega, fun j => by
  simp only [len2]; rw [zM3 A q j l hq]; split
  · subst_vars; rw [List.length_append]; exact Nat.le_refl _
  · omega⟩
theorem Near.trans {a b c d : Nat} {A B C : List (List Int)} (h : Near a b A B) (k : Near c d B C) : Near (a + c) (b + d) A C := ⟨by have := h.len; have := k.len; omega, fun j => by have := h.seg j; have := k.seg j; omega⟩
theorem qV2 (size : Int) (t : Nd) (S : Lay) (s i : Nat) (h1 : 1 ≤ S.A.length) : Near 1 1 S.A (zG0 size t S s i).S.A := by
  unfold zG0
  split
  · have := Near.set S.A s i (t.near ((len2 S.A (zD2 S.A) : Int) - i - 1)); exact ⟨Nat.le_trans this.len (Nat.le_succ _), fun j => Nat.le_trans (this.seg j) (Nat.le_succ _)⟩
  · split
    · exact (Near.set _ _ _ _).trans (Near.more _ _ [t.near 0] (by rw [zE4]; unfold zD2; omega))
    · exact (Near.set _ _ _ _).trans (Near.more _ _ [t.near 0] (by rw [zE4]; unfold zD2; omega))
theorem OwnA.upd {TO TW T : TypeId} {w w' : World} {base b : Nat} {so : Value} {segs : List Value} {A : List (List Int)} {cs : Array Value} {fr : Nat × Nat} (h : OwnA TO TW w base so segs A) (u : Upd b w w') (hb : w.heap[b]? = some (.cells cs T fr)) (hO : TO ≠ T) (hW : TW ≠ T) : OwnA TO TW w' base so segs A :=
  ⟨zG5 h.out u (zF3 h.out hb hO), fun i v ws hv hw => zG5 (h.seg i v ws hv hw) u (zF3 (h.seg i v ws hv hw) hb hW), h.dis⟩
theorem OwnA.rows {TO TW : TypeId} {w : World} {base : Nat} {so : Value} {segs : List Value} {A : List (List Int)} (h : OwnA TO TW w base so segs A) (hs : ∀ s ∈ A, s.length ≤ 100000) : ∀ (i : Nat) (s : List Int), A[i]? = some s → ∃ v, segs[i]? = some v ∧ Row w 1 v s.length (zJ1 s) := by
  intro i s hi
  have hl : i < A.length := (List.getElem?_eq_some_iff.1 hi).1
  obtain ⟨v, hv, ho⟩ := h.at_ hl
  have he : A[i] = s := by rw [List.getElem?_eq_getElem hl] at hi; exact Option.some.inj hi
  rw [he] at ho
  exact ⟨v, hv, zI3 ho (by have := hs s (List.mem_of_getElem? hi); omega)⟩
theorem OwnA.growV {TO TW : TypeId} {w : World} {base q : Nat} {so : Value} {segs : List Value} {A : List (List Int)} (h : OwnA TO TW w base so segs A) (hq : q ≤ A.length) : ∃ ad c, (growV segs q)[q]? = some (.slice ad (len2 A q) c) ∧ w.ownsRow base TW 1 (.slice ad (len2 A q) c) (len2 A q) (zJ1 (A.getD q [])) := by
  unfold K.growV
  by_cases he : q = segs.length
  · rw [if_pos he, List.getElem?_append_right (by omega)]
    have h0 : len2 A q = 0 := zR8 (by rw [← h.len]; omega)
    have h1 : A.getD q [] = [] := List.eq_nil_of_length_eq_zero h0
    refine ⟨none, 0, by rw [h0]; simp [he], ?_⟩
    rw [h0, h1]; exact ⟨rfl, .inl ⟨rfl, rfl⟩⟩
  · have hl : q < A.length := by rw [h.len] at he; omega
    obtain ⟨v, hv, ho⟩ := h.at_ hl
    obtain ⟨ad, c, rfl, _⟩ := zR9 ho
    rw [if_neg he]
    have e : len2 A q = A[q].length := by rw [len2, zE5 hl]
    rw [e, zE5 hl]
    exact ⟨ad, c, hv, ho⟩
theorem qQ0 {segs : List Value} {A : List (List Int)} {q : Nat} (h : segs.length = A.length) : (growV segs q).length = (growB A q).length := by
  unfold K.growV growB; rw [h]; split <;> simp [h]
theorem yW2 (f : Bool) (a b c lim : Int) : (((f || decide (a > lim)) || decide (b > 16)) || decide (c > 4096)) = (f || !(decide (b ≤ 16) && (decide (a ≤ lim) && decide (c ≤ 4096)))) := by
  cases f
  · rw [Bool.eq_iff_iff]
    simp only [Bool.false_or, Bool.or_eq_true, decide_eq_true_eq, Bool.not_eq_true', Bool.and_eq_false_iff, decide_eq_false_iff_not]
    omega
  · simp
theorem OwnA.rowat {TO TW : TypeId} {w : World} {base n c : Nat} {ad : Option Addr} {segs : List Value} {A : List (List Int)} (h : OwnA TO TW w base (.slice ad n c) segs A) (hA : A.length ≤ 1000) : n = A.length ∧ RowAt w 1 ad n segs := by
  obtain ⟨a, b, h1, _, _, h2⟩ := zI3 h.out (by omega)
  simp only [Value.slice.injEq] at h1
  obtain ⟨rfl, rfl, rfl⟩ := h1
  exact ⟨rfl, h2⟩
theorem Sml.set {A : List (List Int)} (h : Sml A) (s i : Nat) (x : Int) : Sml (setP A s i x) := ⟨by rw [zE4]; exact h.len, fun j => by rw [zP2]; exact h.seg j⟩
theorem OwnA.init {TO TW : TypeId} {w : World} {base b1 b2 : Nat} (ho : w.heap[b2]? = some (.cells #[.slice (some ⟨b1, 0, none⟩) 1 1] TO (0, 0))) (hw : w.heap[b1]? = some (.cells #[.int .u64 0] TW (0, 0))) (h2 : base ≤ b2) (h1 : base ≤ b1) : OwnA TO TW w base (.slice (some ⟨b2, 0, none⟩) 1 1) [.slice (some ⟨b1, 0, none⟩) 1 1] [[0]] := by
  refine ⟨yJ4 ho h2 rfl (by decide), fun i v ws hv hw2 => ?_, fun i j v u b hv hu _ _ => ?_⟩
  · match i, hv, hw2 with
    | 0, hv, hw2 =>
      simp only [List.getElem?_cons_zero, Option.some.injEq] at hv hw2
      subst hv; subst hw2
      exact yJ4 hw h1 rfl (by decide)
    | i + 1, hv, _ => simp at hv
  · have h1 := (List.getElem?_eq_some_iff.1 hv).1
    have h2 := (List.getElem?_eq_some_iff.1 hu).1
    simp at h1 h2; omega
theorem zG2.fn {w : World} {v : Value} {A : List (List Int)} (h : zG2 w v A) : ∃ (ad : Option Addr) (c : Nat) (segs : List Value) (sa : Nat → Option Addr) (sc : Nat → Nat), v = .slice ad A.length c ∧ A.length ≤ c ∧ c ≤ maxLen ∧ RowAt w 1 ad A.length segs ∧ (∀ i, i < A.length → segs[i]? = some (.slice (sa i) (len2 A i) (sc i))) ∧ ∀ i, i < A.length → len2 A i ≤ sc i ∧ sc i ≤ maxLen ∧ RowAt w 1 (sa i) (len2 A i) (zJ1 (A.getD i [])) := by
  obtain ⟨segs, ⟨ad, c, h1, h2, h3, h4⟩, h5⟩ := h
  obtain ⟨sa, sc, h6⟩ := qB4 (n := A.length) (segs := segs) (len := len2 A) fun i hi => by
    obtain ⟨u, hu, ad, c, rfl, _⟩ := h5 i _ (List.getElem?_eq_getElem hi)
    exact ⟨ad, c, by rw [len2, zE5 hi]; exact hu⟩
  refine ⟨ad, c, segs, sa, sc, h1, h2, h3, h4, h6, fun i hi => ?_⟩
  obtain ⟨u, hu, ad, c, rfl, h7, h8, h9⟩ := h5 i _ (List.getElem?_eq_getElem hi)
  have h10 := h6 i hi
  rw [hu] at h10
  simp only [Option.some.injEq, Value.slice.injEq] at h10
  obtain ⟨rfl, _, rfl⟩ := h10
  rw [len2, zE5 hi]
  exact ⟨h7, h8, h9⟩
theorem yP4 {α : Type} {A B : List α} {d : α} (hl : A.length = B.length) (h : ∀ j, j < A.length → A.getD j d = B.getD j d) : A = B := by
  apply List.ext_getElem hl
  intro j h1 h2
  have := h j h1
  rwa [zE5 h1, zE5 h2] at this
theorem zG2.slice {w : World} {v : Value} {A : List (List Int)} (h : zG2 w v A) : ∃ ad n c, v = .slice ad n c := by
  obtain ⟨segs, ⟨ad, c, h1, _⟩, _⟩ := h; exact ⟨_, _, _, h1⟩
class MethI (P : Program) (t : TypeId) (name : String) (f : FuncId) : Prop where
  h : ∀ (v : Value) (args : Array Value) (w : World), (callMethod (.iface t v) name args).run P w = .ok (.enter f (#[v] ++ args)) w
class IfcI (P : Program) (t : TypeId) : Prop where
  h : ∃ ms, P.underlying t = some (.interface ms)
theorem zY7 {P : Program} {b : Frame} {a : Act} {k : List Item} {cs : List Frame} {w : World} {c : Code} : step P (lone (b.atR a (.code (.scope c) :: k)) cs w) = .next (lone (b.atR a (.code c :: .inScope c :: k)) cs w) :=
  step_lone_go (by simp [stepG, stepG.exec, Frame.atR])
theorem qM6 {P : Program} {b : Frame} {a : Act} {k : List Item} {cs : List Frame} {w : World} {c : Code} : step P (lone (b.atR a (.inScope c :: k)) cs w) = .next (lone (b.atR a k) cs w) :=
  step_lone_go (by simp [stepG, stepG.exec, Frame.atR])
theorem yW3 {P : Program} {n : Nat} {Q : Ex → Env → World → Prop} {e : Env} {w : World} {c : Code} (h : W P n c Q e w) : W P n (.scope c) Q e w := by
  intro b a k cs hs he
  obtain ⟨t, a1, w1, h1, h2, h3⟩ := h b a (.inScope c :: k) cs hs he
  cases t with
  | normal => exact ⟨.normal, a1, w1, h1, h2, .head zY7 (Steps.trans h3 (.one qM6))⟩
  | exit i => exact ⟨.exit i, a1, w1, h1, h2, .past (y := .inScope c) (fun _ => rfl) (by simp) (.of (.one zY7) h3)⟩
  | ret => exact ⟨.ret, a1, w1, h1, h2, .past (y := .inScope c) (fun _ => rfl) (by simp) (.of (.one zY7) h3)⟩
section
variable {P : Program} {ops : Array Oper} {e : Env} {w : World} {K : Value → World → Prop} {d : Option Nat} {ty : TypeId} {pos : String} {af : Array Edge} {g : Option (Nat × Bool)} {t u : TypeId} {x y z : Operand}
theorem qF5 {name : String} {args : Array Operand} {at_ : Array TypeId} {f : FuncId} {v : Value} {F : Value → World → Prop} {T : TypeId} (hm : MethI P T name f) (hx : ev e x = .iface T v)
    (hc : Calls P f (v :: args.toList.map (ev e)).toArray w (Ret F)) (h : ∀ v w', F v w' → K v w') : Run1 P ⟨d, .call ⟨.invoke x name, args, at_⟩, ty, pos, af, g⟩ e w K := by
  have ha : ((#[ev e x] ++ args.map (ev e)).extract 1 (#[ev e x] ++ args.map (ev e)).size) = args.map (ev e) := by
    apply Array.ext'
    simp
    exact List.take_of_length_le (by simp)
  have h0 : (#[ev e x] ++ args.map (ev e))[0]? = some (.iface T v) := by rw [hx, Array.getElem?_append_left (by simp)]; rfl
  have hb : #[v] ++ args.map (ev e) = (v :: args.toList.map (ev e)).toArray := by
    apply Array.ext'
    simp
  have hr : (execOp (ev e) ⟨d, .call ⟨.invoke x name, args, at_⟩, ty, pos, af, g⟩).run P w = .ok (.enter f (v :: args.toList.map (ev e)).toArray) w := by
    simp only [execOp, resolve, Sem.run_bind, Sem.run_pure, Result.andThen_ok, invoke, h0, ha]
    rw [hm.h, hb]
  unfold Run1
  rw [hr]
  exact hc.mono fun r w' ⟨v, hv, hF⟩ => ⟨v, hv, h v w' hF⟩
theorem yA8 {T : TypeId} {v : Value} [hi : IfcI P t] (hx : ev e x = .iface T v) (hy : ev e y = .nilIface) (h : K (.bool false) w) : Run1 P ⟨d, .binOp .eql t x y u, ty, pos, af, g⟩ e w K := by
  obtain ⟨ms, hi⟩ := hi.h
  exact zE1 (w' := w) (by
    have hg : ∀ w : World, (eqGuard .eql t x y (.iface T v) .nilIface).run P w = .ok () w := fun _ => rfl
    have hq : (Op.equal t (.iface T v) .nilIface).run P w = .ok false w := by
      show (Op.equalIn (9999 + 1) t (.iface T v) .nilIface).run P w = _
      rw [Op.equalIn]
      simp only [underlying, program, Sem.run_bind, Sem.run, hi, Sem.run_pure, Result.andThen_ok]
    simp only [execOp, hx, hy, Sem.run_bind, hg, Result.andThen_ok, binOp, hq, Sem.run_pure]) h
end
end Go.Proofs.YtkkbbhpbcfcplaaGreat.K
