/- The calculus of this claim's walks: frames as functions from slots to values; regions in the text's order and in any order. Generic in the program. -/
import Derived.Calls
import Derived.Orders
import Derived.Tactics
import Derived.Below
import Derived.KernelRfl
set_option linter.unusedVariables false
set_option linter.unusedSimpArgs false
namespace Go.Proofs.Ytepcfoofdbdioaa.K
open Go Go.RowKit

theorem beq_false {a b : Nat} (h : a ≠ b) : Nat.beq a b = false := by
  cases hb : Nat.beq a b with
  | false => rfl
  | true => exact absurd (Nat.eq_of_beq_eq_true hb) h
abbrev Env := Nat → Value
def Env.set (e : Env) (d : Nat) (v : Value) : Env := fun i => bif Nat.beq i d then v else e i
def Env.put (e : Env) (d : Option Nat) (v : Value) : Env := match d with | some d => Env.set e d v | none => e
def ev (e : Env) : Operand → Value
  | .tmp t => e t
  | .const v => v
  | .global g => .pointer (some ⟨g, 0, none⟩)
  | .func f => .func (.func f) #[] #[]
def env (a : Act) : Env := fun i => a.tmps.getD i undef

theorem eval_env (a : Act) : a.eval = ev (env a) := by
  funext x; cases x <;> rfl
theorem set_same (e : Env) (d : Nat) (v : Value) : Env.set e d v d = v := by simp [Env.set]
theorem set_ne (e : Env) {d i : Nat} (v : Value) (h : i ≠ d) : Env.set e d v i = e i := by
  have : Nat.beq i d = false := beq_false h
  simp [Env.set, this]
theorem env_put (a : Act) (d : Option Nat) (v : Value) (h : ∀ t, d = some t → t < a.tmps.size) : env (a.put d v) = (env a).put d v := by
  cases d with
  | none => rfl
  | some t =>
    have ht := h t rfl
    funext i
    show (a.tmps.setIfInBounds t v).getD i undef = Env.set (env a) t v i
    by_cases hi : i = t
    · subst hi
      rw [set_same]
      simp [Array.getD_eq_getD_getElem?, ht]
    · rw [set_ne _ _ hi]
      simp only [env, Array.getD_eq_getD_getElem?]
      rw [Array.getElem?_setIfInBounds_ne (by omega)]
theorem size_put (a : Act) (d : Option Nat) (v : Value) : (a.put d v).tmps.size = a.tmps.size := by
  cases d <;> simp [Act.put]
theorem defers_put (a : Act) (d : Option Nat) (v : Value) : (a.put d v).defers = a.defers := by
  cases d <;> simp [Act.put]

/-- An operation comes to a value (by itself, or by a call that returns). -/
def Run1 (P : Program) (o : Oper) (e : Env) (w : World) (K : Value → World → Prop) : Prop :=
  match (execOp (ev e) o).run P w with
  | .ok (.value v) w' => K v w'
  | .ok .skip w' => K undef w'
  | .ok (.enter f args) w' => Calls P f args w' fun r w'' => ∃ v, r = .returned v ∧ K v w''
  | _ => False

theorem Run1.mono {P : Program} {o : Oper} {e : Env} {w : World} {K K' : Value → World → Prop} (hk : ∀ v w, K v w → K' v w) (h : Run1 P o e w K) : Run1 P o e w K' := by
  unfold Run1 at *
  split at h <;> rename_i hr
  · exact hk _ _ h
  · exact hk _ _ h
  · exact h.mono fun r w' ⟨v, e, hv⟩ => ⟨v, e, hk _ _ hv⟩
  · exact h.elim

theorem wp_of_run1 {P : Program} {o : Oper} {a : Act} {w : World} {next : Act → World → Prop} {Q : Exit → Act → World → Prop}
    (h : Run1 P o (env a) w fun v w' => next (a.put o.dst v) w') : o.wp P a w next Q := by
  unfold Oper.wp
  rw [eval_env]
  unfold Run1 at h
  split at h <;> rename_i hr
  · rw [hr]; exact h
  · rw [hr]; exact h
  · rw [hr]; exact h.mono fun r w' ⟨v, e, hv⟩ => by subst e; exact hv
  · exact h.elim

def wantedE (ops : Array Oper) (o : Oper) (e : Env) : Bool :=
  match o.guard with
  | none => true
  | some (j, b) =>
    match (ops[j]?).bind (·.dst) with
    | some d => (match e d with | .bool c => c == b | _ => false)
    | none => false

theorem wanted_eq (ops : Array Oper) (o : Oper) (a : Act) : Region.wanted o (yielded ops a.tmps) = wantedE ops o (env a) := by
  unfold Region.wanted wantedE
  cases o.guard with
  | none => rfl
  | some jb =>
    obtain ⟨j, b⟩ := jb
    simp only [yielded]
    cases hd : (ops[j]?).bind (·.dst) with
    | none => simp
    | some d =>
      simp only [Option.bind_some, env, Array.getD_eq_getD_getElem?]
      cases ht : a.tmps[d]? with
      | none => simp [undef]
      | some v => cases v <;> simp

def OpG (P : Program) (ops : Array Oper) (o : Oper) (e : Env) (w : World) (K : Value → World → Prop) : Prop :=
  bif wantedE ops o e then Run1 P o e w K else K undef w

theorem OpG.mono {P : Program} {ops : Array Oper} {o : Oper} {e : Env} {w : World} {K K' : Value → World → Prop} (hk : ∀ v w, K v w → K' v w) (h : OpG P ops o e w K) : OpG P ops o e w K' := by
  unfold OpG at *
  cases hc : wantedE ops o e <;> simp only [hc, cond_true, cond_false] at *
  · exact hk _ _ h
  · exact h.mono hk

/-- The operations of a region in the text's order. -/
def WL (P : Program) (ops : Array Oper) (Q : Exit → Env → World → Prop) : List Oper → Env → World → Prop
  | [], e, w => Q .normal e w
  | o :: r, e, w => OpG P ops o e w fun v w' => WL P ops Q r (e.put o.dst v) w'

def lift (n : Nat) (Q : Exit → Env → World → Prop) : Exit → Act → World → Prop := fun x a w => a.tmps.size = n ∧ a.defers = [] ∧ Q x (env a) w
def W (P : Program) (n : Nat) (c : Code) (Q : Exit → Env → World → Prop) (e : Env) (w : World) : Prop :=
  ∀ a : Act, a.tmps.size = n → a.defers = [] → env a = e → c.wp P (lift n Q) a w

def dstOk (n : Nat) (l : List Oper) : Bool := l.all fun o => match o.dst with | some d => Nat.blt d n | none => true
theorem dstOk_cons {n : Nat} {o : Oper} {l : List Oper} (h : dstOk n (o :: l) = true) : (∀ d, o.dst = some d → d < n) ∧ dstOk n l = true := by
  simp only [dstOk, List.all_cons, Bool.and_eq_true] at h
  refine ⟨fun d hd => ?_, h.2⟩
  have := h.1
  rw [hd] at this
  simpa [Nat.blt_eq] using this

theorem wpList_of_WL {P : Program} {n : Nat} {ops : Array Oper} {Q : Exit → Env → World → Prop} : ∀ (l : List Oper), dstOk n l = true → ∀ (a : Act) (w : World),
    a.tmps.size = n → a.defers = [] → WL P ops Q l (env a) w → wpList P ops (lift n Q) l a w
  | [], _, a, w, hs, hd, h => ⟨hs, hd, h⟩
  | o :: r, hk, a, w, hs, hd, h => by
    obtain ⟨ho, hr⟩ := dstOk_cons hk
    unfold wpList
    rw [wanted_eq]
    simp only [WL, OpG] at h
    cases hc : wantedE ops o (env a) <;> simp only [hc, cond_true, cond_false] at h
    · simp only [Bool.false_eq_true, if_false]
      refine wpList_of_WL r hr _ w (by rw [size_put]; exact hs) (by rw [defers_put]; exact hd) ?_
      rw [env_put _ _ _ (fun t ht => by rw [hs]; exact ho t ht)]
      exact h
    · simp only [if_true]
      refine .inl (wp_of_run1 (h.mono fun v w' hv => ?_))
      refine wpList_of_WL r hr _ w' (by rw [size_put]; exact hs) (by rw [defers_put]; exact hd) ?_
      rw [env_put _ _ _ (fun t ht => by rw [hs]; exact ho t ht)]
      exact hv

section rules
variable {P : Program} {n : Nat} {Q : Exit → Env → World → Prop} {e : Env} {w : World}

theorem W_region {id : Nat} {l : List Oper} (hd : dstOk n l = true) (h : WL P l.toArray Q l e w) : W P n (.region id l.toArray false) Q e w := by
  intro a hs hdf he
  subst he
  exact wp_region_lit (wpList_of_WL l hd a w hs hdf h)

@[reducible] def qthen (K : Env → World → Prop) (Q : Exit → Env → World → Prop) : Exit → Env → World → Prop
  | .normal, e, w => K e w
  | .exit i, e, w => Q (.exit i) e w
  | .goto i, e, w => Q (.goto i) e w
  | .ret, e, w => Q .ret e w
  | .panic c, e, w => Q (.panic c) e w
  | .outgrown, e, w => Q .outgrown e w
@[reducible] def qblock (id : Nat) (Q : Exit → Env → World → Prop) : Exit → Env → World → Prop
  | .exit i, e, w => bif Nat.beq i id then Q .normal e w else Q (.exit i) e w
  | .normal, e, w => Q .normal e w
  | .goto i, e, w => Q (.goto i) e w
  | .ret, e, w => Q .ret e w
  | .panic c, e, w => Q (.panic c) e w
  | .outgrown, e, w => Q .outgrown e w

theorem W.mono {c : Code} {Q' : Exit → Env → World → Prop} (hq : ∀ x e w, Q x e w → Q' x e w) (h : W P n c Q e w) : W P n c Q' e w :=
  fun a hs hd he => wp_mono (h a hs hd he) fun x a' w' ⟨h1, h2, h3⟩ => ⟨h1, h2, hq _ _ _ h3⟩

theorem W_seq {x y : Code} (h : W P n x (qthen (W P n y Q) Q) e w) : W P n (.seq x y) Q e w := by
  intro a hs hd he
  refine wp_seq (wp_mono (h a hs hd he) fun t a' w' ⟨h1, h2, h3⟩ => ?_)
  cases t with
  | normal => exact h3 a' h1 h2 rfl
  | _ => exact ⟨h1, h2, h3⟩
theorem W_skip (h : Q .normal e w) : W P n .skip Q e w := fun a hs hd he => wp_skip ⟨hs, hd, he ▸ h⟩
theorem W_label {l : Nat} (h : Q .normal e w) : W P n (.label l) Q e w := fun a hs hd he => wp_label ⟨hs, hd, he ▸ h⟩
theorem W_exit {i : Nat} (h : Q (.exit i) e w) : W P n (.exit i) Q e w := fun a hs hd he => wp_exit ⟨hs, hd, he ▸ h⟩
theorem W_ret (h : Q .ret e w) : W P n .ret Q e w := fun a hs hd he => wp_ret ⟨hs, hd, he ▸ h⟩
theorem W_cond {c : Operand} {x y : Code} {b : Bool} (hc : ev e c = .bool b) (h : W P n (bif b then x else y) Q e w) : W P n (.cond c x y) Q e w := by
  intro a hs hd he
  refine wp_cond (t := b) (by rw [eval_env, he]; exact hc) ?_
  have := h a hs hd he
  cases b <;> exact this
theorem W_cond2 {c : Operand} {x y : Code} {b : Bool} (hc : ev e c = .bool b) (ht : b = true → W P n x Q e w) (hf : b = false → W P n y Q e w) : W P n (.cond c x y) Q e w := by
  cases b
  · exact W_cond hc (hf rfl)
  · exact W_cond hc (ht rfl)
theorem W_true {c : Operand} {x y : Code} (hc : ev e c = .bool true) (h : W P n x Q e w) : W P n (.cond c x y) Q e w := W_cond hc h
theorem W_false {c : Operand} {x y : Code} (hc : ev e c = .bool false) (h : W P n y Q e w) : W P n (.cond c x y) Q e w := W_cond hc h
theorem W_block {id : Nat} {c : Code} (h : W P n c (qblock id Q) e w) : W P n (.block id c) Q e w := by
  intro a hs hd he
  refine wp_block (wp_mono (h a hs hd he) fun t a' w' ⟨h1, h2, h3⟩ => ?_)
  cases t with
  | exit i =>
    simp only [qblock] at h3
    simp only [Exit.inBlock]
    by_cases hi : i = id
    · subst hi; simp at h3; simp; exact ⟨h1, h2, h3⟩
    · have : Nat.beq i id = false := beq_false hi
      rw [this] at h3; rw [if_neg hi]; exact ⟨h1, h2, h3⟩
  | _ => exact ⟨h1, h2, h3⟩
theorem W_loop {c : Code} (I : Nat → Env → World → Prop) (m : Nat) (h0 : I m e w)
    (round : ∀ m e w, I m e w → W P n c (qthen (fun e' w' => ∃ m', m' < m ∧ I m' e' w') Q) e w) : W P n (.loop c) Q e w := by
  intro a hs hd he b k cs
  subst he
  have key : ∀ m (a : Act) w, a.tmps.size = n → a.defers = [] → I m (env a) w →
      ∃ x a' w', lift n Q x a' w' ∧ Arrives P (lone (b.at a (.code c :: .inLoop c :: k)) cs w) b k cs x a' w' := by
    intro m
    induction m using Nat.strongRecOn with
    | _ m ih =>
      intro a w hs hd hI
      obtain ⟨x, a1, w1, ⟨h1, h2, hq⟩, harr⟩ := round m _ w hI a hs hd rfl b (.inLoop c :: k) cs
      cases x with
      | normal =>
        obtain ⟨m', hlt, hI'⟩ := hq
        obtain ⟨x2, a2, w2, hq2, harr2⟩ := ih m' hlt a1 w1 h1 h2 hI'
        exact ⟨x2, a2, w2, hq2, .of_steps (Steps.trans harr (.one step_inLoop)) harr2⟩
      | exit id => exact ⟨_, a1, w1, ⟨h1, h2, hq⟩, .pass (x := .inLoop c) rfl (fun _ _ => .inl (by simp)) harr⟩
      | goto l => exact ⟨_, a1, w1, ⟨h1, h2, hq⟩, .pass (x := .inLoop c) rfl (fun _ _ => .inl (by simp)) harr⟩
      | ret => exact ⟨_, a1, w1, ⟨h1, h2, hq⟩, .pass (x := .inLoop c) rfl (fun _ _ => .inl (by simp)) harr⟩
      | panic ch => exact ⟨_, a1, w1, ⟨h1, h2, hq⟩, .pass (x := .inLoop c) rfl (fun _ _ => .inl (by simp)) harr⟩
      | outgrown => exact ⟨_, a1, w1, ⟨h1, h2, hq⟩, .pass (x := .inLoop c) rfl (fun _ _ => .inl (by simp)) harr⟩
  obtain ⟨x, a', w', hq, harr⟩ := key m a w hs hd h0
  exact ⟨x, a', w', hq, .of_steps (.one step_loop) harr⟩
end rules

/-! ### a call's frame -/
def Res1 (P : Program) (e : Env) (w : World) : ResultVar → Value → Prop
  | .tmp t, v => v = e t
  | .cell a t, v => (do loadVar t (← asAddr (e a))).run P w = .ok v w
def ResL (P : Program) (e : Env) (w : World) : List ResultVar → List Value → Prop
  | [], [] => True
  | r :: rs, v :: vs => Res1 P e w r v ∧ ResL P e w rs vs
  | _, _ => False
def one : List Value → Value
  | [v] => v
  | vs => .tuple vs.toArray
def RetQ (P : Program) (rs : List ResultVar) (R : Ending → World → Prop) : Exit → Env → World → Prop
  | .normal, e, w | .ret, e, w => ∃ vs, ResL P e w rs vs ∧ R (.returned (one vs)) w
  | _, _, _ => False

def resSem (tmps : Array Value) : ResultVar → Sem Value
  | .tmp t => pure (tmps.getD t undef)
  | .cell a t => do loadVar t (← asAddr (tmps.getD a undef))
theorem resSem_run {P : Program} {tmps : Array Value} {w : World} {r : ResultVar} {v : Value} (h1 : Res1 P (fun i => tmps.getD i undef) w r v) : (resSem tmps r).run P w = .ok v w := by
  cases r with
  | tmp t => simp only [Res1] at h1; subst h1; rfl
  | cell a t => exact h1
theorem mapM_run {P : Program} {tmps : Array Value} {w : World} : ∀ (rs : List ResultVar) (vs : List Value), ResL P (fun i => tmps.getD i undef) w rs vs →
    (rs.mapM (resSem tmps)).run P w = .ok vs w
  | [], [], _ => by simp
  | [], _ :: _, h => h.elim
  | _ :: _, [], h => h.elim
  | r :: rs, v :: vs, ⟨h1, h2⟩ => by
    rw [List.mapM_cons, Sem.run_bind, resSem_run h1]
    simp only [Result.andThen_ok, Sem.run_bind]
    rw [mapM_run rs vs h2]
    rfl
theorem results_run {P : Program} {fn : Func} {tmps : Array Value} {w : World} {vs : List Value}
    (h : ResL P (fun i => tmps.getD i undef) w fn.results.toList vs) : (results fn tmps).run P w = .ok (one vs) w := by
  have he : results fn tmps = (do let vs ← fn.results.mapM (resSem tmps); pure (if h : vs.size = 1 then vs[0] else .tuple vs)) := rfl
  rw [he, Array.mapM_eq_mapM_toList, Sem.run_bind, Sem.run_map, mapM_run _ _ h]
  simp only [Result.andThen_ok]
  match vs with
  | [] => rfl
  | [v] => rfl
  | v :: u :: vs => simp [one]
theorem calls_of_W {P : Program} {f : FuncId} {fn : Func} {c : Code} {args : Array Value} {w : World} {R : Ending → World → Prop} {n : Nat} {rs : List ResultVar}
    (hf : P.funcs[f]? = some fn) (hb : fn.body = some c) (hn : fn.ntmps = n) (hr : fn.results.toList = rs) (hle : Nat.ble args.size n = true)
    (h : W P n c (RetQ P rs R) (fun i => args.getD i undef) w) : Calls P f args w R := by
  subst hr
  have hle : args.size ≤ n := Nat.le_of_ble_eq_true hle
  refine calls_of_wp hf hb (wp_mono (h _ ?_ rfl ?_) ?_)
  · simp [hn]; omega
  · funext i
    simp only [env, Array.getD_eq_getD_getElem?]
    by_cases hi : i < args.size
    · rw [Array.getElem?_append_left hi]
    · rw [Array.getElem?_append_right (by omega)]
      rw [Array.getElem?_eq_none (xs := args) (by omega)]
      simp only [Array.getElem?_replicate]
      split <;> rfl
  · intro x a' w' ⟨h1, h2, h3⟩
    cases x with
    | normal => obtain ⟨vs, hv, hR⟩ := h3; exact ⟨h2, _, results_run hv, hR⟩
    | ret => obtain ⟨vs, hv, hR⟩ := h3; exact ⟨h2, _, results_run hv, hR⟩
    | exit _ => exact h3.elim
    | goto _ => exact h3.elim
    | panic _ => exact h3.elim
    | outgrown => exact h3.elim
end Go.Proofs.Ytepcfoofdbdioaa.K
