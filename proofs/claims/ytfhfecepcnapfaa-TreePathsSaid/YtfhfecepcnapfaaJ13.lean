/- Calls through an interface, and an interface against nil. Generic in the program. -/
import Derived.Test.YtfhfecepcnapfaaJ11
set_option linter.unusedVariables false
set_option linter.unusedSimpArgs false
namespace Go.Proofs.Ytfhfecepcnapfaa.K
open Go Go.RowKit
/-- What a type's method is: a function with a body, that is handed the value itself. -/
class MethI (P : Program) (t : TypeId) (name : String) (f : FuncId) : Prop where
  h : ∀ (v : Value) (args : Array Value) (w : World), (callMethod (.iface t v) name args).run P w = .ok (.enter f (#[v] ++ args)) w
class IfcI (P : Program) (t : TypeId) : Prop where
  h : ∃ ms, P.underlying t = some (.interface ms)
theorem stepR_scope {P : Program} {b : Frame} {a : Act} {k : List Item} {cs : List Frame} {w : World} {c : Code} : step P (lone (b.atR a (.code (.scope c) :: k)) cs w) = .next (lone (b.atR a (.code c :: .inScope c :: k)) cs w) :=
  step_lone_go (by simp [stepG, stepG.exec, Frame.atR])
theorem stepR_inScope {P : Program} {b : Frame} {a : Act} {k : List Item} {cs : List Frame} {w : World} {c : Code} : step P (lone (b.atR a (.inScope c :: k)) cs w) = .next (lone (b.atR a k) cs w) :=
  step_lone_go (by simp [stepG, stepG.exec, Frame.atR])
theorem W_scope {P : Program} {n : Nat} {Q : Ex → Env → World → Prop} {e : Env} {w : World} {c : Code} (h : W P n c Q e w) : W P n (.scope c) Q e w := by
  intro b a k cs hs he
  obtain ⟨t, a1, w1, h1, h2, h3⟩ := h b a (.inScope c :: k) cs hs he
  cases t with
  | normal => exact ⟨.normal, a1, w1, h1, h2, .head stepR_scope (Steps.trans h3 (.one stepR_inScope))⟩
  | exit i => exact ⟨.exit i, a1, w1, h1, h2, .past (y := .inScope c) (fun _ => rfl) (by simp) (.of (.one stepR_scope) h3)⟩
  | ret => exact ⟨.ret, a1, w1, h1, h2, .past (y := .inScope c) (fun _ => rfl) (by simp) (.of (.one stepR_scope) h3)⟩
section
variable {P : Program} {ops : Array Oper} {e : Env} {w : World} {K : Value → World → Prop} {d : Option Nat} {ty : TypeId} {pos : String} {af : Array Edge} {g : Option (Nat × Bool)} {t u : TypeId} {x y z : Operand}
theorem r_invoke {name : String} {args : Array Operand} {at_ : Array TypeId} {f : FuncId} {v : Value} {F : Value → World → Prop} {T : TypeId} (hm : MethI P T name f) (hx : ev e x = .iface T v)
    (hc : Calls P f (v :: args.toList.map (ev e)).toArray w (Ret F)) (h : ∀ v w', F v w' → K v w') : Run1 P ⟨d, .call ⟨.invoke x name, args, at_⟩, ty, pos, af, g⟩ e w K := by
  have ha : ((#[ev e x] ++ args.map (ev e)).extract 1 (#[ev e x] ++ args.map (ev e)).size) = args.map (ev e) := by
    apply Array.ext'
    simp
    exact List.take_of_length_le (by simp)
  have h0 : (#[ev e x] ++ args.map (ev e))[0]? = some (.iface T v) := by rw [hx, Array.getElem?_append_left (by simp)]; rfl
  have hb : #[v] ++ args.map (ev e) = (v :: args.toList.map (ev e)).toArray := by
    apply Array.ext'
    simp
  have hr : (execOp (ev e) ⟨d, .call ⟨.invoke x name, args, at_⟩, ty, pos, af, g⟩).run P w = .ok (.enter f (v :: args.toList.map (ev e)).toArray) w := by
    simp only [execOp, resolve, Sem.run_bind, Sem.run_pure, Result.andThen_ok, invoke, h0, ha]
    rw [hm.h, hb]
  unfold Run1
  rw [hr]
  exact hc.mono fun r w' ⟨v, hv, hF⟩ => ⟨v, hv, h v w' hF⟩
theorem r_eqlIfc {T : TypeId} {v : Value} [hi : IfcI P t] (hx : ev e x = .iface T v) (hy : ev e y = .nilIface) (h : K (.bool false) w) : Run1 P ⟨d, .binOp .eql t x y u, ty, pos, af, g⟩ e w K := by
  obtain ⟨ms, hi⟩ := hi.h
  exact run1_ok (w' := w) (by
    have hg : ∀ w : World, (eqGuard .eql t x y (.iface T v) .nilIface).run P w = .ok () w := fun _ => rfl
    have hq : (Op.equal t (.iface T v) .nilIface).run P w = .ok false w := by
      show (Op.equalIn (9999 + 1) t (.iface T v) .nilIface).run P w = _
      rw [Op.equalIn]
      simp only [underlying, program, Sem.run_bind, Sem.run, hi, Sem.run_pure, Result.andThen_ok]
    simp only [execOp, hx, hy, Sem.run_bind, hg, Result.andThen_ok, binOp, hq, Sem.run_pure]) h
end
end Go.Proofs.Ytfhfecepcnapfaa.K
