/- Structs that are compared; what a loop's head knows of its frame. Generic in the program. -/
import Derived.Test.YtldlfhodboigeaaJ5
import Derived.Laws.StructEq
set_option linter.unusedVariables false
set_option linter.unusedSimpArgs false
namespace Go.Proofs.Ytldlfhodboigeaa.K
open Go Go.RowKit

/-- A struct of numbers and bools. -/
inductive FK where
  | i (k : IntKind) | b
  deriving DecidableEq
def flatF (P : Program) : List Field → Nat → Option (List FK)
  | [], _ => some []
  | f :: fs, n =>
    if f.name ≠ "_" && f.offset == n then
      match P.underlying f.type, tyS P f.type, flatF P fs (n + 1) with
      | some (.int k), some (1, false), some r => some (.i k :: r)
      | some .bool, some (1, false), some r => some (.b :: r)
      | _, _, _ => none
    else none
def flatS (P : Program) (t : TypeId) : Option (List FK) :=
  match P.underlying t with
  | some (.struct fs) => if P.stoodInHeld t || P.eqGuardType P.depth t then none else flatF P fs.toList 0
  | _ => none
class FlatI (P : Program) (t : TypeId) (ks : outParam (List FK)) : Prop where
  h : flatS P t = some ks
/-- Are they the same, cell by cell? -/
def flatEq : List FK → List Value → List Value → Option Bool
  | [], [], [] => some true
  | .i k :: ks, .int k1 a :: xs, .int k2 b :: ys => bif decide (k1 = k2) then (match flatEq ks xs ys with | some r => some (decide (a = b) && r) | none => none) else none
  | .b :: ks, .bool a :: xs, .bool b :: ys => match flatEq ks xs ys with | some r => some ((a == b) && r) | none => none
  | _, _, _ => none

theorem part_flat {P : Program} {t : TypeId} {n : Nat} {v : Value} {w : World} {xs : Array Value} (ht : tyS P t = some (1, false)) (hv : xs[n]? = some v) : (part t xs n).run P w = .ok v w := by
  unfold tyS at ht
  split at ht
  · rename_i i dd hi hu
    simp only [Option.some.injEq, Prod.mk.injEq] at ht
    have hagg : (isAgg t).run P w = .ok false w := by
      simp only [isAgg, underlying, program, Sem.run_bind, Sem.run, hu, Result.andThen_ok]
      cases dd <;> first | rfl | simp at ht
    simp [part, Sem.run_bind, hagg, hv]
  · cases ht
theorem head_drop {xs : Array Value} {n : Nat} {x : Value} {xr : List Value} (h : xs.toList.drop n = x :: xr) : xs[n]? = some x ∧ xs.toList.drop (n + 1) = xr := by
  have h1 : xs.toList[n]? = (xs.toList.drop n)[0]? := by simp
  rw [h] at h1
  refine ⟨by simpa using h1, ?_⟩
  rw [← List.drop_drop, h]; rfl
theorem eqFields_flat {P : Program} {w : World} (d : Nat) (xs ys : Array Value) : ∀ (fs : List Field) (n : Nat) (ks : List FK) (r : Bool), flatF P fs n = some ks →
    flatEq ks (xs.toList.drop n) (ys.toList.drop n) = some r → (Op.eqFields (d + 1) xs ys fs).run P w = .ok r w
  | [], n, ks, r, hf, he => by
    simp only [flatF, Option.some.injEq] at hf
    subst hf
    have : r = true := by
      cases hx : xs.toList.drop n <;> cases hy : ys.toList.drop n <;> simp only [hx, hy, flatEq] at he <;> first | (cases he; rfl) | cases he
    subst this
    simp [Op.eqFields]
  | f :: fs, n, ks, r, hf, he => by
    unfold flatF at hf
    split at hf
    · rename_i hn
      simp only [ne_eq, Bool.and_eq_true, decide_eq_true_eq, beq_iff_eq] at hn
      obtain ⟨hnm, ho⟩ := hn
      split at hf
      · rename_i k r' hu ht hr
        cases hf
        cases hx : xs.toList.drop n with
        | nil => rw [hx] at he; simp [flatEq] at he
        | cons x xr =>
          cases hy : ys.toList.drop n with
          | nil => rw [hx, hy] at he; cases x <;> simp [flatEq] at he
          | cons y yr =>
            rw [hx, hy] at he
            cases x <;> try (simp [flatEq] at he; done)
            rename_i kx a
            cases y <;> try (simp [flatEq] at he; done)
            rename_i ky b
            obtain ⟨hx0, hx1⟩ := head_drop hx
            obtain ⟨hy0, hy1⟩ := head_drop hy
            simp only [flatEq] at he
            by_cases hkk : kx = ky
            case neg => simp [hkk] at he
            subst hkk
            simp only [decide_true, cond_true] at he
            split at he
            · rename_i r2 hr2
              cases he
              have ih := eqFields_flat (P := P) (w := w) d xs ys fs (n + 1) _ r2 hr (by rw [hx1, hy1]; exact hr2)
              have hab : (a == b) = decide (a = b) := by by_cases h : a = b <;> simp [h]
              simp only [Op.eqFields, hnm, ne_eq, not_false_eq_true, if_true, Sem.run_bind, ho, part_flat ht hx0, part_flat ht hy0, Result.andThen_ok, run_equalIn_int w d f.type kx k a b hu, hab]
              by_cases h : a = b
              · simp [h, ih]
              · simp [h]
            · cases he
      · rename_i r' hu ht hr
        cases hf
        cases hx : xs.toList.drop n with
        | nil => rw [hx] at he; simp [flatEq] at he
        | cons x xr =>
          cases hy : ys.toList.drop n with
          | nil => rw [hx, hy] at he; cases x <;> simp [flatEq] at he
          | cons y yr =>
            rw [hx, hy] at he
            cases x <;> try (simp [flatEq] at he; done)
            rename_i a
            cases y <;> try (simp [flatEq] at he; done)
            rename_i b
            obtain ⟨hx0, hx1⟩ := head_drop hx
            obtain ⟨hy0, hy1⟩ := head_drop hy
            simp only [flatEq] at he
            split at he
            · rename_i r2 hr2
              cases he
              have ih := eqFields_flat (P := P) (w := w) d xs ys fs (n + 1) _ r2 hr (by rw [hx1, hy1]; exact hr2)
              simp only [Op.eqFields, hnm, ne_eq, not_false_eq_true, if_true, Sem.run_bind, ho, part_flat ht hx0, part_flat ht hy0, Result.andThen_ok, run_equalIn_bool' w d f.type a b hu]
              cases hab : (a == b)
              · simp
              · simp [ih]
            · cases he
      · cases hf
    · cases hf
section
variable {P : Program} {e : Env} {w : World} {K : Value → World → Prop} {d : Option Nat} {ty : TypeId} {pos : String} {af : Array Edge} {g : Option (Nat × Bool)} {t u : TypeId} {x y : Operand}
theorem flat_run {ks : List FK} {xs ys : Array Value} {r : Bool} (hf : flatS P t = some ks) (he : flatEq ks xs.toList ys.toList = some r) :
    P.eqGuardType P.depth t = false ∧ (Op.equalIn 10000 t (.agg xs) (.agg ys)).run P w = .ok r w := by
  unfold flatS at hf
  split at hf
  · rename_i fs hu
    split at hf
    · cases hf
    · rename_i hs
      simp only [Bool.or_eq_true, not_or, Bool.not_eq_true] at hs
      refine ⟨hs.2, ?_⟩
      have hfo : P.fieldsOf t = fs := by simp [Program.fieldsOf, hu]
      rw [run_equalIn_struct w 9999 t xs ys (by rw [hfo]; exact hu) hs.1, hfo]
      exact eqFields_flat 9998 xs ys fs.toList 0 ks r hf (by simpa using he)
  · cases hf
theorem r_eqlS {ks : List FK} {xs ys : Array Value} {r : Bool} [hf : FlatI P t ks] (hx : ev e x = .agg xs) (hy : ev e y = .agg ys) (he : flatEq ks xs.toList ys.toList = some r) (h : K (.bool r) w) : Run1 P ⟨d, .binOp .eql t x y u, ty, pos, af, g⟩ e w K := by
  obtain ⟨hm, hr⟩ := flat_run (w := w) hf.h he
  exact run1_ok (w' := w) (by simp only [execOp, hx, hy, Sem.run_bind, run_eqGuard_agg w .eql t x y xs ys hm, run_eql_struct, hr, Result.andThen_ok, Sem.run_pure]) h
theorem r_neqS {ks : List FK} {xs ys : Array Value} {r : Bool} [hf : FlatI P t ks] (hx : ev e x = .agg xs) (hy : ev e y = .agg ys) (he : flatEq ks xs.toList ys.toList = some r) (h : K (.bool (!r)) w) : Run1 P ⟨d, .binOp .neq t x y u, ty, pos, af, g⟩ e w K := by
  obtain ⟨hm, hr⟩ := flat_run (w := w) hf.h he
  exact run1_ok (w' := w) (by simp only [execOp, hx, hy, Sem.run_bind, run_eqGuard_agg w .neq t x y xs ys hm, run_neq_struct, hr, Result.andThen_ok, Sem.run_pure]) h
theorem r_eqlS' {ks : List FK} {xs ys : Array Value} {r r' : Bool} [hf : FlatI P t ks] (hx : ev e x = .agg xs) (hy : ev e y = .agg ys) (he : flatEq ks xs.toList ys.toList = some r) (hr : r = r') (h : K (.bool r') w) : Run1 P ⟨d, .binOp .eql t x y u, ty, pos, af, g⟩ e w K :=
  r_eqlS hx hy he (by rw [hr]; exact h)
theorem r_beq' {p q r : Bool} [hu : BoolI P t] (hx : ev e x = .bool p) (hy : ev e y = .bool q) (hr : (p == q) = r) (h : K (.bool r) w) : Run1 P ⟨d, .binOp .eql t x y u, ty, pos, af, g⟩ e w K := r_beq hx hy (by rw [hr]; exact h)
end

/-! ### what a loop's head knows of its frame -/
def frs : List (Nat × Value) → Env → Env
  | [], e => e
  | (d, v) :: l, e => Env.set (frs l e) d v
def FrOk (e : Env) : List (Nat × Value) → Prop
  | [] => True
  | (d, v) :: l => e d = v ∧ FrOk e l
/-- A frame whose marks and loop are told, too. -/
def FrM (ms : List Deferred) (ro : Option Nat) (l : List (Nat × Value)) (e : Env) : Prop := ∃ g : Nat → Value, e = frs l ⟨g, ms, ro⟩
abbrev Fr := FrM [] none
theorem frs_ms : ∀ (l : List (Nat × Value)) (e : Env), (frs l e).ms = e.ms
  | [], _ => rfl
  | (_, _) :: l, e => frs_ms l e
theorem frs_ro : ∀ (l : List (Nat × Value)) (e : Env), (frs l e).ro = e.ro
  | [], _ => rfl
  | (_, _) :: l, e => frs_ro l e
theorem fr_of {ms : List Deferred} {ro : Option Nat} {l : List (Nat × Value)} {e : Env} (h : FrOk e l) (hm : e.ms = ms := by rfl) (hr : e.ro = ro := by rfl) : FrM ms ro l e := by
  refine ⟨e.get, ?_⟩
  subst hm; subst hr
  show e = frs l e
  induction l with
  | nil => rfl
  | cons p l ih =>
    obtain ⟨d, v⟩ := p
    obtain ⟨h1, h2⟩ := h
    have := ih h2
    simp only [frs]
    rw [← this]
    refine Env.ext' (fun i => ?_) rfl rfl
    by_cases hi : i = d
    · subst hi; rw [set_same]; exact h1
    · rw [set_ne _ _ hi]
end Go.Proofs.Ytldlfhodboigeaa.K
