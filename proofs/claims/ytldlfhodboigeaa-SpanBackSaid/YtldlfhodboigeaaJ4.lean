/- The rules of single operations: numbers, tests, moves, calls. Generic in the program. -/
import Derived.Test.YtldlfhodboigeaaJ3
import Derived.IntWalk
import Derived.Laws.Shifts
import Derived.Laws.Small
import Derived.Laws.Slices
import Derived.Laws.Rows
import Derived.Laws.Build
import Derived.OwnWalk
set_option linter.unusedVariables false
set_option linter.unusedSimpArgs false
namespace Go.Proofs.Ytldlfhodboigeaa.K
open Go Go.RowKit

/-! ### what is known of the program's types and functions, found by their numbers -/
class UndI (P : Program) (t : TypeId) : Prop where
  h : ∃ ds, P.underlying t = some ds
class IntI (P : Program) (t : TypeId) (k : outParam IntKind) : Prop where
  h : P.underlying t = some (.int k)
class BoolI (P : Program) (t : TypeId) : Prop where
  h : P.underlying t = some .bool
class FuncI (P : Program) (f : FuncId) : Prop where
  h : ∃ fn, P.funcs[f]? = some fn ∧ (fn.name == "runtime.NumGoroutine" || fn.body.isNone) = false

section
variable {P : Program} {ops : Array Oper} {Q : Ex → Env → World → Prop} {e : Env} {w : World} {K : Value → World → Prop} {r : List Oper}
variable {d : Option Nat} {ty : TypeId} {pos : String} {af : Array Edge} {g : Option (Nat × Bool)}

theorem WL_nil (h : Q .normal e w) : WL P ops Q [] e w := h
theorem WL_cons {o : Oper} (h : OpG P ops o e w fun v w' => WL P ops Q r (e.put o.dst v) w') : WL P ops Q (o :: r) e w := h
theorem WL_some {d : Nat} {op : Op} {ty : TypeId} {pos : String} {af : Array Edge} {g : Option (Nat × Bool)} (h : OpG P ops ⟨some d, op, ty, pos, af, g⟩ e w fun v w' => WL P ops Q r (Env.set e d v) w') : WL P ops Q (⟨some d, op, ty, pos, af, g⟩ :: r) e w := h
theorem WL_none {op : Op} {ty : TypeId} {pos : String} {af : Array Edge} {g : Option (Nat × Bool)} (h : OpG P ops ⟨none, op, ty, pos, af, g⟩ e w fun v w' => WL P ops Q r e w') : WL P ops Q (⟨none, op, ty, pos, af, g⟩ :: r) e w := h
theorem og {o : Oper} (hw : wantedE ops o e = true) (h : Run1 P o e w K) : OpG P ops o e w K := by unfold OpG; rw [hw]; exact h
theorem og_no {o : Oper} (hw : wantedE ops o e = false) (h : K undef w) : OpG P ops o e w K := by unfold OpG; rw [hw]; exact h
theorem run1_ok {o : Oper} {v : Value} {w' : World} (h : (execOp (ev e) o).run P w = .ok (.value v) w') (hK : K v w') : Run1 P o e w K := by unfold Run1; rw [h]; exact hK
theorem run1_skip {o : Oper} {w' : World} (h : (execOp (ev e) o).run P w = .ok .skip w') (hK : K undef w') : Run1 P o e w K := by unfold Run1; rw [h]; exact hK

/-! ### moves, by the value's form -/
theorem r_move {x : Operand} {v : Value} (hx : ev e x = v) (h : K v w) : Run1 P ⟨d, .move x, ty, pos, af, g⟩ e w K := by subst hx; exact h
theorem r_assign {x : Operand} {v : Value} (hx : ev e x = v) (h : K v w) : Run1 P ⟨d, .assign x, ty, pos, af, g⟩ e w K := by subst hx; exact h
theorem r_move_int {x : Operand} {k : IntKind} {a : Int} (hx : ev e x = .int k a) (h : K (.int k a) w) : Run1 P ⟨d, .move x, ty, pos, af, g⟩ e w K := r_move hx h
theorem r_move_bool {x : Operand} {b : Bool} (hx : ev e x = .bool b) (h : K (.bool b) w) : Run1 P ⟨d, .move x, ty, pos, af, g⟩ e w K := r_move hx h
theorem r_move_ptr {x : Operand} {b : Option Addr} (hx : ev e x = .pointer b) (h : K (.pointer b) w) : Run1 P ⟨d, .move x, ty, pos, af, g⟩ e w K := r_move hx h
theorem r_move_slice {x : Operand} {a : Option Addr} {n c : Nat} (hx : ev e x = .slice a n c) (h : K (.slice a n c) w) : Run1 P ⟨d, .move x, ty, pos, af, g⟩ e w K := r_move hx h
theorem r_move_agg {x : Operand} {c : Array Value} (hx : ev e x = .agg c) (h : K (.agg c) w) : Run1 P ⟨d, .move x, ty, pos, af, g⟩ e w K := r_move hx h
theorem r_move_tuple {x : Operand} {c : Array Value} (hx : ev e x = .tuple c) (h : K (.tuple c) w) : Run1 P ⟨d, .move x, ty, pos, af, g⟩ e w K := r_move hx h
theorem r_move_str {x : Operand} {s : ByteArray} (hx : ev e x = .string s) (h : K (.string s) w) : Run1 P ⟨d, .move x, ty, pos, af, g⟩ e w K := r_move hx h
theorem r_move_func {x : Operand} {f : Fn} {a c : Array Value} (hx : ev e x = .func f a c) (h : K (.func f a c) w) : Run1 P ⟨d, .move x, ty, pos, af, g⟩ e w K := r_move hx h
theorem r_move_iface {x : Operand} {t : TypeId} {v : Value} (hx : ev e x = .iface t v) (h : K (.iface t v) w) : Run1 P ⟨d, .move x, ty, pos, af, g⟩ e w K := r_move hx h
theorem r_move_nili {x : Operand} (hx : ev e x = .nilIface) (h : K .nilIface w) : Run1 P ⟨d, .move x, ty, pos, af, g⟩ e w K := r_move hx h
theorem r_assign_int {x : Operand} {k : IntKind} {a : Int} (hx : ev e x = .int k a) (h : K (.int k a) w) : Run1 P ⟨d, .assign x, ty, pos, af, g⟩ e w K := r_assign hx h
theorem r_assign_bool {x : Operand} {b : Bool} (hx : ev e x = .bool b) (h : K (.bool b) w) : Run1 P ⟨d, .assign x, ty, pos, af, g⟩ e w K := r_assign hx h
theorem r_assign_ptr {x : Operand} {b : Option Addr} (hx : ev e x = .pointer b) (h : K (.pointer b) w) : Run1 P ⟨d, .assign x, ty, pos, af, g⟩ e w K := r_assign hx h
theorem r_assign_slice {x : Operand} {a : Option Addr} {n c : Nat} (hx : ev e x = .slice a n c) (h : K (.slice a n c) w) : Run1 P ⟨d, .assign x, ty, pos, af, g⟩ e w K := r_assign hx h
theorem r_assign_agg {x : Operand} {c : Array Value} (hx : ev e x = .agg c) (h : K (.agg c) w) : Run1 P ⟨d, .assign x, ty, pos, af, g⟩ e w K := r_assign hx h
theorem r_assign_str {x : Operand} {s : ByteArray} (hx : ev e x = .string s) (h : K (.string s) w) : Run1 P ⟨d, .assign x, ty, pos, af, g⟩ e w K := r_assign hx h
theorem r_assign_func {x : Operand} {f : Fn} {a c : Array Value} (hx : ev e x = .func f a c) (h : K (.func f a c) w) : Run1 P ⟨d, .assign x, ty, pos, af, g⟩ e w K := r_assign hx h
theorem r_assign_iface {x : Operand} {t : TypeId} {v : Value} (hx : ev e x = .iface t v) (h : K (.iface t v) w) : Run1 P ⟨d, .assign x, ty, pos, af, g⟩ e w K := r_assign hx h
theorem r_assign_nili {x : Operand} (hx : ev e x = .nilIface) (h : K .nilIface w) : Run1 P ⟨d, .assign x, ty, pos, af, g⟩ e w K := r_assign hx h
theorem r_pick_t {c x y : Operand} {b : Bool} {v : Value} (hc : ev e c = .bool b) (hb : b = true) (hx : ev e x = v) (h : K v w) : Run1 P ⟨d, .pick c x y, ty, pos, af, g⟩ e w K := by
  subst hb; subst hx
  exact run1_ok (v := ev e x) (w' := w) (by simp [execOp, hc, asBool]) h
theorem r_pick_f {c x y : Operand} {b : Bool} {v : Value} (hc : ev e c = .bool b) (hb : b = false) (hx : ev e y = v) (h : K v w) : Run1 P ⟨d, .pick c x y, ty, pos, af, g⟩ e w K := by
  subst hb; subst hx
  exact run1_ok (v := ev e y) (w' := w) (by simp [execOp, hc, asBool]) h
theorem r_extract {x : Operand} {i : Nat} {vs : Array Value} {v : Value} (hx : ev e x = .tuple vs) (hi : vs[i]? = some v) (h : K v w) : Run1 P ⟨d, .extract x i, ty, pos, af, g⟩ e w K :=
  run1_ok (v := v) (w' := w) (by simp [execOp, hx, Instr.extract, hi]) h

/-! ### numbers -/
def inR : IntKind → Int → Prop
  | .i8, n => -128 ≤ n ∧ n ≤ 127
  | .i16, n => -32768 ≤ n ∧ n ≤ 32767
  | .i32, n => -2147483648 ≤ n ∧ n ≤ 2147483647
  | .i64, n => -9223372036854775808 ≤ n ∧ n ≤ 9223372036854775807
  | .u8, n => 0 ≤ n ∧ n ≤ 255
  | .u16, n => 0 ≤ n ∧ n ≤ 65535
  | .u32, n => 0 ≤ n ∧ n ≤ 4294967295
  | .u64, n => 0 ≤ n ∧ n ≤ 18446744073709551615
theorem wrap_in {k : IntKind} {n : Int} (h : inR k n) : k.wrap n = n := by
  cases k <;> simp only [inR] at h
  · exact IntWalk.i8_in n h
  · exact IntWalk.i16_in n h
  · exact IntWalk.i32_in n h
  · exact IntWalk.i64_in n h
  · exact IntWalk.u8_in n h
  · exact IntWalk.u16_in n h
  · exact IntWalk.u32_in n h
  · exact IntWalk.u64_in n h
theorem int_run (op : BinOp) {t u : TypeId} {x y : Operand} {k : IntKind} {a b : Int} {v : Value} (hx : ev e x = .int k a) (hy : ev e y = .int k b)
    (hv : ∀ w : World, (binOp op t (.int k a) (.int k b)).run P w = .ok v w) (h : K v w) : Run1 P ⟨d, .binOp op t x y u, ty, pos, af, g⟩ e w K := by
  refine run1_ok (v := v) (w' := w) ?_ h
  have hg : ∀ w : World, (eqGuard op t x y (.int k a) (.int k b)).run P w = .ok () w := by intro w; unfold eqGuard; cases op <;> rfl
  simp only [execOp, hx, hy, Sem.run_bind, hg, Result.andThen_ok, hv]
  rfl
variable {t u : TypeId} {x y : Operand} {k k' : IntKind} {a b : Int}
theorem r_addw (hx : ev e x = .int k a) (hy : ev e y = .int k b) (h : K (.int k (k.wrap (a + b))) w) : Run1 P ⟨d, .binOp .add t x y u, ty, pos, af, g⟩ e w K :=
  int_run .add hx hy (fun w => by simp [binOp, Op.intArith]) h
theorem r_subw (hx : ev e x = .int k a) (hy : ev e y = .int k b) (h : K (.int k (k.wrap (a - b))) w) : Run1 P ⟨d, .binOp .sub t x y u, ty, pos, af, g⟩ e w K :=
  int_run .sub hx hy (fun w => by simp [binOp, Op.intArith]) h
theorem r_mulw (hx : ev e x = .int k a) (hy : ev e y = .int k b) (h : K (.int k (k.wrap (a * b))) w) : Run1 P ⟨d, .binOp .mul t x y u, ty, pos, af, g⟩ e w K :=
  int_run .mul hx hy (fun w => by simp [binOp, Op.intArith]) h
theorem r_add (hx : ev e x = .int k a) (hy : ev e y = .int k b) (hr : inR k (a + b)) (h : K (.int k (a + b)) w) : Run1 P ⟨d, .binOp .add t x y u, ty, pos, af, g⟩ e w K :=
  r_addw hx hy (by rw [wrap_in hr]; exact h)
theorem r_sub (hx : ev e x = .int k a) (hy : ev e y = .int k b) (hr : inR k (a - b)) (h : K (.int k (a - b)) w) : Run1 P ⟨d, .binOp .sub t x y u, ty, pos, af, g⟩ e w K :=
  r_subw hx hy (by rw [wrap_in hr]; exact h)
theorem r_mul (hx : ev e x = .int k a) (hy : ev e y = .int k b) (hr : inR k (a * b)) (h : K (.int k (a * b)) w) : Run1 P ⟨d, .binOp .mul t x y u, ty, pos, af, g⟩ e w K :=
  r_mulw hx hy (by rw [wrap_in hr]; exact h)
theorem r_quo (hx : ev e x = .int k a) (hy : ev e y = .int k b) (h0 : 0 ≤ a) (h1 : 0 < b) (hr : inR k (a / b)) (h : K (.int k (a / b)) w) : Run1 P ⟨d, .binOp .quo t x y u, ty, pos, af, g⟩ e w K :=
  int_run .quo hx hy (fun w => by
    have hb : b ≠ 0 := by omega
    simp only [binOp, Op.intDiv, hb, ne_eq, not_true_eq_false, if_false, Sem.run_pure]
    rw [Int.tdiv_eq_ediv_of_nonneg h0, wrap_in hr]) h
theorem r_quow (hx : ev e x = .int k a) (hy : ev e y = .int k b) (h1 : b ≠ 0) (h : K (.int k (k.wrap (a.tdiv b))) w) : Run1 P ⟨d, .binOp .quo t x y u, ty, pos, af, g⟩ e w K :=
  int_run .quo hx hy (fun w => by simp only [binOp, Op.intDiv, h1, ne_eq, not_true_eq_false, if_false, Sem.run_pure]) h
theorem r_rem (hx : ev e x = .int k a) (hy : ev e y = .int k b) (h0 : 0 ≤ a) (h1 : 0 < b) (h : K (.int k (a % b)) w) : Run1 P ⟨d, .binOp .rem t x y u, ty, pos, af, g⟩ e w K :=
  int_run .rem hx hy (fun w => by
    have hb : b ≠ 0 := by omega
    simp only [binOp, Op.intDiv, hb, ne_eq, not_true_eq_false, if_false, Sem.run_pure]
    rw [Int.tmod_eq_emod_of_nonneg h0]) h
theorem r_remw (hx : ev e x = .int k a) (hy : ev e y = .int k b) (h1 : b ≠ 0) (h : K (.int k (a.tmod b)) w) : Run1 P ⟨d, .binOp .rem t x y u, ty, pos, af, g⟩ e w K :=
  int_run .rem hx hy (fun w => by simp only [binOp, Op.intDiv, h1, ne_eq, not_true_eq_false, if_false, Sem.run_pure]) h
/-- '&', '|', '^', '&^' on numbers of a kind. -/
def bitop (op : BinOp) (k : IntKind) (a b : Int) : Int :=
  k.wrap (match op with
    | .and => (BitVec.ofInt k.bits a &&& BitVec.ofInt k.bits b).toNat
    | .or => (BitVec.ofInt k.bits a ||| BitVec.ofInt k.bits b).toNat
    | .xor => (BitVec.ofInt k.bits a ^^^ BitVec.ofInt k.bits b).toNat
    | _ => (BitVec.ofInt k.bits a &&& ~~~BitVec.ofInt k.bits b).toNat)
theorem r_and (hx : ev e x = .int k a) (hy : ev e y = .int k b) (h : K (.int k (bitop .and k a b)) w) : Run1 P ⟨d, .binOp .and t x y u, ty, pos, af, g⟩ e w K :=
  int_run .and hx hy (fun w => by simp [binOp, Op.intBits, bitop]) h
theorem r_or (hx : ev e x = .int k a) (hy : ev e y = .int k b) (h : K (.int k (bitop .or k a b)) w) : Run1 P ⟨d, .binOp .or t x y u, ty, pos, af, g⟩ e w K :=
  int_run .or hx hy (fun w => by simp [binOp, Op.intBits, bitop]) h
theorem r_xor (hx : ev e x = .int k a) (hy : ev e y = .int k b) (h : K (.int k (bitop .xor k a b)) w) : Run1 P ⟨d, .binOp .xor t x y u, ty, pos, af, g⟩ e w K :=
  int_run .xor hx hy (fun w => by simp [binOp, Op.intBits, bitop]) h
theorem r_andnot (hx : ev e x = .int k a) (hy : ev e y = .int k b) (h : K (.int k (bitop .andNot k a b)) w) : Run1 P ⟨d, .binOp .andNot t x y u, ty, pos, af, g⟩ e w K :=
  int_run .andNot hx hy (fun w => by simp [binOp, Op.intBits, bitop]) h
theorem r_shl (hx : ev e x = .int k a) (hy : ev e y = .int k' b) (h0 : 0 ≤ b) (h : K (.int k (k.wrap (a * 2 ^ min b.toNat k.bits))) w) : Run1 P ⟨d, .binOp .shl t x y u, ty, pos, af, g⟩ e w K :=
  run1_ok (w' := w) (by
    simp only [execOp, hx, hy, Sem.run_bind, eqGuard, binOp, shift_shl_any k k' a b h0, Sem.run_pure, Result.andThen_ok]
    rfl) h
theorem r_shr (hx : ev e x = .int k a) (hy : ev e y = .int k' b) (h0 : 0 ≤ b) (h : K (.int k (a / 2 ^ min b.toNat k.bits)) w) : Run1 P ⟨d, .binOp .shr t x y u, ty, pos, af, g⟩ e w K :=
  run1_ok (w' := w) (by
    simp only [execOp, hx, hy, Sem.run_bind, eqGuard, binOp, shift_shr_any k k' a b h0, Sem.run_pure, Result.andThen_ok]
    rfl) h

theorem r_shlc {m : Int} (hx : ev e x = .int k a) (hy : ev e y = .int k' b) (hm : 2 ^ min b.toNat k.bits = m) (h0 : 0 ≤ b) (hr : inR k (a * m)) (h : K (.int k (a * m)) w) : Run1 P ⟨d, .binOp .shl t x y u, ty, pos, af, g⟩ e w K :=
  r_shl hx hy h0 (by rw [hm, wrap_in hr]; exact h)
theorem r_shlcw {m : Int} (hx : ev e x = .int k a) (hy : ev e y = .int k' b) (hm : 2 ^ min b.toNat k.bits = m) (h0 : 0 ≤ b) (h : K (.int k (k.wrap (a * m))) w) : Run1 P ⟨d, .binOp .shl t x y u, ty, pos, af, g⟩ e w K :=
  r_shl hx hy h0 (by rw [hm]; exact h)
theorem r_shrc {m : Int} (hx : ev e x = .int k a) (hy : ev e y = .int k' b) (hm : 2 ^ min b.toNat k.bits = m) (h0 : 0 ≤ b) (h : K (.int k (a / m)) w) : Run1 P ⟨d, .binOp .shr t x y u, ty, pos, af, g⟩ e w K :=
  r_shr hx hy h0 (by rw [hm]; exact h)

/-! ### tests on numbers: decided, or open -/
theorem r_eql (hx : ev e x = .int k a) (hy : ev e y = .int k b) (h : K (.bool (decide (a = b))) w) : Run1 P ⟨d, .binOp .eql t x y u, ty, pos, af, g⟩ e w K :=
  int_run .eql hx hy (fun w => by simp only [binOp, Op.intCmp, ne_eq, not_true_eq_false, if_false, Sem.run_pure]; rfl) h
theorem r_neq (hx : ev e x = .int k a) (hy : ev e y = .int k b) (h : K (.bool (decide (a ≠ b))) w) : Run1 P ⟨d, .binOp .neq t x y u, ty, pos, af, g⟩ e w K :=
  int_run .neq hx hy (fun w => by
    simp only [binOp, Op.intCmp, ne_eq, not_true_eq_false, if_false, Sem.run_pure]
    congr 2; by_cases hab : a = b <;> simp [hab]) h
theorem r_lss (hx : ev e x = .int k a) (hy : ev e y = .int k b) (h : K (.bool (decide (a < b))) w) : Run1 P ⟨d, .binOp .lss t x y u, ty, pos, af, g⟩ e w K :=
  int_run .lss hx hy (fun w => by simp only [binOp, Op.intCmp, ne_eq, not_true_eq_false, if_false, Sem.run_pure]) h
theorem r_leq (hx : ev e x = .int k a) (hy : ev e y = .int k b) (h : K (.bool (decide (a ≤ b))) w) : Run1 P ⟨d, .binOp .leq t x y u, ty, pos, af, g⟩ e w K :=
  int_run .leq hx hy (fun w => by simp only [binOp, Op.intCmp, ne_eq, not_true_eq_false, if_false, Sem.run_pure]) h
theorem r_gtr (hx : ev e x = .int k a) (hy : ev e y = .int k b) (h : K (.bool (decide (a > b))) w) : Run1 P ⟨d, .binOp .gtr t x y u, ty, pos, af, g⟩ e w K :=
  int_run .gtr hx hy (fun w => by simp only [binOp, Op.intCmp, ne_eq, not_true_eq_false, if_false, Sem.run_pure]) h
theorem r_geq (hx : ev e x = .int k a) (hy : ev e y = .int k b) (h : K (.bool (decide (a ≥ b))) w) : Run1 P ⟨d, .binOp .geq t x y u, ty, pos, af, g⟩ e w K :=
  int_run .geq hx hy (fun w => by simp only [binOp, Op.intCmp, ne_eq, not_true_eq_false, if_false, Sem.run_pure]) h
theorem r_eql_t (hx : ev e x = .int k a) (hy : ev e y = .int k b) (hc : a = b) (h : K (.bool true) w) : Run1 P ⟨d, .binOp .eql t x y u, ty, pos, af, g⟩ e w K := r_eql hx hy (by rw [decide_eq_true hc]; exact h)
theorem r_eql_f (hx : ev e x = .int k a) (hy : ev e y = .int k b) (hc : ¬ a = b) (h : K (.bool false) w) : Run1 P ⟨d, .binOp .eql t x y u, ty, pos, af, g⟩ e w K := r_eql hx hy (by rw [decide_eq_false hc]; exact h)
theorem r_neq_t (hx : ev e x = .int k a) (hy : ev e y = .int k b) (hc : a ≠ b) (h : K (.bool true) w) : Run1 P ⟨d, .binOp .neq t x y u, ty, pos, af, g⟩ e w K := r_neq hx hy (by rw [decide_eq_true hc]; exact h)
theorem r_neq_f (hx : ev e x = .int k a) (hy : ev e y = .int k b) (hc : a = b) (h : K (.bool false) w) : Run1 P ⟨d, .binOp .neq t x y u, ty, pos, af, g⟩ e w K := r_neq hx hy (by rw [decide_eq_false (not_not_intro hc)]; exact h)
theorem r_lss_t (hx : ev e x = .int k a) (hy : ev e y = .int k b) (hc : a < b) (h : K (.bool true) w) : Run1 P ⟨d, .binOp .lss t x y u, ty, pos, af, g⟩ e w K := r_lss hx hy (by rw [decide_eq_true hc]; exact h)
theorem r_lss_f (hx : ev e x = .int k a) (hy : ev e y = .int k b) (hc : ¬ a < b) (h : K (.bool false) w) : Run1 P ⟨d, .binOp .lss t x y u, ty, pos, af, g⟩ e w K := r_lss hx hy (by rw [decide_eq_false hc]; exact h)
theorem r_leq_t (hx : ev e x = .int k a) (hy : ev e y = .int k b) (hc : a ≤ b) (h : K (.bool true) w) : Run1 P ⟨d, .binOp .leq t x y u, ty, pos, af, g⟩ e w K := r_leq hx hy (by rw [decide_eq_true hc]; exact h)
theorem r_leq_f (hx : ev e x = .int k a) (hy : ev e y = .int k b) (hc : ¬ a ≤ b) (h : K (.bool false) w) : Run1 P ⟨d, .binOp .leq t x y u, ty, pos, af, g⟩ e w K := r_leq hx hy (by rw [decide_eq_false hc]; exact h)
theorem r_gtr_t (hx : ev e x = .int k a) (hy : ev e y = .int k b) (hc : a > b) (h : K (.bool true) w) : Run1 P ⟨d, .binOp .gtr t x y u, ty, pos, af, g⟩ e w K := r_gtr hx hy (by rw [decide_eq_true hc]; exact h)
theorem r_gtr_f (hx : ev e x = .int k a) (hy : ev e y = .int k b) (hc : ¬ a > b) (h : K (.bool false) w) : Run1 P ⟨d, .binOp .gtr t x y u, ty, pos, af, g⟩ e w K := r_gtr hx hy (by rw [decide_eq_false hc]; exact h)
theorem r_geq_t (hx : ev e x = .int k a) (hy : ev e y = .int k b) (hc : a ≥ b) (h : K (.bool true) w) : Run1 P ⟨d, .binOp .geq t x y u, ty, pos, af, g⟩ e w K := r_geq hx hy (by rw [decide_eq_true hc]; exact h)
theorem r_geq_f (hx : ev e x = .int k a) (hy : ev e y = .int k b) (hc : ¬ a ≥ b) (h : K (.bool false) w) : Run1 P ⟨d, .binOp .geq t x y u, ty, pos, af, g⟩ e w K := r_geq hx hy (by rw [decide_eq_false hc]; exact h)
theorem r_beq {p q : Bool} [hu : BoolI P t] (hx : ev e x = .bool p) (hy : ev e y = .bool q) (h : K (.bool (p == q)) w) : Run1 P ⟨d, .binOp .eql t x y u, ty, pos, af, g⟩ e w K :=
  run1_ok (w' := w) (by
    have hg : ∀ w : World, (eqGuard .eql t x y (.bool p) (.bool q)).run P w = .ok () w := fun _ => rfl
    simp only [execOp, hx, hy, Sem.run_bind, hg, Result.andThen_ok, run_eql_bool w t p q hu.h, Sem.run_pure]) h
theorem r_bne {p q : Bool} [hu : BoolI P t] (hx : ev e x = .bool p) (hy : ev e y = .bool q) (h : K (.bool (!(p == q))) w) : Run1 P ⟨d, .binOp .neq t x y u, ty, pos, af, g⟩ e w K :=
  run1_ok (w' := w) (by
    have hg : ∀ w : World, (eqGuard .neq t x y (.bool p) (.bool q)).run P w = .ok () w := fun _ => rfl
    simp only [execOp, hx, hy, Sem.run_bind, hg, Result.andThen_ok, run_neq_bool w t p q hu.h, Sem.run_pure]) h
theorem r_not {p : Bool} (hx : ev e x = .bool p) (h : K (.bool (!p)) w) : Run1 P ⟨d, .unOp .not t x, ty, pos, af, g⟩ e w K :=
  run1_ok (w' := w) (by simp only [execOp, hx, Op.unary, Sem.run_bind, Sem.run_pure, Result.andThen_ok]) h
theorem r_convw [hs : UndI P t] [hu : IntI P u k] (hx : ev e x = .int k' a) (h : K (.int k (k.wrap a)) w) : Run1 P ⟨d, .convert t u x, ty, pos, af, g⟩ e w K := by
  obtain ⟨ds, hs⟩ := hs.h
  have hu := hu.h
  refine run1_ok (w' := w) (v := .int k (k.wrap a)) ?_ h
  simp only [execOp, hx, convert, underlying, program, Sem.run_bind, Sem.run, hs, hu, Sem.run_pure, Result.andThen_ok, Conv.intToInt]
theorem r_conv [hs : UndI P t] [hu : IntI P u k] (hx : ev e x = .int k' a) (hr : inR k a) (h : K (.int k a) w) : Run1 P ⟨d, .convert t u x, ty, pos, af, g⟩ e w K :=
  r_convw hx (by rw [wrap_in hr]; exact h)

/-! ### calls -/
/-- It returns, and so. -/
def Ret (F : Value → World → Prop) : Ending → World → Prop := fun r w' => ∃ v, r = .returned v ∧ F v w'
/-- It returns this, and only makes memory. -/
def Gives (P : Program) (f : FuncId) (args : Array Value) (w : World) (x : Value) : Prop := Calls P f args w (Ret fun v w' => v = x ∧ Grow w w')
def argsOf (e : Env) (fst : Array Value) (args : Array Operand) (cap : Array Value) : List Value := fst.toList ++ (args.toList.map (ev e) ++ cap.toList)
/-- A call of a function with a body: a named one, a closure, a method's value. -/
theorem r_call {f : FuncId} {fv : Operand} {args : Array Operand} {at_ : Array TypeId} {fst cap : Array Value} {F : Value → World → Prop}
    (hx : ev e fv = .func (.func f) fst cap) [hfi : FuncI P f]
    (hc : Calls P f (argsOf e fst args cap).toArray w (Ret F)) (h : ∀ v w', F v w' → K v w') : Run1 P ⟨d, .call ⟨.value fv, args, at_⟩, ty, pos, af, g⟩ e w K := by
  obtain ⟨fn, hf, hn⟩ := hfi.h
  simp only [Bool.or_eq_false_iff, beq_eq_false_iff_ne] at hn
  obtain ⟨hn1, hn2⟩ := hn
  have ha : fst ++ args.map (ev e) ++ cap = (argsOf e fst args cap).toArray := by
    apply Array.ext'
    simp [argsOf]
  have hr : (execOp (ev e) ⟨d, .call ⟨.value fv, args, at_⟩, ty, pos, af, g⟩).run P w = .ok (.enter f (argsOf e fst args cap).toArray) w := by
    simp only [execOp, resolve, hx, Deferred.ofValue, Sem.run_bind, Sem.run_pure, Result.andThen_ok, invoke, ha]
    have hn3 : ¬ fn.body = none := fun h => by rw [h] at hn2; simp at hn2
    simp [callFunc, program, Sem.run, hf, hn1, hn3]
  unfold Run1
  rw [hr]
  exact hc.mono fun r w' ⟨v, hv, hF⟩ => ⟨v, hv, h v w' hF⟩
theorem r_gives {f : FuncId} {fv : Operand} {args : Array Operand} {at_ : Array TypeId} {fst cap : Array Value} {v : Value}
    (hx : ev e fv = .func (.func f) fst cap) [hfi : FuncI P f]
    (hc : Gives P f (argsOf e fst args cap).toArray w v) (h : ∀ w', Grow w w' → K v w') : Run1 P ⟨d, .call ⟨.value fv, args, at_⟩, ty, pos, af, g⟩ e w K :=
  r_call hx hc fun _ w' ⟨hv, hg⟩ => by subst hv; exact h w' hg
theorem gives_eq {P : Program} {f : FuncId} {args : Array Value} {w : World} {x y : Value} (h : Gives P f args w x) (e : x = y) : Gives P f args w y := e ▸ h
theorem calls_ret {f : FuncId} {fn : Func} {c : Code} {args : Array Value} {F : Value → World → Prop} {n : Nat} {rs : List ResultVar}
    (hf : P.funcs[f]? = some fn) (hn : fn.ntmps = n) (hr : fn.results = rs.toArray) (hb : fn.body = some c) (hle : Nat.ble args.size n = true)
    (h : W P n c (RetQ P rs (Ret F)) ⟨fun i => args.getD i undef, [], none⟩ w) : Calls P f args w (Ret F) := calls_of_W hf hb hn (by rw [hr]) hle h
theorem gives_of {f : FuncId} {fn : Func} {c : Code} {args : Array Value} {x : Value} {n : Nat} {rs : List ResultVar}
    (hf : P.funcs[f]? = some fn) (hn : fn.ntmps = n) (hr : fn.results = rs.toArray) (hb : fn.body = some c) (hle : Nat.ble args.size n = true)
    (h : W P n c (RetQ P rs (Ret fun v w' => v = x ∧ Grow w w')) ⟨fun i => args.getD i undef, [], none⟩ w) : Gives P f args w x := calls_ret hf hn hr hb hle h
end
end Go.Proofs.Ytldlfhodboigeaa.K
