/- The rules of operations on memory. Generic in the program. -/
import Derived.Test.YtldlfhodboigeaaJ4
import Derived.Laws.AppendOwn
set_option linter.unusedVariables false
set_option linter.unusedSimpArgs false
namespace Go.Proofs.Ytldlfhodboigeaa.K
open Go Go.RowKit

/-- One block has changed, nothing else. -/
structure Upd (b : Nat) (w w' : World) : Prop where
  os : w'.os = w.os
  tape : w'.tape = w.tape
  output : w'.output = w.output
  size : w'.heap.size = w.heap.size
  other : ∀ k, k ≠ b → w'.heap[k]? = w.heap[k]?
theorem Upd.below {b n : Nat} {w w' : World} (h : Upd b w w') (hn : n ≤ b) : Below n w w' := ⟨h.os, h.tape, h.output, by rw [h.size]; exact Nat.le_refl _, fun k hk => h.other k (by omega)⟩
theorem Upd.heap {b k : Nat} {w w' : World} {o : Obj} (h : Upd b w w') (hk : w.heap[k]? = some o) (hne : k ≠ b) : w'.heap[k]? = some o := by rw [h.other k hne]; exact hk
theorem Grow.upd {b : Nat} {w w' w'' : World} (g : Grow w w') (h : Upd b w' w'') (hb : w.heap.size ≤ b) : Grow w w'' := Below.trans g (h.below hb)
theorem lt_of_heap {w : World} {b : Nat} {o : Obj} (h : w.heap[b]? = some o) : b < w.heap.size := (Array.getElem?_eq_some_iff.1 h).1
theorem below_heap {n b : Nat} {w w' : World} {o : Obj} (g : Below n w w') (hb : b < n) (h : w.heap[b]? = some o) : w'.heap[b]? = some o := by rw [g.block b hb]; exact h
theorem grow_alloc (w : World) (o : Obj) : Grow w (w.alloc o) := (Below.refl _ w).alloc (Nat.le_refl _) o

/-- A type's cells, and whether a value of it is a row of them. -/
def tyS (P : Program) (t : TypeId) : Option (Nat × Bool) :=
  match P.info? t, P.underlying t with
  | some i, some d => some (i.size, match d with | .struct _ | .array _ _ => true | _ => false)
  | _, _ => none
def fldS (P : Program) (s : TypeId) (f : Nat) : Option Nat :=
  match P.underlying s with
  | some (.struct fs) => (match fs[f]? with
    | some x => (match P.info? x.type with | some i => if i.size = 0 then none else some x.offset | none => none)
    | none => none)
  | _ => none
def zeroS (P : Program) (t : TypeId) : Option (Array Value) := ((P.info? t).bind (·.zero)).map Value.cells
/-- A slice type's element: its type and its cells. -/
def elS (P : Program) (t : TypeId) : Option (TypeId × Nat) :=
  match P.underlying t with
  | some (.slice el) => (match P.info? el with | some i => some (el, i.size) | none => none)
  | _ => none

class TyI (P : Program) (t : TypeId) (n : outParam Nat) (ag : outParam Bool) : Prop where
  h : tyS P t = some (n, ag)
class FldI (P : Program) (t : TypeId) (f : Nat) (off : outParam Nat) : Prop where
  h : fldS P t f = some off
class ZeroI (P : Program) (t : TypeId) (cs : outParam (Array Value)) : Prop where
  h : zeroS P t = some cs
class ElI (P : Program) (t : TypeId) (el : outParam TypeId) (sz : outParam Nat) : Prop where
  h : elS P t = some (el, sz)
class ConcI (P : Program) (t : TypeId) : Prop where
  h : P.concrete t = true

section
variable {P : Program} {ops : Array Oper} {Q : Ex → Env → World → Prop} {e : Env} {w : World} {K : Value → World → Prop} {r : List Oper}
variable {d : Option Nat} {ty : TypeId} {pos : String} {af : Array Edge} {g : Option (Nat × Bool)}
variable {t u : TypeId} {x y : Operand} {k k' : IntKind} {a c : Int}

theorem r_alloc {cs : Array Value} [hzi : ZeroI P t cs]
    (h : ∀ (b : Nat) (w' : World), w.heap.size ≤ b → w'.heap[b]? = some (.cells cs t (0, 0)) → Grow w w' → K (.pointer (some ⟨b, 0, none⟩)) w') : Run1 P ⟨d, .alloc t, ty, pos, af, g⟩ e w K := by
  have hz := hzi.h
  unfold zeroS at hz
  cases hi : P.info? t with
  | none => rw [hi] at hz; simp at hz
  | some i =>
    rw [hi] at hz
    cases hzz : i.zero with
    | none => simp [hzz] at hz
    | some z =>
      simp only [Option.bind_some, hzz, Option.map_some, Option.some.injEq] at hz
      refine run1_ok (v := .pointer (some ⟨w.heap.size, 0, none⟩)) (w' := w.alloc (.cells cs t (0, 0))) ?_ (h _ _ (Nat.le_refl _) (heap_alloc_new w _) (grow_alloc w _))
      simp [execOp, Instr.alloc, zeroValue, typeInfo, program, Sem.run, hi, hzz, newVar, newRow, newObj, hz]
theorem r_box {v : Value} {cs : Array Value} (hx : ev e x = v) (hc : v.cells = cs)
    (h : ∀ (b : Nat) (w' : World), w.heap.size ≤ b → w'.heap[b]? = some (.cells cs t (0, 0)) → Grow w w' → K (.pointer (some ⟨b, 0, none⟩)) w') : Run1 P ⟨d, .box t x, ty, pos, af, g⟩ e w K := by
  refine run1_ok (v := .pointer (some ⟨w.heap.size, 0, none⟩)) (w' := w.alloc (.cells cs t (0, 0))) ?_ (h _ _ (Nat.le_refl _) (heap_alloc_new w _) (grow_alloc w _))
  simp [execOp, Instr.box, newVar, newRow, newObj, Sem.run, hx, hc]
theorem r_build {parts : Array (Nat × Operand)} {v : Value} (hv : ∀ w : World, (Instr.build t (parts.map fun (i, x) => (i, ev e x))).run P w = .ok v w) (h : K v w) : Run1 P ⟨d, .build t parts, ty, pos, af, g⟩ e w K :=
  run1_ok (w' := w) (by simp only [execOp, Sem.run_bind]; rw [hv w]; rfl) h
theorem r_buildSlice {parts : Array (Nat × Operand)} {n : Nat} {cs : Array Value} {el : TypeId}
    (hv : ∀ w : World, (Instr.buildSlice t n (parts.map fun (i, x) => (i, ev e x))).run P w = .ok (.slice (some ⟨w.heap.size, 0, none⟩) n n) (w.alloc (.cells cs el (0, 0))))
    (h : ∀ (b : Nat) (w' : World), w.heap.size ≤ b → w'.heap[b]? = some (.cells cs el (0, 0)) → Grow w w' → K (.slice (some ⟨b, 0, none⟩) n n) w') : Run1 P ⟨d, .buildSlice t n parts, ty, pos, af, g⟩ e w K :=
  run1_ok (v := .slice (some ⟨w.heap.size, 0, none⟩) n n) (w' := w.alloc (.cells cs el (0, 0))) (by simp only [execOp, Sem.run_bind]; rw [hv w]; rfl) (h _ _ (Nat.le_refl _) (heap_alloc_new w _) (grow_alloc w _))

theorem add_lit (b o n : Nat) : (⟨b, o, none⟩ : Addr).add n = ⟨b, o + n, none⟩ := by
  unfold Addr.add; split
  · rename_i h; subst h; rfl
  · rfl
theorem r_fieldAddr {f b o off : Nat} [hfi : FldI P t f off] (hx : ev e x = .pointer (some ⟨b, o, none⟩)) (h : K (.pointer (some ⟨b, o + off, none⟩)) w) : Run1 P ⟨d, .fieldAddr t x f, ty, pos, af, g⟩ e w K := by
  refine run1_ok (w' := w) (v := .pointer (some ⟨b, o + off, none⟩)) ?_ h
  have hf := hfi.h
  unfold fldS at hf
  split at hf
  · rename_i fs hu
    split at hf
    · rename_i fl hfl
      split at hf
      · rename_i i hi
        split at hf
        · cases hf
        · rename_i hz
          simp only [Option.some.injEq] at hf
          subst hf
          simp only [execOp, Instr.fieldAt, underlying, program, Sem.run_bind, Sem.run, hu, hx, Instr.sureAddr, Sem.run_pure, Result.andThen_ok, hfl, fieldPlace, sizeOf, typeInfo, hi, hz, if_false, add_lit]
      · cases hf
    · cases hf
  · cases hf

theorem cell_heap {b o : Nat} {cs : Array Value} {T : TypeId} {fr : Nat × Nat} (hb : w.heap[b]? = some (.cells cs T fr)) : w.cell? ⟨b, o, none⟩ = cs[o]? := cell_of_row w b o cs T fr hb
theorem r_load {b o n : Nat} {cs : Array Value} {T : TypeId} {fr : Nat × Nat} {v : Value} [hti : TyI P t n false] (hx : ev e x = .pointer (some ⟨b, o, none⟩))
    (hb : w.heap[b]? = some (.cells cs T fr)) (hv : cs[o]? = some v) (h : K v w) : Run1 P ⟨d, .load t x, ty, pos, af, g⟩ e w K := by
  refine run1_ok (w' := w) (v := v) ?_ h
  have ht := hti.h
  unfold tyS at ht
  split at ht
  · rename_i i dd hi hu
    simp only [Option.some.injEq, Prod.mk.injEq] at ht
    have hagg : (isAgg t).run P w = .ok false w := by
      simp only [isAgg, underlying, program, Sem.run_bind, Sem.run, hu, Result.andThen_ok]
      cases dd <;> first | rfl | simp at ht
    simp only [execOp, Instr.loadAt, hx, Instr.sureAddr, loadVar, Sem.run_bind, Sem.run_pure, Result.andThen_ok, hagg]
    simp [cell_heap hb, hv]
  · cases ht
theorem r_loadN {b o n : Nat} {cs vs : Array Value} {T : TypeId} {fr : Nat × Nat} [hti : TyI P t n true] (hx : ev e x = .pointer (some ⟨b, o, none⟩))
    (hb : w.heap[b]? = some (.cells cs T fr)) (hn : Nat.ble (o + n) cs.size = true) (hv : ((cs.toList.drop o).take n).toArray = vs) (h : K (.agg vs) w) : Run1 P ⟨d, .load t x, ty, pos, af, g⟩ e w K := by
  refine run1_ok (w' := w) (v := .agg vs) ?_ h
  have ht := hti.h
  unfold tyS at ht
  split at ht
  · rename_i i dd hi hu
    simp only [Option.some.injEq, Prod.mk.injEq] at ht
    have hagg : (isAgg t).run P w = .ok true w := by
      simp only [isAgg, underlying, program, Sem.run_bind, Sem.run, hu, Result.andThen_ok]
      cases dd <;> first | rfl | simp at ht
    have hn := Nat.le_of_ble_eq_true hn
    have hsz : vs.size = n := by rw [← hv]; simp; omega
    have hvl : vs.toList = (cs.toList.drop o).take n := by rw [← hv]
    have hc := run_loadCells_list (P := P) (w := w) ⟨b, o, none⟩ vs.toList (fun j v hj => by
      rw [add_lit, cell_heap hb]
      rw [hvl, List.getElem?_take] at hj
      split at hj
      · rw [List.getElem?_drop] at hj; simpa using hj
      · cases hj)
    simp only [Array.length_toList, hsz] at hc
    simp only [execOp, Instr.loadAt, hx, Instr.sureAddr, loadVar, sizeOf, typeInfo, program, Sem.run_bind, Sem.run, Sem.run_pure, Result.andThen_ok, hagg, hi, ht.1, if_true, hc]
  · cases ht

def splice (cs : Array Value) (o : Nat) (vs : Array Value) : Array Value := (cs.toList.take o ++ vs.toList ++ cs.toList.drop (o + vs.size)).toArray
theorem size_splice {cs vs : Array Value} {o : Nat} (h : o + vs.size ≤ cs.size) : (splice cs o vs).size = cs.size := by
  simp [splice]; omega
theorem r_store {b o n : Nat} {ag : Bool} {cs vs cs' : Array Value} {T : TypeId} {v : Value} [hti : TyI P t n ag] (hx : ev e x = .pointer (some ⟨b, o, none⟩)) (hy : ev e y = v) (hc : v.cells = vs)
    (hb : w.heap[b]? = some (.cells cs T (0, 0))) (hn : vs.size = n) (hf : Nat.ble (o + n) cs.size = true) (h1 : vs.toList.all Value.oneCell' = true) (hcs : splice cs o vs = cs')
    (h : ∀ w' : World, w'.heap[b]? = some (.cells cs' T (0, 0)) → Upd b w w' → K undef w') : Run1 P ⟨d, .store t x y, ty, pos, af, g⟩ e w K := by
  subst hcs
  have hf := Nat.le_of_ble_eq_true hf
  have hst := run_storeCells_at P b o T vs.toList 0 cs w hb (by simp; omega) (List.all_eq_true.1 h1)
  simp only [Nat.add_zero, Array.length_toList] at hst
  refine run1_skip (w' := w.setRow b (splice cs o vs)) ?_ (h _ (setRow_heap w b cs _ T (0, 0) hb) ⟨rfl, rfl, rfl, by simp, fun k hk => ?_⟩)
  · have ht := hti.h
    unfold tyS at ht
    split at ht
    · rename_i i dd hi hu
      simp only [Option.some.injEq, Prod.mk.injEq] at ht
      simp only [execOp, Instr.storeAt, hx, hy, Instr.sureAddr, storeVar, sizeOf, typeInfo, program, Sem.run_bind, Sem.run, Sem.run_pure, Result.andThen_ok, hi, hc, hn, ht.1, ne_eq, not_true_eq_false, if_false]
      rw [hst]
      rfl
    · cases ht
  · simp only [World.setRow, Array.getElem?_modify]
    rw [if_neg (fun h => hk h.symm)]
theorem r_indexAddr {b o n c sz : Nat} {el : TypeId} {i : Int} [hui : ElI P t el sz] (hx : ev e x = .slice (some ⟨b, o, none⟩) n c) (hy : ev e y = .int k i) (h0 : 0 ≤ i) (h1 : i < n)
    (h : K (.pointer (some ⟨b, o + i.toNat * sz, none⟩)) w) : Run1 P ⟨d, .indexAddr t x y, ty, pos, af, g⟩ e w K := by
  refine run1_ok (w' := w) (v := .pointer (some ⟨b, o + i.toNat * sz, none⟩)) ?_ h
  have hu := hui.h
  unfold elS at hu
  split at hu
  · rename_i el' hul
    split at hu
    · rename_i inf hi
      simp only [Option.some.injEq, Prod.mk.injEq] at hu
      obtain ⟨rfl, rfl⟩ := hu
      simp [execOp, Instr.indexAt, hx, hy, asIntOf, underlying, program, Sem.run, hul, h0, h1, sizeOf, typeInfo, hi, add_lit]
    · cases hu
  · cases hu
theorem r_len {n c : Nat} {ad : Option Addr} {t2 : TypeId} {at_ : Array TypeId} {xs : Array Operand} (hxs : xs = #[x]) (hat : at_ = #[t2]) {el : TypeId} {sz : Nat} [hui : ElI P t2 el sz] (hx : ev e x = .slice ad n c) (h : K (.int .i64 n) w) :
    Run1 P ⟨d, .call ⟨.builtin .len, xs, at_⟩, ty, pos, af, g⟩ e w K := by
  subst hxs; subst hat
  refine run1_ok (w' := w) (v := .int .i64 n) ?_ h
  have hu := hui.h
  unfold elS at hu
  split at hu
  · rename_i el' hul
    simp [execOp, resolve, invoke, builtin, Builtin.len_, hx, underlying, program, Sem.run, hul, goInt]
  · cases hu
theorem r_makeIface [hc : ConcI P t] {v : Value} (hx : ev e x = v) (h : K (.iface t v) w) : Run1 P ⟨d, .makeInterface t x, ty, pos, af, g⟩ e w K :=
  run1_ok (w' := w) (v := .iface t v) (by simp [execOp, hx, run_makeInterface w t v hc.h]) h
theorem r_makeFunc {f : Fn} {p q : Array Operand} {vs us : List Value} (hp : p.toList.map (ev e) = vs) (hq : q.toList.map (ev e) = us) (h : K (.func f vs.toArray us.toArray) w) : Run1 P ⟨d, .makeFunc f p q, ty, pos, af, g⟩ e w K := by
  have h1 : p.map (ev e) = vs.toArray := by apply Array.ext'; simp [hp]
  have h2 : q.map (ev e) = us.toArray := by apply Array.ext'; simp [hq]
  exact run1_ok (w' := w) (v := .func f vs.toArray us.toArray) (by simp [execOp, Instr.makeFunc, h1, h2]) h
theorem r_nilCheck {a : Addr} (hx : ev e x = .pointer (some a)) (h : K (.pointer (some a)) w) : Run1 P ⟨d, .nilCheck x, ty, pos, af, g⟩ e w K :=
  run1_ok (w' := w) (v := .pointer (some a)) (by simp [execOp, hx]) h

theorem res_tmp {t : Tmp} {v : Value} (h : e t = v) : Res1 P e w (.tmp t) v := h.symm
theorem res_int {t : Tmp} {k : IntKind} {n : Int} (h : e t = .int k n) : Res1 P e w (.tmp t) (.int k n) := h.symm
theorem res_bool {t : Tmp} {b : Bool} (h : e t = .bool b) : Res1 P e w (.tmp t) (.bool b) := h.symm
theorem res_slice {t : Tmp} {a : Option Addr} {n c : Nat} (h : e t = .slice a n c) : Res1 P e w (.tmp t) (.slice a n c) := h.symm
theorem res_cell {a : Tmp} {b o n : Nat} {cs vs : Array Value} {T : TypeId} {fr : Nat × Nat} [hti : TyI P t n true] (hx : e a = .pointer (some ⟨b, o, none⟩))
    (hb : w.heap[b]? = some (.cells cs T fr)) (hn : Nat.ble (o + n) cs.size = true) (hv : ((cs.toList.drop o).take n).toArray = vs) : Res1 P e w (.cell a t) (.agg vs) := by
  have ht := hti.h
  unfold tyS at ht
  split at ht
  · rename_i i dd hi hu
    simp only [Option.some.injEq, Prod.mk.injEq] at ht
    have hagg : (isAgg t).run P w = .ok true w := by
      simp only [isAgg, underlying, program, Sem.run_bind, Sem.run, hu, Result.andThen_ok]
      cases dd <;> first | rfl | simp at ht
    have hn := Nat.le_of_ble_eq_true hn
    have hsz : vs.size = n := by rw [← hv]; simp; omega
    have hvl : vs.toList = (cs.toList.drop o).take n := by rw [← hv]
    have hc := run_loadCells_list (P := P) (w := w) ⟨b, o, none⟩ vs.toList (fun j v hj => by
      rw [add_lit, cell_heap hb]
      rw [hvl, List.getElem?_take] at hj
      split at hj
      · rw [List.getElem?_drop] at hj; simpa using hj
      · cases hj)
    simp only [Array.length_toList, hsz] at hc
    simp only [Res1, hx, asAddr, loadVar, sizeOf, typeInfo, program, Sem.run_bind, Sem.run, Sem.run_pure, Result.andThen_ok, hagg, hi, ht.1, if_true, hc]
  · cases ht
theorem ret0 {F : Value → World → Prop} (h : F (.tuple #[]) w) (hm : e.ms = [] := by rfl) : RetQ P [] (Ret F) .ret e w := ⟨w, by rw [hm]; rfl, [], trivial, _, rfl, h⟩
theorem ret0n {F : Value → World → Prop} (h : F (.tuple #[]) w) (hm : e.ms = [] := by rfl) : RetQ P [] (Ret F) .normal e w := ⟨w, by rw [hm]; rfl, [], trivial, _, rfl, h⟩
theorem ret1 {rv : ResultVar} {F : Value → World → Prop} {v : Value} (h1 : Res1 P e w rv v) (h : F v w) (hm : e.ms = [] := by rfl) : RetQ P [rv] (Ret F) .ret e w := ⟨w, by rw [hm]; rfl, [v], ⟨h1, trivial⟩, _, rfl, h⟩
theorem ret2 {r1 r2 : ResultVar} {F : Value → World → Prop} {v1 v2 : Value} (h1 : Res1 P e w r1 v1) (h2 : Res1 P e w r2 v2) (h : F (.tuple #[v1, v2]) w) (hm : e.ms = [] := by rfl) : RetQ P [r1, r2] (Ret F) .ret e w := ⟨w, by rw [hm]; rfl, [v1, v2], ⟨h1, h2, trivial⟩, _, rfl, h⟩
theorem ret3 {r1 r2 r3 : ResultVar} {F : Value → World → Prop} {v1 v2 v3 : Value} (h1 : Res1 P e w r1 v1) (h2 : Res1 P e w r2 v2) (h3 : Res1 P e w r3 v3) (h : F (.tuple #[v1, v2, v3]) w) (hm : e.ms = [] := by rfl) : RetQ P [r1, r2, r3] (Ret F) .ret e w := ⟨w, by rw [hm]; rfl, [v1, v2, v3], ⟨h1, h2, h3, trivial⟩, _, rfl, h⟩
/-- The same where marks are to be taken first. -/
theorem retM {rs : List ResultVar} {vs : List Value} {F : Value → World → Prop} {w' : World} (hk : Taken P e.ms w w') (h1 : ResL P e w' rs vs) (h : F (one vs) w') : RetQ P rs (Ret F) .ret e w := ⟨w', hk, vs, h1, _, rfl, h⟩
theorem retMn {rs : List ResultVar} {vs : List Value} {F : Value → World → Prop} {w' : World} (hk : Taken P e.ms w w') (h1 : ResL P e w' rs vs) (h : F (one vs) w') : RetQ P rs (Ret F) .normal e w := ⟨w', hk, vs, h1, _, rfl, h⟩

theorem take_all {cs : Array Value} {n : Nat} (hn : cs.size = n) : ((cs.toList.drop 0).take n).toArray = cs := by
  apply Array.ext'
  simp only [List.drop_zero]
  rw [List.take_of_length_le (by simp; omega)]
theorem res_all {a : Tmp} {b n : Nat} {cs : Array Value} {t T : TypeId} {fr : Nat × Nat} [hti : TyI P t n true] (hx : e a = .pointer (some ⟨b, 0, none⟩))
    (hb : w.heap[b]? = some (.cells cs T fr)) (hn : cs.size = n) : Res1 P e w (.cell a t) (.agg cs) := res_cell hx hb (by rw [Nat.zero_add, hn]; exact Nat.ble_self_eq_true n) (take_all hn)
theorem r_loadAll {b n : Nat} {cs : Array Value} {T : TypeId} {fr : Nat × Nat} [hti : TyI P t n true] (hx : ev e x = .pointer (some ⟨b, 0, none⟩))
    (hb : w.heap[b]? = some (.cells cs T fr)) (hn : cs.size = n) (h : K (.agg cs) w) : Run1 P ⟨d, .load t x, ty, pos, af, g⟩ e w K := r_loadN hx hb (by rw [Nat.zero_add, hn]; exact Nat.ble_self_eq_true n) (take_all hn) h
/-! ### the same, by the value's form -/
theorem r_box_agg {cs : Array Value} (hx : ev e x = .agg cs)
    (h : ∀ (b : Nat) (w' : World), w.heap.size ≤ b → w'.heap[b]? = some (.cells cs t (0, 0)) → Grow w w' → K (.pointer (some ⟨b, 0, none⟩)) w') : Run1 P ⟨d, .box t x, ty, pos, af, g⟩ e w K := r_box hx rfl h
theorem r_box_int {k : IntKind} {n : Int} (hx : ev e x = .int k n)
    (h : ∀ (b : Nat) (w' : World), w.heap.size ≤ b → w'.heap[b]? = some (.cells #[.int k n] t (0, 0)) → Grow w w' → K (.pointer (some ⟨b, 0, none⟩)) w') : Run1 P ⟨d, .box t x, ty, pos, af, g⟩ e w K := r_box hx rfl h
theorem r_box_slice {a : Option Addr} {n c : Nat} (hx : ev e x = .slice a n c)
    (h : ∀ (b : Nat) (w' : World), w.heap.size ≤ b → w'.heap[b]? = some (.cells #[.slice a n c] t (0, 0)) → Grow w w' → K (.pointer (some ⟨b, 0, none⟩)) w') : Run1 P ⟨d, .box t x, ty, pos, af, g⟩ e w K := r_box hx rfl h
/-- A whole variable is written. -/
theorem r_storeAll {b n : Nat} {ag : Bool} {cs vs : Array Value} {T : TypeId} [hti : TyI P t n ag] (hx : ev e x = .pointer (some ⟨b, 0, none⟩)) (hy : ev e y = .agg vs)
    (hb : w.heap[b]? = some (.cells cs T (0, 0))) (hn : vs.size = n) (hf : cs.size = n) (h1 : vs.toList.all Value.oneCell' = true)
    (h : ∀ w' : World, w'.heap[b]? = some (.cells vs T (0, 0)) → Upd b w w' → K undef w') : Run1 P ⟨d, .store t x y, ty, pos, af, g⟩ e w K :=
  r_store hx hy rfl hb hn (by rw [Nat.zero_add, hf]; exact Nat.ble_self_eq_true n) h1 (by
    apply Array.ext'
    simp only [splice, Value.cells, List.take_zero, List.nil_append, Nat.zero_add]
    rw [List.drop_eq_nil_of_le (by simp; omega)]
    simp) h
/-- A single cell is written. -/
theorem r_store1 {b o : Nat} {cs cs' : Array Value} {T : TypeId} {v : Value} [hti : TyI P t 1 false] (hx : ev e x = .pointer (some ⟨b, o, none⟩)) (hy : ev e y = v) (hone : v.oneCell' = true)
    (hb : w.heap[b]? = some (.cells cs T (0, 0))) (hf : Nat.ble (o + 1) cs.size = true) (hcs : (cs.toList.set o v).toArray = cs')
    (h : ∀ w' : World, w'.heap[b]? = some (.cells cs' T (0, 0)) → Upd b w w' → K undef w') : Run1 P ⟨d, .store t x y, ty, pos, af, g⟩ e w K := by
  have hc : v.cells = #[v] := by cases v <;> first | rfl | simp [Value.oneCell'] at hone
  refine r_store hx hy hc hb rfl hf (by simp [hone]) ?_ h
  rw [← hcs]
  have hf' := Nat.le_of_ble_eq_true hf
  apply Array.ext'
  simp only [splice, List.size_toArray, List.length_cons, List.length_nil]
  rw [List.set_eq_take_append_cons_drop, if_pos (by simp; omega)]
  simp
theorem fld_run {f off : Nat} (hf : fldS P t f = some off) : ∃ fs fl, P.underlying t = some (.struct fs) ∧ fs[f]? = some fl ∧ fl.offset = off := by
  unfold fldS at hf
  split at hf
  · rename_i fs hu
    split at hf
    · rename_i fl hfl
      split at hf
      · split at hf
        · cases hf
        · exact ⟨fs, fl, hu, hfl, by simpa using hf⟩
      · cases hf
    · cases hf
  · cases hf
/-- The type of a struct's field. -/
def ftS (P : Program) (s : TypeId) (f : Nat) : Option TypeId :=
  match P.underlying s with
  | some (.struct fs) => (fs[f]?).map (·.type)
  | _ => none
class FtI (P : Program) (s : TypeId) (f : Nat) (t : outParam TypeId) : Prop where
  h : ftS P s f = some t
theorem r_field {f off : Nat} {ft : TypeId} {cs : Array Value} {v : Value} [hfi : FldI P t f off] [hft : FtI P t f ft] [hti : TyI P ft 1 false] (hx : ev e x = .agg cs) (hv : cs[off]? = some v) (h : K v w) : Run1 P ⟨d, .field t x f, ty, pos, af, g⟩ e w K := by
  obtain ⟨fs, fl, hu, hfl, ho⟩ := fld_run hfi.h
  have hft := hft.h
  unfold ftS at hft
  rw [hu] at hft
  simp only [hfl, Option.map_some, Option.some.injEq] at hft
  subst hft
  subst ho
  have ht := hti.h
  unfold tyS at ht
  split at ht
  · rename_i i dd hi hu2
    simp only [Option.some.injEq, Prod.mk.injEq] at ht
    have hagg : (isAgg fl.type).run P w = .ok false w := by
      simp only [isAgg, underlying, program, Sem.run_bind, Sem.run, hu2, Result.andThen_ok]
      cases dd <;> first | rfl | simp at ht
    refine run1_ok (w' := w) (v := v) ?_ h
    simp [execOp, Instr.field, underlying, program, Sem.run, hu, hfl, hx, asAgg, part, hagg, hv]
  · cases ht
theorem r_not_t {p : Bool} (hx : ev e x = .bool p) (hp : p = false := by first | rfl | assumption) (h : K (.bool true) w) : Run1 P ⟨d, .unOp .not t x, ty, pos, af, g⟩ e w K := r_not hx (by subst hp; exact h)
theorem r_not_f {p : Bool} (hx : ev e x = .bool p) (hp : p = true := by first | rfl | assumption) (h : K (.bool false) w) : Run1 P ⟨d, .unOp .not t x, ty, pos, af, g⟩ e w K := r_not hx (by subst hp; exact h)
theorem minmax_run {b : Builtin} {xs : Array Operand} {at_ : Array TypeId} {v : Value} (hv : ∀ w : World, (builtin b at_ ty (xs.map fun | .const _ => true | _ => false) (xs.map (ev e))).run P w = .ok (.value v) w) (h : K v w) :
    Run1 P ⟨d, .call ⟨.builtin b, xs, at_⟩, ty, pos, af, g⟩ e w K :=
  run1_ok (w' := w) (v := v) (by simp only [execOp, resolve, invoke, Sem.run_bind, Sem.run_pure, Result.andThen_ok]; exact hv w) h
section
variable {at_ : Array TypeId} {b : Int} {xs : Array Operand}
theorem r_min (hxs : xs = #[x, y]) (hx : ev e x = .int k a) (hy : ev e y = .int k' b) (h : K (.int k (if b < a then b else a)) w) : Run1 P ⟨d, .call ⟨.builtin .min, xs, at_⟩, ty, pos, af, g⟩ e w K := by
  subst hxs
  exact minmax_run (fun w => by
    have := run_min_int2 (P := P) w at_ ty k k' a b
    simp [builtin, hx, hy, this]) h
theorem r_max (hxs : xs = #[x, y]) (hx : ev e x = .int k a) (hy : ev e y = .int k' b) (h : K (.int k (if b > a then b else a)) w) : Run1 P ⟨d, .call ⟨.builtin .max, xs, at_⟩, ty, pos, af, g⟩ e w K := by
  subst hxs
  exact minmax_run (fun w => by
    have := run_max_int2 (P := P) w at_ ty k k' a b
    simp [builtin, hx, hy, this]) h
theorem r_min_l (hxs : xs = #[x, y]) (hx : ev e x = .int k a) (hy : ev e y = .int k' b) (hc : a ≤ b) (h : K (.int k a) w) : Run1 P ⟨d, .call ⟨.builtin .min, xs, at_⟩, ty, pos, af, g⟩ e w K :=
  r_min hxs hx hy (by rw [if_neg (by omega)]; exact h)
theorem r_min_r (hxs : xs = #[x, y]) (hx : ev e x = .int k a) (hy : ev e y = .int k' b) (hc : b ≤ a) (h : K (.int k b) w) : Run1 P ⟨d, .call ⟨.builtin .min, xs, at_⟩, ty, pos, af, g⟩ e w K :=
  r_min hxs hx hy (by
    by_cases hlt : b < a
    · rw [if_pos hlt]; exact h
    · rw [if_neg hlt, show a = b from by omega]; exact h)
theorem r_max_l (hxs : xs = #[x, y]) (hx : ev e x = .int k a) (hy : ev e y = .int k' b) (hc : b ≤ a) (h : K (.int k a) w) : Run1 P ⟨d, .call ⟨.builtin .max, xs, at_⟩, ty, pos, af, g⟩ e w K :=
  r_max hxs hx hy (by rw [if_neg (by omega)]; exact h)
theorem r_max_r (hxs : xs = #[x, y]) (hx : ev e x = .int k a) (hy : ev e y = .int k' b) (hc : a ≤ b) (h : K (.int k b) w) : Run1 P ⟨d, .call ⟨.builtin .max, xs, at_⟩, ty, pos, af, g⟩ e w K :=
  r_max hxs hx hy (by
    by_cases hlt : b > a
    · rw [if_pos hlt]; exact h
    · rw [if_neg hlt, show a = b from by omega]; exact h)
end
end

end Go.Proofs.Ytldlfhodboigeaa.K
