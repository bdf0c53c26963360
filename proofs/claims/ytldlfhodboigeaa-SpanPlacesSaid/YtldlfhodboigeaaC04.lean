/- Spans in memory: worlds that are told to the draw, rows of one's own that are written, what was sorted. Generic in the program. -/
import Derived.Test.YtldlfhodboigeaaA04
import Derived.Test.YtldlfhodboigeaaJ16
import Derived.Shelf.SlSortCmp.InsertionK
set_option linter.unusedVariables false
set_option linter.unusedSimpArgs false
namespace Go.Proofs.Ytldlfhodboigeaa.K
open Go Go.RowKit

/-- Some draws, some blocks more; nothing else. -/
def Exa (w w' : World) : Prop := ∃ q os, w' = Sort.grow (w.drewN q) os
theorem Exa.refl (w : World) : Exa w w := ⟨0, #[], by simp [Sort.grow, World.drewN]⟩
theorem Exa.tr {a b c : World} (h : Exa a b) (k : Exa b c) : Exa a c := by
  obtain ⟨q, os, rfl⟩ := h
  obtain ⟨p, ps, rfl⟩ := k
  exact ⟨q + p, os ++ ps, by simp [Sort.grow, World.drewN, Array.append_assoc, Nat.add_assoc]⟩
theorem Exa.drew (w : World) : Exa w { w with drawn := w.drawn + 1 } := ⟨1, #[], by rw [Sort.grow_empty]; rfl⟩
theorem Exa.alloc (w : World) (o : Obj) : Exa w (w.alloc o) := ⟨0, #[o], by
  show w.alloc o = { w with heap := w.heap ++ #[o] }
  rw [show w.heap ++ #[o] = w.heap.push o from by simp]
  rfl⟩
theorem Exa.grow {w w' : World} (h : Exa w w') : Grow w w' := by
  obtain ⟨q, os, rfl⟩ := h
  refine ⟨rfl, rfl, rfl, by simp [Sort.grow, World.drewN], fun k hk => ?_⟩
  simp only [Sort.grow, World.drewN]
  rw [Array.getElem?_append_left hk]
abbrev exQ : KpQ := ⟨Exa, Exa, Exa.drew, Exa.refl, Exa.tr, id⟩
section
variable {P : Program} {e : Env} {w : World} {K : Value → World → Prop} {d : Option Nat} {ty : TypeId} {pos : String} {af : Array Edge} {g : Option (Nat × Bool)} {t : TypeId} {x y : Operand}
theorem r_boxE {cs : Array Value} (hx : ev e x = .agg cs)
    (h : ∀ (b : Nat) (w' : World), w.heap.size ≤ b → w'.heap[b]? = some (.cells cs t (0, 0)) → Exa w w' → K (.pointer (some ⟨b, 0, none⟩)) w') : Run1 P ⟨d, .box t x, ty, pos, af, g⟩ e w K := by
  refine run1_ok (v := .pointer (some ⟨w.heap.size, 0, none⟩)) (w' := w.alloc (.cells cs t (0, 0))) ?_ (h _ _ (Nat.le_refl _) (heap_alloc_new w _) (Exa.alloc w _))
  simp [execOp, Instr.box, newVar, newRow, newObj, Sem.run, hx, Value.cells]
theorem r_buildSliceE {parts : Array (Nat × Operand)} {n : Nat} {cs : Array Value} {el : TypeId}
    (hv : ∀ w : World, (Instr.buildSlice t n (parts.map fun (i, x) => (i, ev e x))).run P w = .ok (.slice (some ⟨w.heap.size, 0, none⟩) n n) (w.alloc (.cells cs el (0, 0))))
    (h : ∀ (b : Nat) (w' : World), w.heap.size ≤ b → w'.heap[b]? = some (.cells cs el (0, 0)) → Exa w w' → K (.slice (some ⟨b, 0, none⟩) n n) w') : Run1 P ⟨d, .buildSlice t n parts, ty, pos, af, g⟩ e w K :=
  run1_ok (v := .slice (some ⟨w.heap.size, 0, none⟩) n n) (w' := w.alloc (.cells cs el (0, 0))) (by simp only [execOp, Sem.run_bind]; rw [hv w]; rfl) (h _ _ (Nat.le_refl _) (heap_alloc_new w _) (Exa.alloc w _))
/-- clear(s): so many noughts, from a place of one's own row on. -/
theorem r_clear {xs_ : Array Operand} {at_ : Array TypeId} (hxs : xs_ = #[x]) (hat : at_ = #[t]) {el T : TypeId} {sz by_ : Nat} {z : Value} [hz : ElzI P t el sz by_ z] {ad : Option Addr} {b o n c : Nat} {cs : Array Value}
    (hx : ev e x = .slice ad n c) (had : n ≠ 0 → ad = some ⟨b, o, none⟩) (hb : w.heap[b]? = some (.cells cs T (0, 0))) (hf : o + n * sz ≤ cs.size) (hzs : z.cells.size = sz) (h1 : ∀ q ∈ z.cells.toList, q.oneCell' = true)
    (h : ∀ (w' : World) (cs' : Array Value), w'.heap[b]? = some (.cells cs' T (0, 0)) → cs'.size = cs.size → cs'.toList.take o = cs.toList.take o → Upd b w w' → K (.tuple #[]) w') : Run1 P ⟨d, .call ⟨.builtin .clear, xs_, at_⟩, ty, pos, af, g⟩ e w K := by
  subst hxs hat
  obtain ⟨h1t, i, h2, hzz, h3, h4, h5, h6⟩ := elz_of hz.h
  by_cases hn : n = 0
  · subst hn
    refine run1_ok (v := .tuple #[]) (w' := w) ?_ (h w cs hb rfl rfl ⟨rfl, rfl, rfl, rfl, fun _ _ => rfl⟩)
    simp only [execOp, resolve, invoke, Sem.run_bind, Sem.run_pure, Result.andThen_ok]
    cases ad <;> simp [builtin, Builtin.clear_, hx, run_underlying h1t]
  · have := had hn
    subst this
    have hzc : (Builtin.zeroCells z.cells n).size = n * sz := by simp [Builtin.zeroCells, hzs]
    have ho : ∀ q ∈ (Builtin.zeroCells z.cells n).toList, q.oneCell' = true := by
      intro q hq
      simp only [Builtin.zeroCells, Array.toList_map, List.mem_map, Array.mem_toList_iff, Array.mem_range] at hq
      obtain ⟨j, hj, rfl⟩ := hq
      refine h1 _ ?_
      have hpos : 0 < z.cells.size := by
        rcases Nat.eq_zero_or_pos z.cells.size with h0 | h0
        · rw [h0] at hj; omega
        · exact h0
      have hlt := Nat.mod_lt j hpos
      rw [getElem!_pos z.cells _ hlt]
      exact Array.getElem_mem_toList hlt
    have hst := run_storeCells_at P b o T (Builtin.zeroCells z.cells n).toList 0 cs w hb (by rw [Array.length_toList, hzc]; omega) ho
    simp only [Nat.add_zero, Array.length_toList] at hst
    refine run1_ok (v := .tuple #[]) (w' := w.setRow b (cs.toList.take o ++ (Builtin.zeroCells z.cells n).toList ++ cs.toList.drop (o + (Builtin.zeroCells z.cells n).size)).toArray) ?_ (h _ _ (setRow_heap w b cs _ T (0, 0) hb) ?_ ?_ ⟨rfl, rfl, rfl, by simp, fun k hk => ?_⟩)
    · obtain ⟨m, rfl⟩ : ∃ m, n = m + 1 := ⟨n - 1, by omega⟩
      simp only [execOp, resolve, invoke, Sem.run_bind, Sem.run_pure, Result.andThen_ok]
      simp [builtin, Builtin.clear_, hx, run_underlying h1t, zeroValue, typeInfo, program, Sem.run, h2, hzz, hst]
    · simp only [List.size_toArray, List.length_append, List.length_take, Array.length_toList, List.length_drop, hzc]; omega
    · simp only [List.append_assoc]
      rw [List.take_append_of_le_length (by simp; omega), List.take_take, Nat.min_self]
    · simp only [World.setRow, Array.getElem?_modify]
      rw [if_neg (fun h => hk h.symm)]
end
end Go.Proofs.Ytldlfhodboigeaa.K
