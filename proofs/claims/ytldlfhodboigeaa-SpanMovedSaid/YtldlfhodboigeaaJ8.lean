/- The rules of append, make, yield, and of a range over a function. Generic in the program. -/
import Derived.Test.YtldlfhodboigeaaJ7
set_option linter.unusedVariables false
set_option linter.unusedSimpArgs false
namespace Go.Proofs.Ytldlfhodboigeaa.K
open Go Go.RowKit

/-- A slice type's element: its type, its cells, its bytes, its zero. -/
def elzS (P : Program) (t : TypeId) : Option (TypeId × Nat × Nat × Value) :=
  match P.underlying t with
  | some (.slice el) => (match P.info? el with
    | some i => (match i.zero with | some z => if z.cells.size = i.size ∧ 0 < i.size then some (el, i.size, i.bytes, z) else none | none => none)
    | none => none)
  | _ => none
class ElzI (P : Program) (t : TypeId) (el : outParam TypeId) (sz : outParam Nat) (by_ : outParam Nat) (z : outParam Value) : Prop where
  h : elzS P t = some (el, sz, by_, z)
theorem elz_of {P : Program} {t el : TypeId} {sz by_ : Nat} {z : Value} (h : elzS P t = some (el, sz, by_, z)) :
    P.underlying t = some (.slice el) ∧ ∃ i, P.info? el = some i ∧ i.zero = some z ∧ i.size = sz ∧ i.bytes = by_ ∧ z.cells.size = sz ∧ 0 < sz := by
  unfold elzS at h
  split at h
  · rename_i el' hul
    split at h
    · rename_i i hi
      split at h
      · rename_i z' hz
        split at h
        · rename_i hc
          simp only [Option.some.injEq, Prod.mk.injEq] at h
          obtain ⟨rfl, rfl, rfl, rfl⟩ := h
          exact ⟨hul, i, hi, hz, rfl, rfl, hc.1, hc.2⟩
        · cases h
      · cases h
    · cases h
  · cases h
section
variable {P : Program} {ops : Array Oper} {Q : Ex → Env → World → Prop} {e : Env} {w : World} {K : Value → World → Prop} {r : List Oper}
variable {d : Option Nat} {ty : TypeId} {pos : String} {af : Array Edge} {g : Option (Nat × Bool)}
variable {t u : TypeId} {x y : Operand} {k k' : IntKind} {a c : Int}
/-- A row that is one's own, and more behind it. -/
theorem r_append {xs_ : Array Operand} {at_ : Array TypeId} (hxs : xs_ = #[x, y]) (hat : at_ = #[t, t]) {base n m : Nat} {el : TypeId} {sz by_ : Nat} {z v u : Value} {xs ys : List Value} [hz : ElzI P t el sz by_ z] (hx : ev e x = v) (hy : ev e y = u)
    (hown : w.ownsRow base el sz v n xs) (hr : Row w sz u m ys) (h1 : ∀ q ∈ ys, q.oneCell' = true) (hl : n + m ≤ maxLen) (hby : (n + m) * by_ ≤ 140737488355328) (hbase : base ≤ w.heap.size)
    (h : ∀ v' w', w'.ownsRow base el sz v' (n + m) (xs ++ ys) → w.grownBy w' v.ownBlock → K v' w') : Run1 P ⟨d, .call ⟨.builtin .append, xs_, at_⟩, ty, pos, af, g⟩ e w K := by
  subst hxs; subst hat
  obtain ⟨hu, i, hi, hzz, hsz, hbb, hzs, hpos⟩ := elz_of hz.h
  obtain ⟨ad, cp, rfl, hmc, _, hra⟩ := hr
  have go : ∀ v' w', (Builtin.append_ #[t, t] ty #[v, .slice ad m cp]).run P w = .ok v' w' → w'.ownsRow base el sz v' (n + m) (xs ++ ys) → w.grownBy w' v.ownBlock → Run1 P ⟨d, .call ⟨.builtin .append, #[x, y], #[t, t]⟩, ty, pos, af, g⟩ e w K := by
    intro v' w' hrun ho hg
    refine run1_ok (v := v') (w' := w') ?_ (h v' w' ho hg)
    simp only [execOp, resolve, invoke, builtin, Sem.run_bind, Sem.run_pure, Result.andThen_ok, List.map_toArray, List.map_cons, List.map_nil, hx, hy, hrun]
  rcases Nat.eq_zero_or_pos m with hm | hm
  · subst hm
    have hys : ys = [] := List.eq_nil_of_length_eq_zero (by simpa using hra.len)
    subst hys
    cases ad with
    | none =>
      have hrun : (Builtin.append_ #[t, t] ty #[v, .slice none 0 cp]).run P w = .ok v w := by
        rcases hown.2 with ⟨rfl, rfl⟩ | ⟨gg, cap, cur, rfl, _, _, hnc, _⟩
        · simp [Builtin.append_, run_underlying hu, sizeOf, typeInfo, hi, Builtin.lenOf, Builtin.firstCells]
        · simp [Builtin.append_, run_underlying hu, sizeOf, typeInfo, hi, Builtin.lenOf, Builtin.firstCells, hnc, storeCells]
      exact go _ _ hrun (by simpa using hown) ⟨rfl, rfl, rfl, Nat.le_refl _, fun _ _ _ => rfl⟩
    | some ad =>
      obtain ⟨v', w', hrun, ho, hg, _⟩ := run_append_own (P := P) w base t ty el i z sz by_ hu hi hzz hsz hbb hzs hpos v n xs hown ad 0 cp [] (by simp) (fun j u hj => by simp at hj) (by simp) hl hby hbase
      exact go _ _ hrun ho hg
  · obtain ⟨b, o, cs, T, fr, rfl, hb, hrow⟩ := hra.at_ hm
    obtain ⟨v', w', hrun, ho, hg, _⟩ := run_append_own (P := P) w base t ty el i z sz by_ hu hi hzz hsz hbb hzs hpos v n xs hown ⟨b, o, none⟩ m cp ys hra.len (fun j u hj => by
      rw [add_lit, cell_of_row w b (o + j) cs T fr hb]
      exact row_cell hrow hj) h1 hl hby hbase
    exact go _ _ hrun ho hg
/-- A new row of noughts. -/
theorem r_make {base : Nat} {n : Nat} {el : TypeId} {sz by_ : Nat} {z : Value} [hz : ElzI P t el sz by_ z] (hx : ev e x = .int k n) (hy : ev e y = .int k' n) (hby : by_ * n ≤ 281474976710656) (hl : n ≤ maxLen) (hbase : base ≤ w.heap.size)
    (h : ∀ b w', w.heap.size ≤ b → w'.ownsRow base el sz (.slice (some ⟨b, 0, none⟩) n n) n (madeCells z.cells (n * sz)).toList → Grow w w' → K (.slice (some ⟨b, 0, none⟩) n n) w') : Run1 P ⟨d, .makeSlice t x y, ty, pos, af, g⟩ e w K := by
  obtain ⟨hu, i, hi, hzz, hsz, hbb, hzs, hpos⟩ := elz_of hz.h
  obtain ⟨w', hrun, ho, hg⟩ := run_make_full (P := P) w base t el i z sz hu hi hzz hsz k k' n (by rw [hbb]; exact hby) hl hbase
  refine run1_ok (v := .slice (some ⟨w.heap.size, 0, none⟩) n n) (w' := w') ?_ (h _ w' (Nat.le_refl _) ho ⟨hg.os, hg.tape, hg.output, hg.size, fun q hq => hg.block q hq (by simp)⟩)
  simp only [execOp, hx, hy, Sem.run_bind, hrun, Result.andThen_ok, Sem.run_pure]
/-! ### a cut: what comes behind so many parts knows only so much -/
theorem W_cut1 {n : Nat} {c1 c : Code} (M : Env → World → Prop) (h1 : W P n c1 (qthen M Q) e w) (h2 : ∀ e w, M e w → W P n c Q e w) : W P n (.seq c1 c) Q e w :=
  W_seq (W.mono (fun x e w h => by cases x <;> first | exact h2 _ _ h | exact h) h1)
theorem W_cut2 {n : Nat} {c1 c2 c : Code} (M : Env → World → Prop) (h1 : W P n c1 (qthen (W P n c2 (qthen M Q)) Q) e w) (h2 : ∀ e w, M e w → W P n c Q e w) : W P n (.seq c1 (.seq c2 c)) Q e w :=
  W_seq (W.mono (fun x e w h => by cases x <;> first | exact W_cut1 M h h2 | exact h) h1)
theorem W_cut3 {n : Nat} {c1 c2 c3 c : Code} (M : Env → World → Prop) (h1 : W P n c1 (qthen (W P n c2 (qthen (W P n c3 (qthen M Q)) Q)) Q) e w) (h2 : ∀ e w, M e w → W P n c Q e w) : W P n (.seq c1 (.seq c2 (.seq c3 c))) Q e w :=
  W_seq (W.mono (fun x e w h => by cases x <;> first | exact W_cut2 M h h2 | exact h) h1)
theorem W_cut4 {n : Nat} {c1 c2 c3 c4 c : Code} (M : Env → World → Prop) (h1 : W P n c1 (qthen (W P n c2 (qthen (W P n c3 (qthen (W P n c4 (qthen M Q)) Q)) Q)) Q) e w) (h2 : ∀ e w, M e w → W P n c Q e w) : W P n (.seq c1 (.seq c2 (.seq c3 (.seq c4 c)))) Q e w :=
  W_seq (W.mono (fun x e w h => by cases x <;> first | exact W_cut3 M h h2 | exact h) h1)
/-- A loop's yield. -/
theorem r_yield {fv : Operand} {args : Array Operand} {at_ : Array TypeId} {l : Nat} (hx : ev e fv = .func (.yield l) #[] #[]) (h : Yields P l (args.toList.map (ev e)).toArray w K) : Run1 P ⟨d, .call ⟨.value fv, args, at_⟩, ty, pos, af, g⟩ e w K := by
  have ha : (args.toList.map (ev e)).toArray = args.map (ev e) := by apply Array.ext'; simp
  rw [ha] at h
  obtain ⟨rc, hrc, hs, hr⟩ := h
  have hrun : (execOp (ev e) ⟨d, .call ⟨.value fv, args, at_⟩, ty, pos, af, g⟩).run P w = .ok (.round l rc.fn ((rc.params.zip (args.map (ev e))).foldl (fun tmps (t, a) => tmps.setIfInBounds t a) rc.tmps) rc.assign rc.body) w := by
    simp only [execOp, resolve, hx, Deferred.ofValue, Sem.run_bind, Sem.run_pure, Result.andThen_ok, invoke]
    simp [run_yield hrc hs]
  unfold Run1
  rw [hrun]
  exact hr
def setAll : List Nat → List Value → Env → Env
  | p :: ps, a :: as, e => setAll ps as (e.set p a)
  | _, _, e => e
theorem setAll_fold (ro : Option Nat) : ∀ (ps : List Nat) (as : List Value) (T : Array Value), (ps.all fun p => Nat.blt p T.size) = true →
    (⟨fun i => ((ps.zip as).foldl (fun tmps (x : Nat × Value) => tmps.setIfInBounds x.1 x.2) T).getD i undef, [], ro⟩ : Env) = setAll ps as ⟨fun i => T.getD i undef, [], ro⟩
  | [], as, T, _ => by simp [setAll]
  | _ :: _, [], T, _ => by simp [setAll]
  | p :: ps, a :: as, T, h => by
    simp only [List.all_cons, Bool.and_eq_true] at h
    have hp : p < T.size := by simpa [Nat.blt_eq] using h.1
    simp only [List.zip_cons_cons, List.foldl_cons, setAll]
    rw [setAll_fold ro ps as (T.setIfInBounds p a) (by rw [Array.size_setIfInBounds]; exact h.2)]
    congr 1
    refine Env.ext' (fun i => ?_) rfl rfl
    show (T.setIfInBounds p a).getD i undef = Env.set _ p a i
    by_cases hi : i = p
    · subst hi
      rw [set_same]
      simp [Array.getD_eq_getD_getElem?, hp]
    · rw [set_ne _ _ hi]
      simp only [Array.getD_eq_getD_getElem?]
      rw [Array.getElem?_setIfInBounds_ne (by omega)]
/-- A round of a loop whose record is known. -/
theorem yields_of_W {l n : Nat} {rc : Loop} {ps : List Nat} {vs : List Value} {gt : Nat → Value} (hl : w.heap[l]? = some (.loop rc)) (hp : rc.params = ps.toArray) (hlen : vs.length = ps.length) (hn : rc.tmps.size = n) (hle : (ps.all fun p => Nat.blt p n) = true) (he : ∀ i, rc.tmps.getD i undef = gt i)
    (h : W P n rc.assign (qthen (fun e1 w1 => ∃ r, w1.heap[l]? = some (.loop r) ∧ r.state = .ready ∧ W P n rc.body (RoundQ P l K) e1 (w1.putObj l (.loop { r with state := .busy }))) (fun _ _ _ => False)) (setAll ps vs ⟨gt, [], some l⟩) w) : Yields P l vs.toArray w K := by
  refine ⟨rc, hl, by rw [hp]; simpa using hlen, ?_⟩
  have hz : (rc.params.zip vs.toArray).foldl (fun tmps (t, a) => tmps.setIfInBounds t a) rc.tmps = (ps.zip vs).foldl (fun tmps (x : Nat × Value) => tmps.setIfInBounds x.1 x.2) rc.tmps := by
    rw [hp, ← Array.foldl_toList]; simp
  rw [hz]
  have hs : ∀ (l : List (Nat × Value)) (T : Array Value), (l.foldl (fun tmps (x : Nat × Value) => tmps.setIfInBounds x.1 x.2) T).size = T.size := by
    intro l; induction l with
    | nil => intro T; rfl
    | cons a l ih => intro T; rw [List.foldl_cons, ih, Array.size_setIfInBounds]
  refine rounds_of_W (n := n) (by rw [hs, hn]) ?_
  rw [setAll_fold (some l) ps vs rc.tmps (by rw [hn]; exact hle)]
  have : (fun i => rc.tmps.getD i undef) = gt := funext he
  rw [this]
  exact h
theorem upd_put {l : Nat} {o o' : Obj} (h : w.heap[l]? = some o) : Upd l w (w.putObj l o') := ⟨rfl, rfl, rfl, World.putObj_size, fun k hk => World.putObj_heap_other hk⟩
theorem put_same {l : Nat} {o o' : Obj} (h : w.heap[l]? = some o) : (w.putObj l o').heap[l]? = some o' := World.putObj_heap_same (lt_of_heap h)
theorem loop_again {rc : Loop} (h1 : rc.state = .ready) (h2 : rc.pending = none) : ({ ({ rc with state := .busy } : Loop) with state := .ready, pending := none } : Loop) = rc := by
  cases rc; simp only at h1 h2; subst h1; subst h2; rfl
theorem Yields.mono {l : Nat} {args : Array Value} {K K' : Value → World → Prop} (hk : ∀ v w, K v w → K' v w) (h : Yields P l args w K) : Yields P l args w K' := by
  obtain ⟨rc, h1, h2, h3⟩ := h
  exact ⟨rc, h1, h2, h3.mono hk⟩
/-- A range over a closure. -/
theorem W_rangeC {n : Nat} {gop : Operand} {ps : Array Tmp} {assign body : Code} {f : FuncId} {fst cap : Array Value} (hx : ev e gop = .func (.func f) fst cap) (hro : e.ro = none) [hfi : FuncI P f]
    (h : ∀ rc : Loop, rc.state = .ready → rc.pending = none → rc.params = ps → rc.assign = assign → rc.body = body → rc.tmps.size = n → (∀ i, rc.tmps.getD i undef = e i) →
      ∀ l w', l = w.heap.size + 1 → w'.heap[l]? = some (.loop rc) → w'.heap[w.heap.size]? = some (.deferred (some [])) → Grow w w' → w'.heap.size = w.heap.size + 2 →
      Calls P f (fst.toList ++ ([Value.func (.yield l) #[] #[]] ++ cap.toList)).toArray w' (RangeQ l Q ⟨e.get, ⟨.collected w.heap.size, #[]⟩ :: e.ms, none⟩)) :
    W P n (.rangeFunc gop ps assign body) Q e w := by
  obtain ⟨fn, hf, hn⟩ := hfi.h
  simp only [Bool.or_eq_false_iff, beq_eq_false_iff_ne] at hn
  obtain ⟨hn1, hn2⟩ := hn
  have hn3 : ¬ fn.body = none := fun h => by rw [h] at hn2; simp at hn2
  refine W_range (f := f) (d := fun l => ⟨.fn (.func f) cap, fst ++ #[.func (.yield l) #[] #[]]⟩) (args := fun l => fst ++ #[.func (.yield l) #[] #[]] ++ cap) hro (fun l w => ?_) (fun l w => ?_) (fun rc h1 h2 h3 h4 h5 h6 h7 => ?_)
  · have hm : #[Operand.const (Value.func (Fn.yield l) #[] #[])].map (ev e) = #[Value.func (Fn.yield l) #[] #[]] := by simp [ev]
    simp only [resolve, rangeCall, hx, Deferred.ofValue, Sem.run_pure, hm]
  · simp [invoke, callFunc, program, Sem.run, hf, hn1, hn3]
  · have ha : fst ++ #[.func (.yield (w.heap.size + 1)) #[] #[]] ++ cap = (fst.toList ++ ([Value.func (.yield (w.heap.size + 1)) #[] #[]] ++ cap.toList)).toArray := by apply Array.ext'; simp
    rw [ha]
    refine h rc h1 h2 h3 h4 h5 h6 h7 _ _ rfl ?_ ?_ ?_ ?_
    · have := World.alloc_heap_new (w.alloc (.deferred (some []))) (.loop rc)
      rw [World.size_alloc] at this
      exact this
    · rw [Below.heap_alloc _ _ _ (by rw [World.size_alloc]; omega)]
      exact World.alloc_heap_new w _
    · exact Grow.tr (grow_alloc w _) (grow_alloc _ _)
    · rw [World.size_alloc, World.size_alloc]
end
end Go.Proofs.Ytldlfhodboigeaa.K
