/- Plain laws, rules and walks of this claim's functions, laid together. -/
import Derived.Test.YtkkbbhpbcfcplaaGreatX4
import Derived.Shelf.SlSortCmp.InsertionK
import Derived.Shelf.SlSortCmp.NoneTotal
import Derived.WalkKit
import Derived.ProofKit
import Derived.OpenShut
import Derived.ChangeOld
import Derived.Carry
import Derived.SizedLaws
set_option linter.unusedVariables false
set_option linter.unusedSimpArgs false
set_option maxRecDepth 100000
namespace Go.Proofs.YtkkbbhpbcfcplaaGreat.K
open Go Go.RowKit
def Exa (w w' : World) : Prop := ∃ q os, w' = Sort.grow (w.drewN q) os
theorem Exa.refl (w : World) : Exa w w := ⟨0, #[], by simp [Sort.grow, World.drewN]⟩
theorem Exa.tr {a b c : World} (h : Exa a b) (k : Exa b c) : Exa a c := by
  obtain ⟨q, os, rfl⟩ := h
  obtain ⟨p, ps, rfl⟩ := k
  exact ⟨q + p, os ++ ps, by simp [Sort.grow, World.drewN, Array.append_assoc, Nat.add_assoc]⟩
theorem Exa.drew (w : World) : Exa w { w with drawn := w.drawn + 1 } := ⟨1, #[], by rw [Sort.grow_empty]; rfl⟩
theorem Exa.alloc (w : World) (o : Obj) : Exa w (w.alloc o) := ⟨0, #[o], by
  show w.alloc o = { w with heap := w.heap ++ #[o] }
  rw [show w.heap ++ #[o] = w.heap.push o from by simp]
  rfl⟩
theorem Exa.grow {w w' : World} (h : Exa w w') : Grow w w' := by
  obtain ⟨q, os, rfl⟩ := h
  refine ⟨rfl, rfl, rfl, by simp [Sort.grow, World.drewN], fun k hk => ?_⟩
  simp only [Sort.grow, World.drewN]
  rw [Array.getElem?_append_left hk]
abbrev exQ : KpQ := ⟨Exa, Exa, Exa.drew, Exa.refl, Exa.tr, id⟩
section
variable {P : Program} {e : Env} {w : World} {K : Value → World → Prop} {d : Option Nat} {ty : TypeId} {pos : String} {af : Array Edge} {g : Option (Nat × Bool)} {t : TypeId} {x y : Operand}
theorem yU2 {cs : Array Value} (hx : ev e x = .agg cs)
    (h : ∀ (b : Nat) (w' : World), w.heap.size ≤ b → w'.heap[b]? = some (.cells cs t (0, 0)) → Exa w w' → K (.pointer (some ⟨b, 0, none⟩)) w') : Run1 P ⟨d, .box t x, ty, pos, af, g⟩ e w K := by
  refine zE1 (v := .pointer (some ⟨w.heap.size, 0, none⟩)) (w' := w.alloc (.cells cs t (0, 0))) ?_ (h _ _ (Nat.le_refl _) (heap_alloc_new w _) (Exa.alloc w _))
  simp [execOp, Instr.box, newVar, newRow, newObj, Sem.run, hx, Value.cells]
theorem qO2 {parts : Array (Nat × Operand)} {n : Nat} {cs : Array Value} {el : TypeId}
    (hv : ∀ w : World, (Instr.buildSlice t n (parts.map fun (i, x) => (i, ev e x))).run P w = .ok (.slice (some ⟨w.heap.size, 0, none⟩) n n) (w.alloc (.cells cs el (0, 0))))
    (h : ∀ (b : Nat) (w' : World), w.heap.size ≤ b → w'.heap[b]? = some (.cells cs el (0, 0)) → Exa w w' → K (.slice (some ⟨b, 0, none⟩) n n) w') : Run1 P ⟨d, .buildSlice t n parts, ty, pos, af, g⟩ e w K :=
  zE1 (v := .slice (some ⟨w.heap.size, 0, none⟩) n n) (w' := w.alloc (.cells cs el (0, 0))) (by simp only [execOp, Sem.run_bind]; rw [hv w]; rfl) (h _ _ (Nat.le_refl _) (heap_alloc_new w _) (Exa.alloc w _))
theorem yY4 {xs_ : Array Operand} {at_ : Array TypeId} (hxs : xs_ = #[x]) (hat : at_ = #[t]) {el T : TypeId} {sz by_ : Nat} {z : Value} [hz : ElzI P t el sz by_ z] {ad : Option Addr} {b o n c : Nat} {cs : Array Value}
    (hx : ev e x = .slice ad n c) (had : n ≠ 0 → ad = some ⟨b, o, none⟩) (hb : w.heap[b]? = some (.cells cs T (0, 0))) (hf : o + n * sz ≤ cs.size) (hzs : z.cells.size = sz) (h1 : ∀ q ∈ z.cells.toList, q.oneCell' = true)
    (h : ∀ (w' : World) (cs' : Array Value), w'.heap[b]? = some (.cells cs' T (0, 0)) → cs'.size = cs.size → cs'.toList.take o = cs.toList.take o → Upd b w w' → K (.tuple #[]) w') : Run1 P ⟨d, .call ⟨.builtin .clear, xs_, at_⟩, ty, pos, af, g⟩ e w K := by
  subst hxs hat
  obtain ⟨h1t, i, h2, hzz, h3, h4, h5, h6⟩ := qJ9 hz.h
  by_cases hn : n = 0
  · subst hn
    refine zE1 (v := .tuple #[]) (w' := w) ?_ (h w cs hb rfl rfl ⟨rfl, rfl, rfl, rfl, fun _ _ => rfl⟩)
    simp only [execOp, resolve, invoke, Sem.run_bind, Sem.run_pure, Result.andThen_ok]
    cases ad <;> simp [builtin, Builtin.clear_, hx, run_underlying h1t]
  · have := had hn
    subst this
    have hzc : (Builtin.zeroCells z.cells n).size = n * sz := by simp [Builtin.zeroCells, hzs]
    have ho : ∀ q ∈ (Builtin.zeroCells z.cells n).toList, q.oneCell' = true := by
      intro q hq
      simp only [Builtin.zeroCells, Array.toList_map, List.mem_map, Array.mem_toList_iff, Array.mem_range] at hq
      obtain ⟨j, hj, rfl⟩ := hq
      refine h1 _ ?_
      have hpos : 0 < z.cells.size := by
        rcases Nat.eq_zero_or_pos z.cells.size with h0 | h0
        · rw [h0] at hj; omega
        · exact h0
      have hlt := Nat.mod_lt j hpos
      rw [getElem!_pos z.cells _ hlt]
      exact Array.getElem_mem_toList hlt
    have hst := run_storeCells_at P b o T (Builtin.zeroCells z.cells n).toList 0 cs w hb (by rw [Array.length_toList, hzc]; omega) ho
    simp only [Nat.add_zero, Array.length_toList] at hst
    refine zE1 (v := .tuple #[]) (w' := w.setRow b (cs.toList.take o ++ (Builtin.zeroCells z.cells n).toList ++ cs.toList.drop (o + (Builtin.zeroCells z.cells n).size)).toArray) ?_ (h _ _ (setRow_heap w b cs _ T (0, 0) hb) ?_ ?_ ⟨rfl, rfl, rfl, by simp, fun k hk => ?_⟩)
    · obtain ⟨m, rfl⟩ : ∃ m, n = m + 1 := ⟨n - 1, by omega⟩
      simp only [execOp, resolve, invoke, Sem.run_bind, Sem.run_pure, Result.andThen_ok]
      simp [builtin, Builtin.clear_, hx, run_underlying h1t, zeroValue, typeInfo, program, Sem.run, h2, hzz, hst]
    · simp only [List.size_toArray, List.length_append, List.length_take, Array.length_toList, List.length_drop, hzc]; omega
    · simp only [List.append_assoc]
      rw [List.take_append_of_le_length (by simp; omega), List.take_take, Nat.min_self]
    · simp only [World.setRow, Array.getElem?_modify]
      rw [if_neg (fun h => hk h.symm)]
end
def cmpI (a b : Int) : Int := if a < b then -1 else if a > b then 1 else 0
def orS : List Int → Int
  | [] => 0
  | x :: r => if x ≠ 0 then x else orS r
def cfS (x y : Spn) : Int := orS [cmpI x.1 y.1, cmpI x.2 y.2]
theorem jB5 (x y : Spn) : cfS x y < 0 ↔ x.1 < y.1 ∨ (x.1 = y.1 ∧ x.2 < y.2) := by
  unfold cfS orS orS orS cmpI
  by_cases h1 : x.1 < y.1
  · simp [h1]
  · by_cases h2 : x.1 > y.1
    · simp [h1, h2]; omega
    · by_cases h3 : x.2 < y.2
      · simp [h1, h2, h3]; omega
      · by_cases h4 : x.2 > y.2
        · simp [h1, h2, h3, h4]
        · simp [h1, h2, h3, h4]
theorem ltS (x y : Spn) : ltOf cfS x y = decide (x.1 < y.1 ∨ (x.1 = y.1 ∧ x.2 < y.2)) := by
  unfold ltOf
  exact decide_eq_decide.2 (jB5 x y)
theorem swoS : Sort.SWO (ltOf cfS) where
  irrefl x := by rw [ltS]; simp
  trans x y z h1 h2 := by rw [ltS] at *; simp only [decide_eq_true_eq] at *; omega
  ntrans x y z h1 h2 := by rw [ltS] at *; simp only [decide_eq_false_iff_not] at *; omega
theorem yY5 {d d' : Array Spn} (h : Sort.PermIn 0 d.size d d') : d'.toList.Perm d.toList := by
  have h2 := h.2.2
  rw [show d'.extract 0 d.size = d' from by rw [← h.1]; simp, show d.extract 0 d.size = d from by simp] at h2
  exact h2
theorem yY6 {d d' : Array Spn} (hs : d'.size = d.size) (h : Sort.SortedIn (ltOf cfS) 0 d.size d') : d'.toList.Pairwise (fun a b => a.1 ≤ b.1) := by
  rw [List.pairwise_iff_getElem]
  intro i j hi hj hij
  simp only [Array.length_toList] at hi hj
  have := h i j (Nat.zero_le _) hij (by omega)
  rw [getElem!_pos d' j hj, getElem!_pos d' i hi, ltS] at this
  simp only [decide_eq_false_iff_not] at this
  simp only [Array.getElem_toList]
  omega
theorem yB9 (d : Array Spn) : (Sort.flatK encS 2 d).toList = encL d.toList := by
  refine List.ext_getElem? fun t => ?_
  rcases Nat.lt_or_ge t (d.size * 2) with ht | ht
  · have h1 := Sort.get_flatK encS 2 d t ht
    have hs : t < (Sort.flatK encS 2 d).size := by simpa using ht
    have hi : t / 2 < d.size := by omega
    have hc : t % 2 < 2 := by omega
    rw [Array.getElem?_toList, Array.getElem?_eq_getElem hs, ← getElem!_pos _ t hs, h1, getElem!_pos d _ hi]
    have h2 := qF7 (L := d.toList) (i := t / 2) (c := t % 2) (by simpa using hi) hc
    rw [show t / 2 * 2 + t % 2 = t from by omega] at h2
    rw [h2, Array.getElem_toList]
    have h3 : t % 2 < (encS d[t / 2]).length := hc
    rw [List.getElem?_eq_getElem h3, getElem!_pos (encS d[t / 2]) _ h3]
  · rw [List.getElem?_eq_none (by simpa using ht), List.getElem?_eq_none (by rw [zI6]; simpa using ht)]
theorem yG0 {w : World} {b : Nat} {T : TypeId} {cur : Array Value} {d : Array Spn} (hb : w.heap[b]? = some (.cells cur T (0, 0))) (h : cur.toList.take (d.size * 2) = encL d.toList) : Sort.HoldsK encS 2 w b 0 d := by
  intro j hj
  have hj' : j < d.size * 2 := by simpa using hj
  constructor
  · rw [Nat.zero_add, zV0 hb, getElem!_pos _ j hj]
    have h2 : (cur.toList.take (d.size * 2))[j]? = (encL d.toList)[j]? := by rw [h]
    rw [List.getElem?_take, if_pos hj', Array.getElem?_toList] at h2
    rw [h2, ← yB9, Array.getElem?_toList, Array.getElem?_eq_getElem hj]; rfl
  · simp [World.frozen?, hb]
theorem yG1 {w : World} {b n : Nat} {T : TypeId} {cur : Array Value} {d : Array Spn} {os : Array Obj} (hb : w.heap[b]? = some (.cells cur T (0, 0))) (hf : d.size * 2 ≤ cur.size) :
    ∃ cur' : Array Value, (sortWorldK encS 2 w b 0 n d os).heap[b]? = some (.cells cur' T (0, 0)) ∧ cur'.size = cur.size ∧ cur'.toList.take (d.size * 2) = encL d.toList ∧ Kp [b] w (sortWorldK encS 2 w b 0 n d os) := by
  have hlt := zC1 hb
  have hheap : ∀ k, k < w.heap.size → (sortWorldK encS 2 w b 0 n d os).heap[k]? = (w.heap.modify b (Sort.onCells (Sort.putCells id 0 (Sort.flatK encS 2 d))))[k]? := by
    intro k hk
    show ((w.heap.modify b (Sort.onCells (Sort.putCells id 0 (Sort.flatK encS 2 d)))) ++ os)[k]? = _
    rw [Array.getElem?_append_left (by simpa using hk)]
  refine ⟨Sort.putCells id 0 (Sort.flatK encS 2 d) cur, ?_, ?_, ?_, ⟨rfl, rfl, rfl, ?_, ?_⟩⟩
  · rw [hheap b hlt, Array.getElem?_modify, if_pos rfl, hb]; rfl
  · simp [Sort.putCells]
  · rw [← yB9]
    refine List.ext_getElem? fun t => ?_
    rw [List.getElem?_take]
    split
    · rename_i ht
      have hs : t < (Sort.flatK encS 2 d).size := by simpa using ht
      have hc : t < cur.size := by omega
      rw [Array.getElem?_toList, Array.getElem?_toList, Array.getElem?_eq_getElem hs]
      simp only [Sort.putCells, Array.getElem?_mapIdx, Array.getElem?_eq_getElem hc, Option.map_some]
      rw [if_pos ⟨Nat.zero_le _, by omega⟩, Nat.sub_zero, getElem!_pos _ t hs]; rfl
    · rename_i ht
      rw [List.getElem?_eq_none (by simp; omega)]
  · show w.heap.size ≤ ((w.heap.modify b (Sort.onCells (Sort.putCells id 0 (Sort.flatK encS 2 d)))) ++ os).size
    simp
  · intro k hk hne
    rw [hheap k hk, Array.getElem?_modify, if_neg (fun h => hne (by simp [h]))]
theorem qI3 {cs vs : Array Value} {o : Nat} (h : o + vs.size ≤ cs.size) : (zU6 cs o vs).toList.take (o + vs.size) = cs.toList.take o ++ vs.toList := by
  unfold zU6
  simp only []
  rw [List.take_append_of_le_length (by simp; omega), List.take_of_length_le (by simp; omega)]
theorem qY3 {cs vs : Array Value} {o m : Nat} (h : o + vs.size ≤ cs.size) (hm : o + vs.size ≤ m) : (zU6 cs o vs).toList.drop m = cs.toList.drop m := by
  unfold zU6
  simp only [List.drop_append, List.length_append, List.length_take, Array.length_toList, Nat.min_eq_left (show o ≤ cs.size by omega)]
  rw [List.drop_eq_nil_of_le (by simp; omega), List.drop_eq_nil_of_le (by simp; omega), List.nil_append, List.nil_append, List.drop_drop]
  congr 1; omega
abbrev keepS (s : Spn) : Bool := !zU1 s
structure DelSt (L : List Spn) (cap j : Nat) (K : List Spn) (cur : Array Value) : Prop where
  hj : j ≤ L.length
  hK : K = (L.take j).filter keepS
  lt : K.length < j
  sz : cur.size = cap * 2
  cap : L.length ≤ cap
  hd : cur.toList.take (K.length * 2) = encL K
  tl : (cur.toList.drop (j * 2)).take ((L.length - j) * 2) = encL (L.drop j)
theorem DelSt.load {L K : List Spn} {cap j : Nat} {cur : Array Value} (h : DelSt L cap j K cur) (hj : j < L.length) : ((cur.toList.take (L.length * 2)).drop (j * 2)).take 2 = [.int .i64 (gS L j).1, .int .i64 (gS L j).2] := by
  have h1 : ((cur.toList.drop (j * 2)).take ((L.length - j) * 2)).take 2 = (encL (L.drop j)).take 2 := by rw [h.tl]
  rw [List.take_take, Nat.min_eq_left (by omega), List.drop_eq_getElem_cons hj] at h1
  rw [List.drop_take, List.take_take, Nat.min_eq_left (by omega), h1, zO1 hj]
  rfl
theorem DelSt.tail {L K : List Spn} {cap j : Nat} {cur : Array Value} (h : DelSt L cap j K cur) (hj : j < L.length) : (cur.toList.drop ((j + 1) * 2)).take ((L.length - (j + 1)) * 2) = encL (L.drop (j + 1)) := by
  have h1 : ((cur.toList.drop (j * 2)).take ((L.length - j) * 2)).drop 2 = (encL (L.drop j)).drop 2 := by rw [h.tl]
  rw [List.drop_eq_getElem_cons hj, List.drop_take, List.drop_drop] at h1
  rw [show (j + 1) * 2 = j * 2 + 2 from by omega, show (L.length - (j + 1)) * 2 = (L.length - j) * 2 - 2 from by omega, h1]
  rfl
theorem zZ5 {L : List Spn} {j : Nat} (hj : j < L.length) : (L.take (j + 1)).filter keepS = (L.take j).filter keepS ++ (if keepS (gS L j) then [gS L j] else []) := by
  rw [List.take_succ_eq_append_getElem hj, List.filter_append, zO1 hj]
  simp [List.filter_cons]
theorem DelSt.skip {L K : List Spn} {cap j : Nat} {cur : Array Value} (h : DelSt L cap j K cur) (hj : j < L.length) (hn : zU1 (gS L j) = true) : DelSt L cap (j + 1) K cur :=
  ⟨hj, by rw [zZ5 hj, keepS, hn, h.hK]; simp, by have := h.lt; omega, h.sz, h.cap, h.hd, h.tail hj⟩
theorem DelSt.put {L K : List Spn} {cap j : Nat} {cur : Array Value} (h : DelSt L cap j K cur) (hj : j < L.length) (hn : zU1 (gS L j) = false) : DelSt L cap (j + 1) (K ++ [gS L j]) (zU6 cur (0 + K.length * 2) #[.int .i64 (gS L j).1, .int .i64 (gS L j).2]) := by
  have h1 := h.lt; have h2 := h.sz; have h3 := h.cap
  have hs : 0 + K.length * 2 + (#[Value.int .i64 (gS L j).1, .int .i64 (gS L j).2] : Array Value).size ≤ cur.size := by simp only [List.size_toArray, List.length_cons, List.length_nil]; omega
  refine ⟨hj, by rw [zZ5 hj, keepS, hn, h.hK]; simp, by simp; omega, by rw [qG4 hs]; exact h.sz, h.cap, ?_, ?_⟩
  · have h4 := qI3 hs
    simp only [List.size_toArray, List.length_cons, List.length_nil] at h4
    rw [List.length_append, List.length_singleton, show (K.length + 1) * 2 = 0 + K.length * 2 + (0 + 1 + 1) from by omega, h4, Nat.zero_add, h.hd, zK6]
    simp [encL, encS]
  · rw [qY3 hs (by simp only [List.size_toArray, List.length_cons, List.length_nil]; omega)]
    exact h.tail hj
theorem DelSt.start {L : List Spn} {cap i : Nat} {cur : Array Value} (hs : cur.size = cap * 2) (hc : L.length ≤ cap) (hx : cur.toList.take (L.length * 2) = encL L) (hi : i < L.length) (hn : zU1 (gS L i) = true) (hno : ∀ j, j < i → zU1 (gS L j) = false) : DelSt L cap (i + 1) (L.take i) cur := by
  have hf : (L.take i).filter keepS = L.take i := by
    refine List.filter_eq_self.2 fun s hs => ?_
    obtain ⟨j, hj, rfl⟩ := List.getElem_of_mem hs
    simp only [List.length_take] at hj
    have := hno j (by omega)
    rw [zO1 (show j < L.length by omega)] at this
    simp [keepS, this]
  refine ⟨hi, by rw [zZ5 hi, keepS, hn, hf]; simp, by simp; omega, hs, hc, ?_, ?_⟩
  · have : (cur.toList.take (L.length * 2)).take ((L.take i).length * 2) = (encL L).take ((L.take i).length * 2) := by rw [hx]
    rw [List.take_take, Nat.min_eq_left (by simp; omega)] at this
    rw [this]
    conv => lhs; rw [← List.take_append_drop i L, zK6, List.take_append_of_le_length (by rw [zI6, List.take_append_drop]; omega)]
    rw [List.take_of_length_le (by rw [zI6, List.take_append_drop]; omega)]
  · have : (cur.toList.take (L.length * 2)).drop ((i + 1) * 2) = (encL L).drop ((i + 1) * 2) := by rw [hx]
    rw [List.drop_take] at this
    rw [show (L.length - (i + 1)) * 2 = L.length * 2 - (i + 1) * 2 from by omega, this]
    conv => lhs; rw [← List.take_append_drop (i + 1) L, zK6, List.drop_append, List.drop_eq_nil_of_le (by rw [zI6]; simp; omega), zI6]
    rw [List.length_take, Nat.min_eq_left (by omega), Nat.sub_self]; rfl
theorem DelSt.row {w : World} {g : Nat} {T : TypeId} {L K : List Spn} {cap j : Nat} {cur : Array Value} (h : DelSt L cap j K cur) (hb : w.heap[g]? = some (.cells cur T (0, 0))) (hl : L.length ≤ 140737488355328) : RowAt w 2 (some ⟨g, 0, none⟩) L.length (cur.toList.take (L.length * 2)) := by
  have h1 := h.sz; have h2 := h.cap
  exact ⟨by simp; omega, hl, fun _ => ⟨g, 0, cur, T, (0, 0), rfl, hb, by simp⟩⟩
theorem yS7 (p : Nat → Bool) (n : Nat) : (zR7 p n 0 = -1 ∧ ∀ j, j < n → p j = false) ∨ ∃ i : Nat, i < n ∧ zR7 p n 0 = i ∧ p i = true ∧ ∀ j, j < i → p j = false := by
  have key : ∀ (m i : Nat), (zR7 p m i = -1 ∧ ∀ j, i ≤ j → j < i + m → p j = false) ∨ ∃ k : Nat, i ≤ k ∧ k < i + m ∧ zR7 p m i = k ∧ p k = true ∧ ∀ j, i ≤ j → j < k → p j = false := by
    intro m
    induction m with
    | zero => intro i; exact .inl ⟨rfl, fun j _ _ => by omega⟩
    | succ m ih =>
      intro i
      cases hp : p i with
      | true => exact .inr ⟨i, Nat.le_refl _, by omega, by simp [zR7, hp], hp, fun j _ _ => by omega⟩
      | false =>
        rcases ih (i + 1) with ⟨h1, h2⟩ | ⟨k, h1, h2, h3, h4, h5⟩
        · refine .inl ⟨by simp [zR7, hp, h1], fun j h3 h4 => ?_⟩
          rcases Nat.eq_or_lt_of_le h3 with rfl | h3
          · exact hp
          · exact h2 j h3 (by omega)
        · refine .inr ⟨k, by omega, by omega, by simp [zR7, hp, h3], h4, fun j h6 h7 => ?_⟩
          rcases Nat.eq_or_lt_of_le h6 with rfl | h6
          · exact hp
          · exact h5 j h6 h7
  rcases key n 0 with ⟨h1, h2⟩ | ⟨k, -, h2, h3, h4, h5⟩
  · exact .inl ⟨h1, fun j hj => h2 j (Nat.zero_le _) (by omega)⟩
  · exact .inr ⟨k, by omega, h3, h4, fun j hj => h5 j (Nat.zero_le _) hj⟩
/-! ### the row that Norm makes: its last span stands at its list's head -/
abbrev hdS (O : List Spn) : Spn := O.headD (0, 0)
theorem yC0 {O : List Spn} (h : 0 < O.length) (c : Nat) (hc : c < 2) : (encL O.reverse)[((O.length : Int) - 1).toNat * 2 + c]? = (encS (hdS O))[c]? := by
  cases O with
  | nil => simp at h
  | cons s r =>
    have := qF7 (L := (s :: r).reverse) (i := r.length) (c := c) (by simp) hc
    rw [show (((s :: r).length : Int) - 1).toNat = r.length from by simp, this]
    congr 2
    simp
theorem yN6 {O : List Spn} {s : Spn} (h : ¬ (0 < O.length ∧ s.1 ≤ (hdS O).2)) : zO0 O s = s :: O := by
  cases O with
  | nil => rfl
  | cons t r => exact if_neg (fun h2 => h ⟨by simp, h2⟩)
theorem yC1 {O : List Spn} {s : Spn} (h : 0 < O.length) (h2 : s.1 ≤ (hdS O).2) : zO0 O s = ((hdS O).1, max (hdS O).2 s.2) :: O.tail := by
  cases O with
  | nil => simp at h
  | cons t r => exact if_pos h2
theorem yS8 {O : List Spn} {s : Spn} : (zO0 O s).length ≤ O.length + 1 := by
  cases O with
  | nil => simp [zO0]
  | cons t r => show (if s.1 ≤ t.2 then _ else _ : List Spn).length ≤ _; split <;> simp
theorem yS9 {w w' : World} {base g c : Nat} {T : TypeId} {O : List Spn} {x : Int} {cur : Array Value} (h : w.ownsRow base T 2 (.slice (some ⟨g, 0, none⟩) O.length c) O.length (encL O.reverse)) (hn : 0 < O.length) (hb : w.heap[g]? = some (.cells cur T (0, 0)))
    (hb' : w'.heap[g]? = some (.cells (zU6 cur (0 + ((O.length : Int) - 1).toNat * 2 + 1) #[.int .i64 x]) T (0, 0))) : w'.ownsRow base T 2 (.slice (some ⟨g, 0, none⟩) O.length c) O.length (encL (((hdS O).1, x) :: O.tail).reverse) := by
  cases O with
  | nil => simp at hn
  | cons t r =>
    rcases h.2 with ⟨h0, _⟩ | ⟨q, cap, cur0, hv, hq, hg, h3, h4, h5, h6⟩
    · cases h0
    · simp only [Value.slice.injEq, Option.some.injEq, Addr.mk.injEq, and_true, true_and] at hv
      obtain ⟨rfl, rfl⟩ := hv
      rw [hb] at hg
      simp only [Option.some.injEq, Obj.cells.injEq, and_true] at hg
      subst hg
      have ho : 0 + (((t :: r).length : Int) - 1).toNat * 2 + 1 = r.length * 2 + 1 := by simp
      rw [ho] at hb'
      simp only [List.length_cons] at h3 h6
      have hs : r.length * 2 + 1 + (#[Value.int .i64 x] : Array Value).size ≤ cur.size := by simp only [List.size_toArray, List.length_cons, List.length_nil]; omega
      refine ⟨by rw [zI6]; simp, .inr ⟨g, c, _, rfl, hq, hb', h3, h4, by rw [qG4 hs]; exact h5, ?_⟩⟩
      have h7 := qI3 hs
      simp only [List.size_toArray, List.length_cons, List.length_nil] at h7
      rw [List.length_cons, show (r.length + 1) * 2 = r.length * 2 + 1 + (0 + 1) from by omega, h7]
      have h8 : (cur.toList.take ((r.length + 1) * 2)).take (r.length * 2 + 1) = (encL (t :: r).reverse).take (r.length * 2 + 1) := by rw [h6]
      rw [List.take_take, Nat.min_eq_left (by omega)] at h8
      rw [h8, List.reverse_cons, zK6, List.reverse_cons, zK6, List.take_append, zI6, List.take_of_length_le (by rw [zI6]; simp)]
      simp [encL, encS]
theorem yT0 {w : World} {base : Nat} {T : TypeId} {v : Value} {O : List Spn} {s : Spn} (h : w.ownsRow base T 2 v (O.length + 1) (encL O.reverse ++ [.int .i64 s.1, .int .i64 s.2])) : w.ownsRow base T 2 v (s :: O).length (encL (s :: O).reverse) := by
  rw [List.reverse_cons, zK6]
  exact h
theorem qD4 {M : List Spn} {k : Nat} (h : k < M.length) : (M.take (k + 1)).foldl zO0 [] = zO0 ((M.take k).foldl zO0 []) (gS M k) := by
  rw [List.take_succ_eq_append_getElem h, List.foldl_append, zO1 h]; rfl
abbrev normO (M : List Spn) (k : Nat) : List Spn := (M.take k).foldl zO0 []
theorem qI4 : ∀ (M O : List Spn), (M.foldl zO0 O).length ≤ O.length + M.length
  | [], O => by simp
  | s :: M, O => by
    have h1 := qI4 M (zO0 O s)
    have h2 := yS8 (O := O) (s := s)
    simp only [List.foldl_cons, List.length_cons]
    omega
end Go.Proofs.YtkkbbhpbcfcplaaGreat.K
namespace Go.Proofs.YtkkbbhpbcfcplaaGreat.K
open Go Go.RowKit Go.Proofs
attribute [local irreducible] Run1 OpG WL W AO zB6
theorem qL6 (w : World) (a b : Int) : zB6 Tryz.prog 59 #[.agg #[.int .i64 a, .int .i64 b]] w (.bool (zU1 (a, b))) := by
 have G := Grow.rfl' w
 refine zA8 Tryz.func59 Tryz.ntmps59 Tryz.results59 rfl rfl ?_
 refine qZ 2 ?_
 refine stp ?_
 refine qC ?_
 intro b1 w2 hb3 hc4 g5
 have hge6 := Nat.le_trans G.size hb3
 replace G := G.tr g5
 clear g5 hb3
 refine qZ 8 ?_
 refine stp (zU7 rfl rfl ?_)
 refine qZ 3 ?_
 refine ret1 (zA1 (v := .bool (decide (b ≤ a))) rfl) ⟨?_, G⟩
 rfl
theorem qI5 (w : World) (a : Int) : Calls Tryz.prog 97 #[.int .i64 a] w (Ret fun v w' => v = .bool false ∧ w' = w) := by
 refine zC2 Tryz.func97 Tryz.ntmps97 Tryz.results97 rfl rfl ?_
 refine qZ 8 ?_
 refine stp (yH7 rfl rfl (by simp) ?_)
 refine qZ 3 ?_
 refine ret1 (zA1 (v := .bool false) rfl) ⟨rfl, rfl⟩
theorem qC2 (w : World) (a b : Int) : Calls Tryz.prog 63 #[.int .i64 a, .int .i64 b] w (Ret fun v w' => v = .int .i64 (cmpI a b) ∧ w' = w) := by
 refine zC2 Tryz.func63 Tryz.ntmps63 Tryz.results63 rfl rfl ?_
 refine qZ 7 ?_
 refine stp ?_
 refine zD7 rfl (qI5 _ _) ?_
 rintro _ _ ⟨rfl, rfl⟩
 refine qZ 5 ?_
 refine stp ?_
 refine zD7 rfl (qI5 _ _) ?_
 rintro _ _ ⟨rfl, rfl⟩
 refine qZ 7 ?_
 refine zN5 rfl ?_
 refine qZ 6 ?_
 refine zN5 rfl ?_
 refine qZ 6 ?_
 refine stp (zF6 rfl rfl ?_)
 refine zA6 ?_
 refine zA2 (b := (decide (a < b))) rfl (fun h1 => ?_) (fun h1 => ?_)
 ·
  replace h1 := qT h1
  refine qZ 5 ?_
  refine ret1 (zA1 (v := .int .i64 (-1)) rfl) ⟨?_, rfl⟩
  unfold cmpI; (try simp only [gt_iff_lt] at *); simp [*]
 ·
  replace h1 := qF h1
  refine qZ 6 ?_
  refine stp (zN7 rfl rfl ?_)
  refine zA6 ?_
  refine zA2 (b := (decide (a > b))) rfl (fun h2 => ?_) (fun h2 => ?_)
  ·
   replace h2 := qT h2
   refine qZ 5 ?_
   refine ret1 (zA1 (v := .int .i64 1) rfl) ⟨?_, rfl⟩
   unfold cmpI; (try simp only [gt_iff_lt] at *); simp [*]
  ·
   replace h2 := qF h2
   refine qZ 6 ?_
   refine ret1 (zA1 (v := .int .i64 0) rfl) ⟨?_, rfl⟩
   unfold cmpI; (try simp only [gt_iff_lt] at *); simp [*]
theorem yT1 (w : World) {ad : Option Addr} {n c : Nat} {xs : List Int} (R : RowAt w 1 ad n (xs.map (.int .i64))) : Calls Tryz.prog 62 #[.slice ad n c] w (Ret fun v w' => v = .int .i64 (orS xs) ∧ w' = w) := by
 have ln := R.len
 have lm := R.lim
 simp only [List.length_map, Nat.mul_one] at ln
 refine zC2 Tryz.func62 Tryz.ntmps62 Tryz.results62 rfl rfl ?_
 refine qZ 16 ?_
 have hw : w = w := rfl
 refine zF5 (fun m_ e_ w_ => ∃ (k : Nat), m_ = n - k ∧ Fr [(3, .int .i64 0), (6, .slice ad n c), (7, .int .i64 (n : Int)), (8, .int .i64 (k : Int))] e_ ∧ (k ≤ n) ∧ (orS xs = orS (xs.drop k)) ∧ (RowAt w_ 1 ad n (xs.map (.int .i64))) ∧ (w_ = w)) _ ⟨0, rfl, zC6 ⟨rfl, rfl, rfl, rfl, trivial⟩, by omega, by simp, R, hw⟩ ?_
 clear R hw
 rintro m_ e_ w1 ⟨k, rfl, ⟨e2, rfl⟩, hk, hor, R, hw⟩
 refine qZ 2 ?_
 refine stp (zF6 rfl rfl ?_)
 refine qZ 2 ?_
 refine zA2 (b := (decide ((k : Int) < (n : Int)))) rfl (fun hlt => ?_) (fun hlt => ?_)
 ·
  replace hlt := qT hlt
  refine qZ 5 ?_
  refine stp (zC8 R rfl rfl ?_ ?_); omega
  refine stp (zC5 (v := .int .i64 (xs.getD k 0)) (m := 0) R rfl (zE6 0 (by omega)) ?_)
  refine qZ 6 ?_
  refine stp (zG9 rfl rfl ?_)
  refine zA6 ?_
  refine zA2 (b := (decide ((xs.getD k 0) ≠ 0))) rfl (fun hx => ?_) (fun hx => ?_)
  ·
   replace hx := qT hx
   refine qZ 6 ?_
   refine ret1 (zA1 (v := .int .i64 (xs.getD k 0)) rfl) ⟨?_, hw⟩
   rw [hor, List.drop_eq_getElem_cons (show k < xs.length by omega), orS, if_pos (by rw [List.getD_eq_getElem?_getD, List.getElem?_eq_getElem (by omega)] at hx; exact hx)]
   simp [List.getD_eq_getElem?_getD, List.getElem?_eq_getElem (show k < xs.length by omega)]
  ·
   replace hx := qF hx
   refine qZ 2 ?_
   refine stp (zB5 rfl rfl ?_ ?_); constructor <;> omega
   refine qZ 2 ?_
   refine ⟨_, ?_, k + 1, rfl, zC6 ⟨rfl, rfl, rfl, rfl, trivial⟩, by omega, by rw [hor, List.drop_eq_getElem_cons (show k < xs.length by omega), orS, if_neg (by rw [List.getD_eq_getElem?_getD, List.getElem?_eq_getElem (by omega)] at hx; exact hx)], R, hw⟩
   omega
 ·
  replace hlt := qF hlt
  have hk2 : xs.drop k = [] := by rw [List.drop_eq_nil_iff]; omega
  refine qZ 7 ?_
  refine ret1 (zA1 (v := .int .i64 0) rfl) ⟨?_, hw⟩
  rw [hor, hk2]; rfl
theorem qT3 (w : World) {ad : Option Addr} {c n fid : Nat} {fst cap : Array Value} {kc : List Value} [FuncI Tryz.prog fid] (R : RowAt w 2 ad n kc) (p : Nat → Bool) (hf : ∀ i, i < n → ∀ w', Grow w w' → zB6 Tryz.prog fid (fst.toList ++ ([Value.agg ((kc.drop (i * 2)).take 2).toArray] ++ cap.toList)).toArray w' (.bool (p i))) : zB6 Tryz.prog 94 #[.slice ad n c, .func (.func fid) fst cap] w (.int .i64 (zR7 p n 0)) := by
 have ln := R.lim
 have G := Grow.rfl' w
 refine zA8 Tryz.func94 Tryz.ntmps94 Tryz.results94 rfl rfl ?_
 refine qZ 12 ?_
 refine zF5 (fun m_ e_ w_ => ∃ (k : Nat), m_ = n - k ∧ Fr [(0, .slice ad n c), (1, .func (.func fid) fst cap), (7, .int .i64 (n : Int)), (8, .int .i64 (k : Int))] e_ ∧ (k ≤ n) ∧ (∀ j, j < k → p j = false) ∧ Grow w w_) _ ⟨0, rfl, zC6 ⟨rfl, rfl, rfl, rfl, trivial⟩, by omega, fun j hj => by omega, G⟩ ?_
 clear G
 rintro m_ e_ w1 ⟨k, rfl, ⟨e2, rfl⟩, hk, hno, G⟩
 refine qZ 2 ?_
 refine stp (zF6 rfl rfl ?_)
 refine qZ 2 ?_
 refine zA2 (b := (decide ((k : Int) < (n : Int)))) rfl (fun hlt => ?_) (fun hlt => ?_)
 ·
  replace hlt := qT hlt
  refine qZ 13 ?_
  refine stp (zC8 (R.grow G) rfl rfl ?_ ?_); omega
  refine stp (zL5 (R.grow G) rfl (by decide) (by rw [R.len]; omega) rfl ?_)
  refine stp (zA4 (v := .bool (p k)) rfl (hf k (by omega) _ G) ?_)
  intro w3 g4
  replace G := G.tr g4
  clear g4
  refine zA6 ?_
  refine zA2 (b := (p k)) rfl (fun hpk => ?_) (fun hpk => ?_)
  ·
   refine qZ 6 ?_
   refine ret1 (zA1 (v := .int .i64 (k : Int)) rfl) ⟨?_, G⟩
   rw [qC8 n 0 k (by omega) (by omega) hpk (fun j _ hj => hno j hj)]
  ·
   refine qZ 2 ?_
   refine stp (zB5 rfl rfl ?_ ?_); constructor <;> omega
   refine qZ 2 ?_
   refine ⟨_, ?_, k + 1, rfl, zC6 ⟨rfl, rfl, rfl, rfl, trivial⟩, by omega, fun j hj => by rcases Nat.lt_succ_iff_lt_or_eq.1 hj with h | h; exact hno j h; subst h; exact hpk, G⟩
   omega
 ·
  replace hlt := qF hlt
  have hk2 : k = n := by omega
  subst hk2
  refine qZ 6 ?_
  refine ret1 (zA1 (v := .int .i64 (-1)) rfl) ⟨?_, G⟩
  rw [qC7 _ _ (fun j _ hj => hno j (by omega))]
theorem qY4 (w : World) (a b c d : Int) : Calls Tryz.prog 61 #[.agg #[.int .i64 a, .int .i64 b], .agg #[.int .i64 c, .int .i64 d]] w (Ret fun v w' => v = .int .i64 (cfS (a, b) (c, d)) ∧ Exa w w') := by
 refine zC2 Tryz.func61 Tryz.ntmps61 Tryz.results61 rfl rfl ?_
 have X := Exa.refl w
 refine qZ 2 ?_
 refine stp (yU2 rfl ?_)
 intro b1 wb1 hge1 hb1 gb1
 replace X := X.tr gb1
 refine stp (yU2 rfl ?_)
 intro b2 wb2 hge2 hb2 gb2
 replace X := X.tr gb2
 replace hb1 := gb2.grow.heap hb1
 refine qZ 3 ?_
 have kb_hb1 : ∀ w_, exQ.r wb2 w_ → w_.heap[b1]? = some (.cells #[.int .i64 a, .int .i64 b] 61 (0, 0)) := fun w_ k_ => (Exa.grow k_).heap hb1
 have kb_hb2 : ∀ w_, exQ.r wb2 w_ → w_.heap[b2]? = some (.cells #[.int .i64 c, .int .i64 d] 61 (0, 0)) := fun w_ k_ => (Exa.grow k_).heap hb2
 refine jB4 10 [[], [0], [], [0], [3, 2, 1, 0], [], [0], [], [0], [8, 7, 6, 5, 4, 3, 2, 1, 0]] [] exQ (fun k_ w_ => match k_ with | _ => True) mixed (by kernel_rfl) (by kernel_rfl) (by kernel_rfl) (by kernel_rfl) (fun _ _ _ _ _ => trivial) (fun _ _ => trivial) ?_
 intro w1 g2
 replace kb_hb1 : ∀ w_, exQ.r w1 w_ → w_.heap[b1]? = some (.cells #[.int .i64 a, .int .i64 b] 61 (0, 0)) := fun w_ k_ => kb_hb1 w_ (exQ.tr (exQ.grow g2) k_)
 replace kb_hb2 : ∀ w_, exQ.r w1 w_ → w_.heap[b2]? = some (.cells #[.int .i64 c, .int .i64 d] 61 (0, 0)) := fun w_ k_ => kb_hb2 w_ (exQ.tr (exQ.grow g2) k_)
 have k0_ : exQ.r wb2 w1 := (exQ.grow g2)
 apply zY0 (hm := by rfl)
 ·intro w_ g_; refine og rfl ?_; refine zD4 rfl ?_; exact ⟨Exa.refl _, rfl⟩
 apply zY0 (hm := by rfl)
 ·intro w_ g_; refine og rfl ?_; refine zG7 (v := .int .i64 a) rfl (kb_hb1 _ g_) rfl ?_; exact ⟨Exa.refl _, rfl⟩
 apply zY0 (hm := by rfl)
 ·intro w_ g_; refine og rfl ?_; refine zD4 rfl ?_; exact ⟨Exa.refl _, rfl⟩
 apply zY0 (hm := by rfl)
 ·intro w_ g_; refine og rfl ?_; refine zG7 (v := .int .i64 c) rfl (kb_hb2 _ g_) rfl ?_; exact ⟨Exa.refl _, rfl⟩
 apply zY0 (hm := by rfl)
 ·intro w_ g_; refine og rfl ?_; refine zD7 rfl (qC2 _ _ _) ?_; rintro _ _ ⟨rfl, rfl⟩; exact ⟨Exa.refl _, rfl⟩
 apply zY0 (hm := by rfl)
 ·intro w_ g_; refine og rfl ?_; refine zD4 rfl ?_; exact ⟨Exa.refl _, rfl⟩
 apply zY0 (hm := by rfl)
 ·intro w_ g_; refine og rfl ?_; refine zG7 (v := .int .i64 b) rfl (kb_hb1 _ g_) rfl ?_; exact ⟨Exa.refl _, rfl⟩
 apply zY0 (hm := by rfl)
 ·intro w_ g_; refine og rfl ?_; refine zD4 rfl ?_; exact ⟨Exa.refl _, rfl⟩
 apply zY0 (hm := by rfl)
 ·intro w_ g_; refine og rfl ?_; refine zG7 (v := .int .i64 d) rfl (kb_hb2 _ g_) rfl ?_; exact ⟨Exa.refl _, rfl⟩
 apply zY0 (hm := by rfl)
 ·intro w_ g_; refine og rfl ?_; refine zD7 rfl (qC2 _ _ _) ?_; rintro _ _ ⟨rfl, rfl⟩; exact ⟨Exa.refl _, rfl⟩
 refine yY1 ?_
 intro w3 g4 S_
 replace k0_ := (exQ.tr k0_ g4)
 replace X := X.tr k0_
 replace hb1 := kb_hb1 _ g4
 clear kb_hb1
 replace hb2 := kb_hb2 _ g4
 clear kb_hb2
 refine stp (qO2 (cs := #[.int .i64 (cmpI a c), .int .i64 (cmpI b d)]) (el := 3) (fun w => by kernel_rfl) ?_)
 intro b3 wb3 hge3 hb3 gb3
 replace X := X.tr gb3
 refine stp ?_
 refine zD7 rfl (yT1 _ (xs := [cmpI a c, cmpI b d]) ?_) ?_
 ·obtain ⟨ad_, c_, he_, -, -, R_⟩ := Row.of_block (sz := 1) (n := 2) hb3 rfl rfl (by omega)
  simp only [Value.slice.injEq] at he_
  obtain ⟨rfl, -, rfl⟩ := he_
  exact R_
 rintro _ _ ⟨rfl, rfl⟩
 refine qZ 3 ?_
 refine ret1 (zA1 (v := .int .i64 (orS [cmpI a c, cmpI b d])) rfl) ⟨rfl, X⟩
end Go.Proofs.YtkkbbhpbcfcplaaGreat.K
namespace Go.Proofs.YtkkbbhpbcfcplaaGreat.K
open Go Go.RowKit Go.Proofs Go.Shelf
attribute [local irreducible] Run1 OpG WL W AO zB6
def yN7 : Go.Shelf.Ren := ⟨fun | 6 => 60 | 15 => 96 | 14 => 95 | 28 => 128 | 29 => 129 | 20 => 120 | 21 => 121 | 22 => 122 | 23 => 123 | 24 => 124 | 25 => 125 | 26 => 126 | 27 => 127 | 46 => 152 | 47 => 153 | 48 => 154 | 49 => 155 | 50 => 156 | 57 => 162 | n => n, fun | 22 => 32 | 24 => 61 | 25 => 128 | 3 => 3 | 39 => 96 | 0 => 0 | 53 => 194 | 55 => 23 | 4 => 4 | 46 => 188 | 45 => 187 | 50 => 151 | 5 => 5 | 9 => 9 | 66 => 208 | 70 => 212 | 76 => 223 | 77 => 167 | n => n, fun | n => n⟩
theorem jB6 : Go.Proofs.SlLaysF0.n6 Tryz.prog yN7 := {
  mixed := by kernel_rfl
  f6 := ⟨Tryz.f60.name, by decide, Tryz.func60.trans (congrArg some (by kernel_rfl))⟩
  f14 := ⟨Tryz.f95.name, by decide, Tryz.func95.trans (congrArg some (by kernel_rfl))⟩
  f15 := Tryz.func96.trans (congrArg some (by kernel_rfl))
  f20 := ⟨Tryz.f120.name, by decide, Tryz.func120.trans (congrArg some (by kernel_rfl))⟩
  f21 := ⟨Tryz.f121.name, by decide, Tryz.func121.trans (congrArg some (by kernel_rfl))⟩
  f22 := ⟨Tryz.f122.name, by decide, Tryz.func122.trans (congrArg some (by kernel_rfl))⟩
  f23 := ⟨Tryz.f123.name, by decide, Tryz.func123.trans (congrArg some (by kernel_rfl))⟩
  f24 := ⟨Tryz.f124.name, by decide, Tryz.func124.trans (congrArg some (by kernel_rfl))⟩
  f25 := ⟨Tryz.f125.name, by decide, Tryz.func125.trans (congrArg some (by kernel_rfl))⟩
  f26 := ⟨Tryz.f126.name, by decide, Tryz.func126.trans (congrArg some (by kernel_rfl))⟩
  f27 := ⟨Tryz.f127.name, by decide, Tryz.func127.trans (congrArg some (by kernel_rfl))⟩
  f28 := Tryz.func128.trans (congrArg some (by kernel_rfl))
  f29 := Tryz.func129.trans (congrArg some (by kernel_rfl))
  f46 := ⟨Tryz.f152.name, by decide, Tryz.func152.trans (congrArg some (by kernel_rfl))⟩
  f47 := Tryz.func153.trans (congrArg some (by kernel_rfl))
  f48 := Tryz.func154.trans (congrArg some (by kernel_rfl))
  f49 := ⟨Tryz.f155.name, by decide, Tryz.func155.trans (congrArg some (by kernel_rfl))⟩
  f50 := ⟨Tryz.f156.name, by decide, Tryz.func156.trans (congrArg some (by kernel_rfl))⟩
  f57 := ⟨Tryz.f162.name, by decide, Tryz.func162.trans (congrArg some (by kernel_rfl))⟩
  t0 := Tryz.underlying0
  a0 := Tryz.isAgg0
  z0 := Tryz.sizeOf0
  v0 := Tryz.zeroValue0
  t3 := Tryz.underlying3
  a3 := Tryz.isAgg3
  z3 := Tryz.sizeOf3
  v3 := Tryz.zeroValue3
  t4 := Tryz.underlying4
  a4 := Tryz.isAgg4
  z4 := Tryz.sizeOf4
  v4 := Tryz.zeroValue4
  t5 := Tryz.underlying5
  a5 := Tryz.isAgg5
  z5 := Tryz.sizeOf5
  v5 := Tryz.zeroValue5
  t9 := Tryz.underlying9
  a9 := Tryz.isAgg9
  z9 := Tryz.sizeOf9
  v9 := Tryz.zeroValue9
  t22 := Tryz.underlying32
  a22 := Tryz.isAgg32
  z22 := Tryz.sizeOf32
  v22 := Tryz.zeroValue32
  t25 := Tryz.underlying128
  a25 := Tryz.isAgg128
  z25 := Tryz.sizeOf128
  v25 := Tryz.zeroValue128
  t39 := Tryz.underlying96
  a39 := Tryz.isAgg96
  z39 := Tryz.sizeOf96
  v39 := Tryz.zeroValue96
  t45 := Tryz.underlying187
  a45 := Tryz.isAgg187
  z45 := Tryz.sizeOf187
  v45 := Tryz.zeroValue187
  t46 := Tryz.underlying188
  a46 := Tryz.isAgg188
  z46 := Tryz.sizeOf188
  v46 := Tryz.zeroValue188
  t50 := Tryz.underlying151
  a50 := Tryz.isAgg151
  z50 := Tryz.sizeOf151
  v50 := Tryz.zeroValue151
  t53 := Tryz.underlying194
  a53 := Tryz.isAgg194
  z53 := Tryz.sizeOf194
  v53 := Tryz.zeroValue194
  t55 := Tryz.underlying23
  a55 := Tryz.isAgg23
  z55 := Tryz.sizeOf23
  v55 := Tryz.zeroValue23
  t66 := Tryz.underlying208
  a66 := Tryz.isAgg208
  z66 := Tryz.sizeOf208
  v66 := Tryz.zeroValue208
  t70 := Tryz.underlying212
  a70 := Tryz.isAgg212
  z70 := Tryz.sizeOf212
  v70 := Tryz.zeroValue212
  t76 := Tryz.underlying223
  a76 := Tryz.isAgg223
  z76 := Tryz.sizeOf223
  v76 := Tryz.zeroValue223
  t77 := Tryz.underlying167
  a77 := Tryz.isAgg167
  z77 := Tryz.sizeOf167
  v77 := Tryz.zeroValue167 }
theorem yG2 (w : World) {g cap : Nat} {cur : Array Value} {L : List Spn} (hb : w.heap[g]? = some (.cells cur 61 (0, 0))) (hx : cur.toList.take (L.length * 2) = encL L) (hf : L.length * 2 ≤ cur.size) (hl : L.length ≤ 140737488355328) :
    Calls Tryz.prog 60 #[.slice (some ⟨g, 0, none⟩) L.length cap, .func (.func 61) #[] #[]] w (Ret fun v w' => ∃ (M : List Spn) (cur' : Array Value), M.Perm L ∧ M.Pairwise (fun a b => a.1 ≤ b.1) ∧ w'.heap[g]? = some (.cells cur' 61 (0, 0)) ∧ cur'.size = cur.size ∧ cur'.toList.take (L.length * 2) = encL M ∧ Kp [g] w w') := by
  have eg : ∀ args w, (callFunc 61 args).run Tryz.prog w = .ok (.enter 61 args) w := enters_of Tryz.func61 (by kernel_rfl) rfl
  have hc : CmpLays Tryz.prog 61 #[] encS 2 cfS g 0 L.toArray.size w := fun m os dk hs x y => by
    refine (qY4 _ x.1 x.2 y.1 y.2).mono ?_
    rintro e w' ⟨v, rfl, rfl, q, os', hq⟩
    exact ⟨rfl, q, os', hq⟩
  have hH : Sort.HoldsK encS 2 w g 0 L.toArray := yG0 hb (by simpa using hx)
  have h := AnyQ.slices_SortFunc jB6 2 (fun w => by kernel_rfl) (fun w => by kernel_rfl) encS (fun _ => rfl) (fun x v hv => by simp [encS] at hv; rcases hv with rfl | rfl <;> rfl) cfS swoS 61 #[] g 0 cap L.toArray w eg hc hH (zC1 hb) (by simp; omega)
  change Calls Tryz.prog 60 _ _ _ at h
  refine Calls.mono h ?_
  rintro e w' ⟨rfl, d', n, os, hp, hs, rfl⟩
  have hsz : d'.size = L.length := by have := hp.1; simpa using this
  obtain ⟨cur', h1, h2, h3, h4⟩ := yG1 (n := n) (d := d') (os := os) hb (by omega)
  exact ⟨_, rfl, d'.toList, cur', by simpa using yY5 hp, yY6 hp.1 hs, h1, h2, by rw [← hsz]; exact h3, h4⟩
theorem qO3 (w : World) (p : Option Addr) (cap : Nat) (fv : Value) : Calls Tryz.prog 60 #[.slice p 0 cap, fv] w (Ret fun v w' => w' = w) := by
  have h := AnyF.slices_SortFunc_none { jB6 with } p cap fv w
  change Calls Tryz.prog 60 _ _ _ at h
  refine Calls.mono h ?_
  rintro e w' ⟨rfl, rfl⟩
  exact ⟨_, rfl, rfl⟩
theorem qY5 (w : World) {base c : Nat} {ad : Option Addr} {L : List Spn} (own : w.ownsRow base 61 2 (.slice ad L.length c) L.length (encL L)) (hbase : base ≤ w.heap.size) (hl : L.length ≤ 140737488355328) :
    Calls Tryz.prog 60 #[.slice ad L.length c, .func (.func 61) #[] #[]] w (Ret fun v w' => ∃ M : List Spn, M.Perm L ∧ M.Pairwise (fun a b => a.1 ≤ b.1) ∧ w'.ownsRow base 61 2 (.slice ad L.length c) L.length (encL M) ∧ Below base w w') := by
  rcases Nat.eq_zero_or_pos L.length with h0 | h0
  · have hn := List.eq_nil_of_length_eq_zero h0
    subst hn
    refine Calls.mono (qO3 w ad c _) ?_
    rintro e w' ⟨v, rfl, rfl⟩
    exact ⟨_, rfl, [], List.Perm.refl _, List.Pairwise.nil, own, Below.refl _ _⟩
  · obtain ⟨q, cap, cur, hv, hq, hgc, hn1, hn2, hcs, hct⟩ := zT5 own h0
    simp only [Value.slice.injEq, true_and] at hv
    obtain ⟨rfl, rfl⟩ := hv
    refine Calls.mono (yG2 w hgc hct (by omega) hl) ?_
    rintro e w' ⟨v, rfl, M, cur', hp, hs, hg', hz, hx, hk⟩
    exact ⟨_, rfl, M, hp, hs, ⟨by rw [zI6, hp.length_eq], .inr ⟨q, c, cur', rfl, hq, hg', hn1, hn2, by rw [hz, hcs], hx⟩⟩, hk.below (fun x hx => by simp at hx; omega) hbase⟩
theorem qT4 (w : World) {b : Addr} {n c : Nat} {xs : List Value} (hc : n ≤ c) (hc2 : c ≤ maxLen) (R : RowAt w 2 (some b) n xs) (h1 : ∀ q ∈ xs, q.oneCell' = true) (hb : n ≤ 8796093022208) : Calls Tryz.prog 58 #[.slice (some b) n c] w (Ret fun v w' => w'.ownsRow w.heap.size 61 2 v n xs ∧ Grow w w') := by
 have G := Grow.rfl' w
 refine zC2 Tryz.func58 Tryz.ntmps58 Tryz.results58 rfl rfl ?_
 refine qZ 8 ?_
 refine stp (yA0 rfl rfl ?_)
 refine zA6 ?_
 refine zN5 rfl ?_
 refine qZ 3 ?_
 refine stp (zC3 (cs := #[]) (el := 61) (fun w => by kernel_rfl) ?_)
 intro bs_ w5_ hbs_ hcs_ g5_
 replace G := G.tr g5_
 clear g5_
 have own0 := yP2 (base := w.heap.size) (sz := 2) hcs_ (by have := G.size; omega)
 refine qZ 1 ?_
 refine stp (zG1 rfl rfl rfl rfl own0 ⟨_, c, rfl, hc, hc2, R.grow G⟩ h1 (by simp only [maxLen]; omega) (by omega) G.size ?_)
 intro v6 w6 own6 gr6
 have G6 := G.grown gr6 (zH8 own0)
 rw [Nat.zero_add, List.nil_append] at own6
 refine stp (zJ5 (v := v6) rfl ?_)
 refine qZ 2 ?_
 exact ret1 (zA1 rfl) ⟨own6, G6⟩
theorem qT5 (w : World) {c : Nat} : Calls Tryz.prog 58 #[.slice none 0 c] w (Ret fun v w' => v = .slice none 0 0 ∧ Grow w w') := by
 have G := Grow.rfl' w
 refine zC2 Tryz.func58 Tryz.ntmps58 Tryz.results58 rfl rfl ?_
 refine qZ 8 ?_
 refine stp (yA0 rfl rfl ?_)
 refine zA6 ?_
 refine zU8 rfl ?_
 refine qZ 5 ?_
 refine ret1 (zA1 (v := .slice none 0 0) rfl) ⟨rfl, G⟩
theorem qT6 (w : World) {ad : Option Addr} {n c : Nat} {L : List Spn} (hc : n ≤ c) (hc2 : c ≤ maxLen) (R : RowAt w 2 ad n (encL L)) (hb : n ≤ 8796093022208) : Calls Tryz.prog 58 #[.slice ad n c] w (Ret fun v w' => w'.ownsRow w.heap.size 61 2 v n (encL L) ∧ Grow w w') := by
  cases ad with
  | some b => exact qT4 w hc hc2 R yR7 hb
  | none =>
    have hn : n = 0 := by
      rcases Nat.eq_zero_or_pos n with h | h
      · exact h
      · obtain ⟨b, o, cs, T, fr, h1, _⟩ := R.at_ h; cases h1
    subst hn
    have hl := qC1 R
    have := List.eq_nil_of_length_eq_zero hl
    subst this
    refine Calls.mono (qT5 w) ?_
    rintro e w' ⟨v, rfl, rfl, G⟩
    exact ⟨_, rfl, World.ownsRow_nil _ _ _ _, G⟩
end Go.Proofs.YtkkbbhpbcfcplaaGreat.K
namespace Go.Proofs.YtkkbbhpbcfcplaaGreat.K
open Go Go.RowKit Go.Proofs
attribute [local irreducible] Run1 OpG WL W AO zB6
theorem qT7 (w : World) {base c : Nat} {ad : Option Addr} {L : List Spn} (own : w.ownsRow base 61 2 (.slice ad L.length c) L.length (encL L)) (hbase : base ≤ w.heap.size) (hl : L.length ≤ 8796093022208) : Calls Tryz.prog 57 #[.slice ad L.length c, .func (.func 59) #[] #[]] w (Ret fun v w' => w'.ownsRow base 61 2 v (L.filter keepS).length (encL (L.filter keepS)) ∧ Below base w w') := by
 refine zC2 Tryz.func57 Tryz.ntmps57 Tryz.results57 rfl rfl ?_
 have hB := Below.refl base w
 have hsz := hbase
 obtain ⟨ad', c', he, hc1, hc2, R⟩ := zI3 own (by omega)
 simp only [Value.slice.injEq, true_and] at he
 obtain ⟨rfl, rfl⟩ := he
 refine qZ 8 ?_
 refine stp (zA4 (v := .int .i64 (zR7 (fun i => zU1 (gS L i)) L.length 0)) rfl (qT3 _ R (fun i => zU1 (gS L i)) (fun i hi w' g' => by rw [yB7 R hi]; exact qL6 w' _ _)) ?_)
 intro w1 g2
 replace hB := Below.trans hB (Below.mono g2 hsz)
 replace hsz := Nat.le_trans hsz g2.size
 replace own := zB7 own g2
 clear g2
 refine qZ 6 ?_
 refine stp (zD5 rfl rfl ?_)
 refine zA6 ?_
 rcases yS7 (fun i => zU1 (gS L i)) L.length with ⟨hfi, hno⟩ | ⟨i, hi, hfi, hpi, hno⟩
 ·
  refine zU8 (show _ = Value.bool true from congrArg Value.bool (by rw [hfi]; rfl)) ?_
  refine qZ 6 ?_
  have hfl : L.filter keepS = L := List.filter_eq_self.2 fun s hs => by
   obtain ⟨j, hj, rfl⟩ := List.getElem_of_mem hs
   have := hno j hj
   rw [zO1 hj] at this
   simp [keepS, this]
  rw [hfl]
  refine ret1 (zA1 (v := .slice ad L.length c) rfl) ⟨own, hB⟩
 ·
  refine zN5 (show _ = Value.bool false from congrArg Value.bool (by rw [hfi]; exact decide_eq_false (by omega))) ?_
  obtain ⟨q, cap, cur, hv, hq, hgc, hn1, hn2, hcs, hct⟩ := zT5 own (by omega)
  simp only [Value.slice.injEq, true_and] at hv
  obtain ⟨rfl, rfl⟩ := hv
  clear own R
  have D0 := DelSt.start hcs hn1 hct hi hpi hno
  refine qZ 5 ?_
  refine stp (zB5 rfl rfl ?_ ?_); constructor <;> omega
  refine qZ 3 ?_
  refine zF5 (fun m_ e_ w_ => ∃ (j : Nat) (K : List Spn) (cur' : Array Value), m_ = L.length - j ∧ Fr [(0, .slice (some ⟨q, 0, none⟩) L.length c), (1, .func (.func 59) #[] #[]), (4, .slice none 0 0), (6, .int .i64 (j : Int)), (5, .int .i64 (K.length : Int))] e_ ∧ (DelSt L c j K cur') ∧ (Below base w w_) ∧ (base ≤ w_.heap.size) ∧ (w_.heap[q]? = some (.cells cur' 61 (0, 0)))) _ ⟨i + 1, L.take i, cur, rfl, zC6 ⟨rfl, rfl, rfl, congrArg (Value.int .i64) (by rw [hfi]; omega), congrArg (Value.int .i64) (by rw [hfi, List.length_take]; omega), trivial⟩, D0, hB, hsz, hgc⟩ ?_
  clear hB hsz hgc
  rintro m_ e_ w3 ⟨j, K, cur', rfl, ⟨e4, rfl⟩, D, hB, hsz, hgc⟩
  refine qZ 6 ?_
  refine stp (zF6 rfl rfl ?_)
  refine zA6 ?_
  refine zA2 (b := (decide ((j : Int) < (L.length : Int)))) rfl (fun hlt => ?_) (fun hlt => ?_)
  ·
   replace hlt := qT hlt
   have hj : j < L.length := by omega
   have RC := D.row hgc (by omega)
   have hld := D.load hj
   have hlt1 := D.lt
   refine qZ 7 ?_
   refine stp (zC8 RC rfl rfl ?_ ?_); omega
   refine stp (zL5 RC rfl (by decide) (by rw [RC.len]; omega) hld ?_)
   refine stp (zA7 ?_)
   intro b5 w6 hb7 hc8 g9
   refine stn (qS hc8 ?_)
   intro w10 hc11 u12
   have g13 := g9.upd u12 hb7
   replace hB := Below.trans hB (Below.mono g13 hsz)
   replace hsz := Nat.le_trans hsz g13.size
   replace hgc := g13.heap hgc
   replace RC := RC.grow g13
   clear u12 g9 hb7 hc8
   refine qZ 5 ?_
   refine stp (zA4 (v := .bool (zU1 (gS L j))) rfl (qL6 _ _ _) ?_)
   intro w14 g15
   replace hB := Below.trans hB (Below.mono g15 hsz)
   replace hsz := Nat.le_trans hsz g15.size
   replace hgc := g15.heap hgc
   replace RC := RC.grow g15
   replace hc11 := g15.heap hc11
   clear g15
   refine stp (zN8 rfl ?_)
   refine zA6 ?_
   refine zA2 (b := (!(zU1 (gS L j)))) rfl (fun hk => ?_) (fun hk => ?_)
   ·
    simp only [sb] at hk
    have hkp : zU1 (gS L j) = false := by simpa using hk
    refine qZ 5 ?_
    refine stp (zH2 (b := q) (o := 0) (i := (K.length : Int)) rfl rfl ?_ ?_ ?_); omega; omega
    refine stn (zY4 (b := q) (o := 0 + K.length * 2) (n := 2) rfl rfl rfl hgc rfl (Nat.ble_eq_true_of_le (by have := D.sz; have := D.cap; omega)) rfl rfl ?_)
    intro w16 hgc2 u2
    replace hB := Below.trans hB (u2.below hq)
    replace hsz : base ≤ w16.heap.size := by rw [u2.size]; exact hsz
    clear RC
    refine qZ 3 ?_
    refine stp (zB5 rfl rfl ?_ ?_); constructor <;> omega
    refine qZ 4 ?_
    refine stp (zB5 rfl rfl ?_ ?_); constructor <;> omega
    refine qZ 2 ?_
    refine ⟨_, ?_, j + 1, K ++ [gS L j], _, rfl, zC6 ⟨rfl, rfl, rfl, rfl, by simp; rfl, trivial⟩, D.put hj hkp, hB, hsz, hgc2⟩
    omega
   ·
    simp only [sb] at hk
    have hkp : zU1 (gS L j) = true := by simpa using hk
    refine qZ 3 ?_
    refine stp (zB5 rfl rfl ?_ ?_); constructor <;> omega
    refine qZ 2 ?_
    refine ⟨_, ?_, j + 1, K, cur', rfl, zC6 ⟨rfl, rfl, rfl, rfl, rfl, trivial⟩, D.skip hj hkp, hB, hsz, hgc⟩
    omega
  ·
   replace hlt := qF hlt
   have hj9 : j = L.length := by have := D.hj; omega
   have hlt1 := D.lt
   have hK9 : K = L.filter keepS := by rw [D.hK, hj9, List.take_length]
   refine qZ 5 ?_
   refine stp (qZ9 rfl rfl ?_ ?_ ?_); omega; omega
   refine stn (yY4 (b := q) (o := K.length * 2) (T := 61) (sz := 2) (z := .agg #[.int .i64 0, .int .i64 0]) (n := L.length - (K.length : Int).toNat) rfl rfl rfl ?_ hgc ?_ rfl ?_ ?_)
   ·intro _
    rw [if_neg (by omega), Int.toNat_natCast]
    simp [add_lit]
   ·rw [Int.toNat_natCast]; have := D.sz; have := D.cap; omega
   ·intro q_ hq_
    have hq2_ : q_ = .int .i64 0 := by simpa [Value.cells] using hq_
    rw [hq2_]; rfl
   intro w17 cs9 hgc9 hs9 ht9 u9
   replace hB := Below.trans hB (u9.below hq)
   refine qZ 5 ?_
   refine stp (qF3 rfl rfl ?_ ?_ ?_); omega; omega
   refine qZ 3 ?_
   have hsl : (Value.slice (if c = 0 then some ⟨q, 0, none⟩ else (some (⟨q, 0, none⟩ : Addr)).map (·.add (0 * 2))) (K.length : Int).toNat c) = .slice (some ⟨q, 0, none⟩) K.length c := by rw [if_neg (by omega), Int.toNat_natCast]; simp [add_lit]
   rw [← hK9]
   refine ret1 (zA1 (v := .slice (if c = 0 then some ⟨q, 0, none⟩ else (some (⟨q, 0, none⟩ : Addr)).map (·.add (0 * 2))) (K.length : Int).toNat c) rfl) ⟨by rw [hsl]; exact ⟨zI6 _, .inr ⟨q, c, cs9, rfl, hq, hgc9, by omega, hn2, by rw [hs9, D.sz], by rw [ht9, D.hd]⟩⟩, hB⟩
end Go.Proofs.YtkkbbhpbcfcplaaGreat.K
namespace Go.Proofs.YtkkbbhpbcfcplaaGreat.K
open Go Go.RowKit
def nrm4 (L : List Spn) : List Spn := qX5 ((L.filter keepS).mergeSort fun a b => decide (a.1 ≤ b.1))
theorem yN8 (L : List Spn) : NormOf L (nrm4 L) := by
  refine yN1 (List.mergeSort_perm _ _) ?_
  have := List.pairwise_mergeSort (le := fun a b : Spn => decide (a.1 ≤ b.1)) (fun a b c h1 h2 => by simp only [decide_eq_true_eq] at *; omega) (fun a b => by simp only [Bool.or_eq_true, decide_eq_true_eq]; omega) (L.filter keepS)
  exact this.imp fun h => by simpa using h
theorem NormOf.eq {L N : List Spn} (h : NormOf L N) : N = nrm4 L := h.same (yN8 L) fun _ => Iff.rfl
/-! ### right? -/
/-! ### the document's answers -/
/-! ### what is kept while a row grows behind a box -/
end Go.Proofs.YtkkbbhpbcfcplaaGreat.K
namespace Go.Proofs.YtkkbbhpbcfcplaaGreat.K
open Go Go.RowKit Go.Proofs
attribute [local irreducible] Run1 OpG WL W AO zB6
theorem yG3 (w : World) {ad : Option Addr} {c n : Nat} {L : List Spn} (hc : n ≤ c) (hc2 : c ≤ maxLen) (R : RowAt w 2 ad n (encL L)) (hb : n ≤ 8796093022208) : Calls Tryz.prog 33 #[.slice ad n c] w (Ret fun v w' => w'.ownsRow w.heap.size 61 2 v (nrm4 L).length (encL (nrm4 L)) ∧ Grow w w') := by
 refine zC2 Tryz.func33 Tryz.ntmps33 Tryz.results33 rfl rfl ?_
 have hLn := qC1 R
 refine qZ 7 ?_
 refine stp ?_
 refine zD7 rfl (qT6 w hc hc2 R hb) ?_
 rintro v1 w1 ⟨own1, G1⟩
 obtain ⟨ad1, n1, c1, rfl⟩ := zE0 own1
 have hn1 := qC0 own1
 rw [← hLn] at hn1 own1
 subst hn1
 refine stp ?_
 refine zD7 rfl (qT7 w1 own1 G1.size (by omega)) ?_
 rintro v2 w2 ⟨own2, B2⟩
 obtain ⟨ad2, n2, c2, rfl⟩ := zE0 own2
 have hn2 := qC0 own2
 subst hn2
 have G2 : Grow w w2 := Below.trans G1 B2
 refine qZ 5 ?_
 refine stp ?_
 have hfl : (L.filter keepS).length ≤ L.length := List.length_filter_le _ _
 refine zD7 rfl (qY5 w2 own2 G2.size (by omega)) ?_
 rintro v3 w3 ⟨M, hperm, hpair, own3, B3⟩
 have G3 : Grow w w3 := Below.trans G2 B3
 have hML := hperm.length_eq
 obtain ⟨ad3, c3, he3, -, -, R3⟩ := zI3 own3 (by omega)
 simp only [Value.slice.injEq, true_and] at he3
 obtain ⟨rfl, rfl⟩ := he3
 have G0 := Grow.rfl' w3
 have ownO : w3.ownsRow w3.heap.size 61 2 (.slice none 0 0) 0 (encL ([] : List Spn).reverse) := World.ownsRow_nil _ _ _ _
 refine qZ 13 ?_
 refine zF5 (fun m_ e_ w_ => ∃ (k : Nat) (ado : Option Addr) (co : Nat), m_ = (L.filter keepS).length - k ∧ Fr [(2, .slice none 0 0), (14, .slice ad2 ((L.filter keepS).length) c2), (15, .int .i64 ((L.filter keepS).length : Int)), (16, .int .i64 (k : Int)), (4, .slice ado ((normO M k).length) co)] e_ ∧ (k ≤ (L.filter keepS).length) ∧ (Grow w3 w_) ∧ (w_.ownsRow w3.heap.size 61 2 (.slice ado (normO M k).length co) (normO M k).length (encL (normO M k).reverse))) _ ⟨0, _, _, rfl, zC6 ⟨rfl, rfl, rfl, rfl, rfl, trivial⟩, by omega, G0, ownO⟩ ?_
 clear G0 ownO
 rintro m_ e_ w1 ⟨k, ado, co, rfl, ⟨e2, rfl⟩, hk, G0, ownO⟩
 refine qZ 2 ?_
 refine stp (zF6 rfl rfl ?_)
 refine qZ 2 ?_
 refine zA2 (b := (decide ((k : Int) < ((L.filter keepS).length : Int)))) rfl (fun hlt => ?_) (fun hlt => ?_)
 ·
  replace hlt := qT hlt
  have hkM : k < M.length := by omega
  have hlen := qI4 (M.take k) []
  rw [List.length_take] at hlen
  have hln : (normO M k).length ≤ k := by unfold normO; simp only [List.length_nil] at hlen; omega
  obtain ⟨ado', co', heo, -, -, RO⟩ := zI3 ownO (by omega)
  simp only [Value.slice.injEq, true_and] at heo
  obtain ⟨rfl, rfl⟩ := heo
  refine qZ 5 ?_
  refine stp (zC8 (R3.grow G0) rfl rfl ?_ ?_); omega
  refine stp (zL5 (R3.grow G0) rfl (by decide) (by rw [R3.len]; omega) (yB7 R3 (by omega)) ?_)
  refine stp (zA7 ?_)
  intro b3 w4 hb5 hc6 g7
  refine stn (qS hc6 ?_)
  intro w8 hc9 u10
  have g11 := g7.upd u10 hb5
  replace G0 := G0.tr g11
  replace ownO := zB7 ownO g11
  replace RO := RO.grow g11
  clear u10 g7 hb5 hc6
  refine qZ 9 ?_
  refine zM8 13 [[], [0], [1, 0], [2, 1, 0], [3, 2, 1, 0], [4, 3, 2], [5, 4, 3], [6, 5, 4, 0], [7, 6, 5, 2, 1, 0], [8, 7, 6, 3, 2, 1, 0], [9, 8, 7, 4, 3, 2, 1, 0], [10, 9, 8, 7, 6, 5, 4, 3, 2, 1, 0], [11, 10, 9, 8, 7, 6, 5, 4, 3, 2, 1, 0]] mixed (by kernel_rfl) (by kernel_rfl) (by kernel_rfl) ?_
  intro w12 g13
  replace G0 := G0.tr g13
  replace ownO := zB7 ownO g13
  replace RO := RO.grow g13
  replace hc9 := g13.heap hc9
  clear g13
  refine qA 1 ?_
  apply zC0
  ·intro w_ g_; exact og rfl (zN7 rfl rfl qX)
  refine qA 1 ?_
  apply zC0
  ·intro w_ g_; 
   refine zB2 (s := .bool _) (v := .pointer (some ⟨b3, 0, none⟩)) rfl (zE2 _) (fun hc14 => ?_) ?_
   ·
    have hc14_ := qT hc14
    refine zD4 rfl ?_
    exact ⟨rfl, rfl⟩
   exact qX
  apply zC0
  ·intro w_ g_; 
   refine zB2 (s := .bool _) (v := .int .i64 ((gS M k).1)) rfl (zE2 _) (fun hc15 => ?_) ?_
   ·
    have hc15_ := qT hc15
    refine zG7 (v := .int .i64 ((gS M k).1)) (gvt hc15) (g_.heap hc9) rfl ?_
    exact ⟨rfl, rfl⟩
   exact qX
  apply zC0
  ·intro w_ g_; 
   refine zB2 (s := .bool _) (v := .slice ado ((normO M k).length) co) rfl (zE2 _) (fun hc16 => ?_) ?_
   ·
    have hc16_ := qT hc16
    refine zH9 rfl ?_
    exact ⟨rfl, rfl⟩
   exact qX
  apply zC0
  ·intro w_ g_; 
   refine zB2 (s := .bool _) (v := .int .i64 ((normO M k).length : Int)) rfl (zE2 _) (fun hc17 => ?_) ?_
   ·
    have hc17_ := qT hc17
    refine zD3 rfl ?_
    exact ⟨rfl, rfl⟩
   exact qX
  apply zC0
  ·intro w_ g_; 
   refine zB2 (s := .bool _) (v := .int .i64 (((normO M k).length : Int) - 1)) rfl (zE2 _) (fun hc18 => ?_) ?_
   ·
    have hc18_ := qT hc18
    refine zM9 (gvt hc18) rfl ?_ ?_; constructor <;> omega
    exact ⟨rfl, rfl⟩
   exact qX
  apply zC0
  ·intro w_ g_; 
   refine zB2 (s := .bool _) (v := .pointer (some (eadr ado ((((normO M k).length : Int) - 1).toNat * 2)))) rfl (zE2 _) (fun hc19 => ?_) ?_
   ·
    have hc19_ := qT hc19
    refine zE7 (RO.grow g_) (gvt hc19) (gvt hc19) ?_ ?_ ?_; omega; omega
    exact ⟨rfl, rfl⟩
   exact qX
  apply zC0
  ·intro w_ g_; 
   refine zB2 (s := .bool _) (v := .pointer (some (eadr ado ((((normO M k).length : Int) - 1).toNat * 2 + 1)))) rfl (zE2 _) (fun hc20 => ?_) ?_
   ·
    have hc20_ := qT hc20
    refine qB3 (gvt hc20) ?_
    exact ⟨rfl, rfl⟩
   exact qX
  apply zC0
  ·intro w_ g_; 
   refine zB2 (s := .bool _) (v := .int .i64 ((hdS (normO M k)).2)) rfl (zE2 _) (fun hc21 => ?_) ?_
   ·
    have hc21_ := qT hc21
    refine zC5 (v := .int .i64 ((hdS (normO M k)).2)) (m := 0) (RO.grow g_) (gvt hc21) (yC0 (by omega) 1 (by omega)) ?_
    exact ⟨rfl, rfl⟩
   exact qX
  apply zC0
  ·intro w_ g_; 
   refine zB2 (s := .bool _) (v := .bool (decide (((gS M k).1) ≤ ((hdS (normO M k)).2)))) rfl (zE2 _) (fun hc22 => ?_) ?_
   ·
    have hc22_ := qT hc22
    refine zU7 (gvt hc22) (gvt hc22) ?_
    exact ⟨rfl, rfl⟩
   exact qX
  apply zC0
  ·intro w_ g_; exact og rfl (zG8 rfl rfl rfl qX)
  refine zI4 ?_
  intro w23 g24
  replace G0 := G0.tr g24
  replace ownO := zB7 ownO g24
  replace RO := RO.grow g24
  replace hc9 := g24.heap hc9
  clear g24
  refine zA6 ?_
  refine zA2 (b := ((decide (((normO M k).length : Int) > 0)) && (decide (((gS M k).1) ≤ ((hdS (normO M k)).2))))) rfl (fun hj => ?_) (fun hj => ?_)
  ·
   simp only [sb] at hj
   have hpos : 0 < (normO M k).length := by omega
   have hle : (gS M k).1 ≤ (hdS (normO M k)).2 := hj.2
   obtain ⟨q, cap, cur, hv, hq, hgc, hn1, hn2, hcs, hct⟩ := zT5 ownO hpos
   simp only [Value.slice.injEq, true_and] at hv
   obtain ⟨rfl, rfl⟩ := hv
   have hjl : (normO M (k + 1)).length = (normO M k).length := by rw [show normO M (k + 1) = zO0 (normO M k) (gS M k) from qD4 hkM, yC1 hpos hle]; simp; omega
   refine qZ 4 ?_
   refine stp (zM9 rfl rfl ?_ ?_); constructor <;> omega
   refine stp (zE7 RO rfl rfl ?_ ?_ ?_); omega; omega
   refine qZ 3 ?_
   refine zM8 10 [[], [], [0], [1, 0], [2, 1, 0], [], [0], [5, 4, 3, 2, 1, 0], [7, 6, 5, 4, 3, 2, 1, 0], [8, 7, 6, 5, 4, 3, 2, 1, 0]] mixed (by kernel_rfl) (by kernel_rfl) (by kernel_rfl) ?_
   intro w25 g26
   replace G0 := G0.tr g26
   replace ownO := zB7 ownO g26
   replace RO := RO.grow g26
   replace hc9 := g26.heap hc9
   replace hgc := g26.heap hgc
   clear g26
   refine qA 3 ?_
   apply zC0
   ·intro w_ g_; exact og rfl (qB3 rfl qX)
   apply zC0
   ·intro w_ g_; exact og rfl (zC5 (v := .int .i64 ((hdS (normO M k)).2)) (m := 0) (RO.grow g_) rfl (yC0 (by omega) 1 (by omega)) qX)
   refine qA 2 ?_
   apply zC0
   ·intro w_ g_; exact og rfl (qP1 rfl rfl rfl qX)
   refine qA 1 ?_
   apply zC0
   ·intro w_ g_; exact og rfl (qB3 rfl qX)
   refine zI4 ?_
   intro w27 g28
   replace G0 := G0.tr g28
   replace ownO := zB7 ownO g28
   replace RO := RO.grow g28
   replace hc9 := g28.heap hc9
   replace hgc := g28.heap hgc
   clear g28
   refine stn (zY4 (b := q) (o := 0 + (((normO M k).length : Int) - 1).toNat * 2 + 1) (n := 1) (v := .int .i64 (max (hdS (normO M k)).2 (gS M k).2)) rfl (congrArg (Value.int .i64) (by simp only [Int.max_def]; split <;> split <;> omega)) rfl hgc rfl (Nat.ble_eq_true_of_le (by omega)) rfl rfl ?_)
   intro w29 hgc2 u2
   have own9 := yS9 ownO hpos hgc hgc2
   rw [← yC1 hpos hle, show zO0 (normO M k) (gS M k) = normO M (k + 1) from (qD4 hkM).symm] at own9
   have G9 := G0.upd u2 hq
   refine qZ 3 ?_
   refine stp (zB5 rfl rfl ?_ ?_); constructor <;> omega
   refine qZ 2 ?_
   rw [← hjl] at own9
   refine ⟨_, ?_, k + 1, _, _, rfl, zC6 ⟨rfl, rfl, rfl, congrArg (Value.int .i64) (by omega), by rw [hjl]; rfl, trivial⟩, by omega, G9, own9⟩
   omega
  ·
   simp only [sb] at hj
   have hnj : ¬ (0 < (normO M k).length ∧ (gS M k).1 ≤ (hdS (normO M k)).2) := by rintro ⟨h1, h2⟩; rcases hj with hj | hj <;> omega
   refine qZ 4 ?_
   refine stp (zC3 (cs := #[.int .i64 ((gS M k).1), .int .i64 ((gS M k).2)]) (el := 61) (fun w => by kernel_rfl) ?_)
   intro bs30 w31 hb32 hc33 g34
   replace G0 := G0.tr g34
   replace ownO := zB7 ownO g34
   replace RO := RO.grow g34
   replace hc9 := g34.heap hc9
   clear g34
   refine stp (zG1 rfl rfl rfl rfl ownO (Row.of_block (n := 1) hc33 rfl rfl (by omega)) (fun q_ hq_ => by simp at hq_; rcases hq_ with rfl | rfl <;> rfl) (by simp only [maxLen]; omega) (by omega) G0.size ?_)
   intro v9 w9 own9 gr9
   have G9 := G0.grown gr9 (zH8 ownO)
   replace own9 := yT0 own9
   rw [← yN6 hnj, show zO0 (normO M k) (gS M k) = normO M (k + 1) from (qD4 hkM).symm] at own9
   obtain ⟨ad9, n9, c9, rfl⟩ := zE0 own9
   have hn9 := qC0 own9
   subst hn9
   refine qZ 3 ?_
   refine stp (zB5 rfl rfl ?_ ?_); constructor <;> omega
   refine qZ 2 ?_
   refine ⟨_, ?_, k + 1, _, _, rfl, zC6 ⟨rfl, rfl, rfl, congrArg (Value.int .i64) (by omega), rfl, trivial⟩, by omega, G9, own9⟩
   omega
 ·
  replace hlt := qF hlt
  have hk9 : k = M.length := by omega
  have hO : normO M k = yM9 M := by unfold normO yM9; rw [hk9, List.take_length]
  have hlen := qI4 M []
  refine qZ 7 ?_
  rw [hO] at ownO
  refine ret1 (zA1 (v := .slice ado ((normO M k).length) co) rfl) ⟨?_, Below.trans G3 (Below.mono G0 G3.size)⟩
  rw [← (yN1 hperm hpair).eq]
  unfold qX5
  rw [List.length_reverse, hO]
  exact zT3 ownO G3.size
theorem yY7 (L : List Spn) : nrm4 L = nrm L := (yN8 L).same (yU0 L) (fun _ => Iff.rfl)
theorem zR4 (w : World) {u : Value} {A : List (List Int)} (hA : zG2 w u A) (hr : zC7 A = true) (hx : AllU A) {ad : Option Addr} {c : Nat} {ks : List Int} {a : Int} (R : RowAt w 1 ad ks.length (ks.map (.int .i64))) (ha : inR .i64 a) : Calls Tryz.prog 12 #[u, .agg #[.slice ad ks.length c, .int .i64 a]] w (Ret fun v w' => ∃ adn n cn, v = .tuple #[.slice adn n cn, .int .u16 (zE8 (zB0 A) ks a 8192).2] ∧ ((zE8 (zB0 A) ks a 8192).2 = 0 → n = (nrm (zJ4 A ks a)).length ∧ n ≤ cn ∧ cn ≤ maxLen ∧ RowAt w' 2 adn (nrm (zJ4 A ks a)).length (encL (nrm (zJ4 A ks a)))) ∧ ((zE8 (zB0 A) ks a 8192).2 ≠ 0 → n = 0) ∧ Grow w w') := by
 obtain ⟨hlen16, -⟩ := zO7 hr
 have G := Grow.rfl' w
 refine zC2 Tryz.func12 Tryz.ntmps12 Tryz.results12 rfl rfl ?_
 refine qZ 2 ?_
 refine stp ?_
 refine qC ?_
 intro b1 w2 hb3 hc4 g5
 have hge6 := Nat.le_trans G.size hb3
 replace G := G.tr g5
 clear g5 hb3
 refine qZ 6 ?_
 refine stp (zH5 (v := u) rfl ?_)
 refine stp (zA4 (v := .bool true) rfl (zJ0 (qE6 _ (hA.grow G) (by omega)) (y := .bool true) (by rw [hr])) ?_)
 intro w7 g8
 replace hc4 := g8.heap hc4
 replace G := G.tr g8
 clear g8
 refine stp (yI3 rfl rfl ?_)
 refine zA6 ?_
 refine zN5 rfl ?_
 refine qZ 3 ?_
 refine stp (zH5 (v := u) rfl ?_)
 refine stp (zA4 (v := .iface 110 (.agg #[u])) rfl (by obtain ⟨adu_, nu_, cu_, rfl⟩ := hA.slice; exact qH5 _) ?_)
 intro w9 g10
 replace hc4 := g10.heap hc4
 replace G := G.tr g10
 clear g10
 refine stp (zA9 (v := .agg #[.iface 110 (.agg #[u]), .slice none 0 0]) (fun w => by kernel_rfl) ?_)
 refine stp ?_
 refine qC ?_
 intro b11 w12 hb13 hc14 g15
 have hge16 := Nat.le_trans G.size hb13
 replace hc4 := g15.heap hc4
 replace G := G.tr g15
 clear g15 hb13
 refine qZ 2 ?_
 have hbn : w.heap.size ≤ b11 := hge16
 have st0 : NtS 110 79 61 w.heap.size w12 u b11 [] := ⟨none, 0, hc14, World.ownsRow_nil _ _ _ _⟩
 refine qZ 4 ?_
 refine stp (qG5 (v := .pointer (some ⟨b11, 0, none⟩)) rfl ?_)
 refine qZ 1 ?_
 refine stp ?_
 refine zD7 rfl (qY2 _ hA hr hx rfl G hbn st0 (L := []) (by simp) R ha (by simp [inR])) ?_
 rintro v_ w17 ⟨rfl, L2, he2, st2, rel_⟩
 replace hc4 := rel_.hpN st0 hc4 (by decide) (by decide)
 replace G := NkP.to_grow rel_ G (fun x_ hx_ => by simp only [List.mem_singleton] at hx_; subst hx_; exact hbn) (Nat.le_refl _)
 clear rel_ st0 hc14
 obtain ⟨ad1, c1, hcn1, own1⟩ := st2
 refine qZ 3 ?_
 refine stp (zA7 ?_)
 intro b18 w19 hb20 hc21 g22
 refine stn (qS hc21 ?_)
 intro w23 hc24 u25
 have g26 := g22.upd u25 hb20
 have hge27 := Nat.le_trans G.size hb20
 have ne28 := qN hc4 hb20
 have ne29 := qN hcn1 hb20
 replace hc4 := g26.heap hc4
 replace hcn1 := g26.heap hcn1
 replace own1 := zB7 own1 g26
 replace G := G.tr g26
 clear u25 g22 hb20 hc21
 refine qZ 5 ?_
 refine stp (zG9 rfl rfl ?_)
 refine zA6 ?_
 refine zA2 (b := (decide (((zE8 (zB0 A) ks a 8192).2) ≠ 0))) rfl (fun h1 => ?_) (fun h1 => ?_)
 ·
  replace h1 := qT h1
  refine qZ 7 ?_
  refine ret2 (zA1 (v := .slice none 0 0) rfl) (zA1 (v := .int .u16 ((zE8 (zB0 A) ks a 8192).2)) rfl) ⟨none, 0, 0, rfl, fun h_ => absurd h_ (by omega), fun _ => rfl, G⟩
 ·
  replace h1 := qF h1
  have hz0 : (zE8 (zB0 A) ks a 8192).2 = 0 := by omega
  have h9 := he2 hz0
  have h8 : L2 = (zJ4 A ks a) := h9
  have h7 := (yN2 hr ks a).2
  obtain ⟨hnn, hk32, -⟩ := jC3 hz0
  rw [← h8] at h7
  obtain ⟨_, _, hs9, hq1, hm1, R1⟩ := zI3 own1 (by omega)
  cases hs9
  clear own1
  refine qZ 7 ?_
  refine stp ?_
  have hcal := yG3 _ hq1 hm1 R1 (by omega)
  rw [yY7] at hcal
  refine zD7 rfl hcal ?_
  rintro v_ w30 ⟨ownN, g_⟩
  clear hcal
  rw [h8] at ownN
  replace hc4 := g_.heap hc4
  replace hcn1 := g_.heap hcn1
  replace hc24 := g_.heap hc24
  replace R1 := R1.grow g_
  replace G := G.tr g_
  clear g_
  have hnl := yX5 (zJ4 A ks a)
  obtain ⟨adn, n9, cn, rfl⟩ := zE0 ownN
  have hn9 := qC0 ownN
  subst hn9
  obtain ⟨_, _, hs9, hq2, hm2, R2⟩ := zI3 ownN (by rw [h8] at h7; omega)
  cases hs9
  refine qZ 4 ?_
  refine ret2 (zA1 (v := .slice adn ((nrm (zJ4 A ks a)).length) cn) rfl) (zA1 (v := .int .u16 0) rfl) ⟨adn, _, cn, by rw [hz0], fun _ => ⟨rfl, hq2, hm2, R2⟩, fun h_ => absurd hz0 h_, G⟩
theorem zU4 (w : World)  : zB6 Tryz.prog 9 #[] w (.bool true) := by
 have G := Grow.rfl' w
 refine zA8 Tryz.func9 Tryz.ntmps9 Tryz.results9 rfl rfl ?_
 refine qZ 6 ?_
 refine stp (zC3 (cs := #[.int .u64 7]) (el := 23) (fun w => by kernel_rfl) ?_)
 intro bs1 w2 hb3 hc4 g5
 have hge6 := Nat.le_trans G.size hb3
 replace G := G.tr g5
 clear g5
 refine stp (zA9 (v := .agg #[.int .i64 1, .int .i64 0, .slice (some ⟨bs1, 0, none⟩) 1 1, .slice none 0 0, .slice none 0 0]) (fun w => by kernel_rfl) ?_)
 refine stp ?_
 have hT : NodeR w2 [.int .i64 1, .int .i64 0, .slice (some ⟨bs1, 0, none⟩) 1 1, .slice none 0 0, .slice none 0 0] qH6 := .mk (by simp [inR]) (by simp [inR]) (Row.of_block (n := 1) hc4 rfl rfl (by decide)) (by simp [inR]) (Row.nil _ _) (by simp) (Row.nil _ _) .nil
 refine zD7 rfl (zV8 _ hT 9) ?_
 rw [show qH6.build 9 = (zS1, 0) from qQ3]
 rintro v_ w7 ⟨so_, segs_, rfl, hO_, g_⟩
 replace hc4 := g_.heap hc4
 replace G := G.tr g_
 clear g_
 have hA : zG2 w7 so_ zS1 := hO_.arena (by decide) (by decide)
 obtain ⟨ad1, n1, c1, rfl⟩ := zE0 hO_.out
 clear hO_
 refine qZ 9 ?_
 refine stp (zA9 (v := .agg #[.slice none 0 0, .int .i64 0]) (fun w => by kernel_rfl) ?_)
 refine stp ?_
 refine zD7 rfl (zR4 _ hA qS9 qF8 (ks := []) (a := 0) (RowAt.empty _ _ _) (by simp [inR])) ?_
 rintro v_ w8 ⟨adt, nt, ct, rfl, ht_, -, g_⟩
 obtain ⟨hnt, -, -, Rt⟩ := ht_ qI1
 rw [qS8] at hnt Rt
 replace Rt : RowAt w8 2 adt 1 [.int .i64 0, .int .i64 2] := Rt
 replace hnt : nt = 1 := hnt
 subst hnt
 rw [qI1]
 replace hc4 := g_.heap hc4
 replace hA := hA.grow g_
 replace G := G.tr g_
 clear g_
 refine qZ 9 ?_
 refine stp (zT1 rfl rfl (by first | decide | rfl) ?_)
 refine qZ 3 ?_
 refine stp (zT1 rfl rfl (by first | decide | rfl) ?_)
 refine stp (zJ6 (v := .bool true) rfl rfl rfl ?_)
 refine qZ 2 ?_
 refine stp (zE7 Rt rfl rfl ?_ ?_ ?_); omega; omega
 refine stp (zL5 Rt rfl (by decide) (by decide) (by rfl) ?_)
 refine stp (zA9 (v := .agg #[.int .i64 0, .int .i64 2]) (fun w => by kernel_rfl) ?_)
 refine stp (r_eqlS' (r' := true) rfl rfl (by rfl) (by decide) ?_)
 refine stp (zJ6 (v := .bool true) rfl rfl rfl ?_)
 refine qZ 2 ?_
 refine stp (zA4 (v := .int .u16 0) rfl (zJ0 (qI2 _ hA (by decide) qF8) (y := .int .u16 0) (by rw [qI0])) ?_)
 intro w9 g10
 replace hc4 := g10.heap hc4
 replace hA := hA.grow g10
 replace Rt := Rt.grow g10
 replace G := G.tr g10
 clear g10
 refine stp (zT1 rfl rfl (by first | decide | rfl) ?_)
 refine stp (zJ6 (v := .bool true) rfl rfl rfl ?_)
 refine qZ 1 ?_
 refine stp (zA4 (v := .int .u16 1) rfl (zJ0 (qI2 _ (A := []) ⟨[], ⟨none, 0, rfl, by simp, by simp [maxLen], RowAt.empty _ _ _⟩, fun i s h => by simp at h⟩ (by decide) (by simp)) (y := .int .u16 1) (by rw [yS4])) ?_)
 intro w11 g12
 replace hc4 := g12.heap hc4
 replace hA := hA.grow g12
 replace Rt := Rt.grow g12
 replace G := G.tr g12
 clear g12
 refine stp (zT1 rfl rfl (by first | decide | rfl) ?_)
 refine stp (zJ6 (v := .bool true) rfl rfl rfl ?_)
 refine qZ 3 ?_
 refine stp (zA4 (v := .bool true) rfl (zJ0 (qX8 _ hA (by decide) qF8 hA (by decide) qF8) (y := .bool true) (by rw [yF7])) ?_)
 intro w13 g14
 replace hc4 := g14.heap hc4
 replace hA := hA.grow g14
 replace Rt := Rt.grow g14
 replace G := G.tr g14
 clear g14
 refine stp (zJ6 (v := .bool true) rfl rfl rfl ?_)
 refine qZ 3 ?_
 refine ret1 (zA1 (v := .bool true) rfl) ⟨?_, G⟩
 rfl
theorem yG4 (w : World) {ad ae : Option Addr} {cp cq : Nat} {xs ys : List Int} (R : RowAt w 1 ad xs.length (xs.map (.int .u8))) (hx : ∀ x ∈ xs, inR .u8 x) (hcp : xs.length ≤ cp) (hcp2 : cp ≤ maxLen) (hl : xs.length ≤ 200) (R2 : RowAt w 1 ae ys.length (ys.map (.int .u8))) (hy : ∀ x ∈ ys, inR .u8 x) {k : Int} (k0 : 0 ≤ k) (k1 : k ≤ 255) : Calls Tryz.prog 10 #[.slice ad xs.length cp, .slice ae ys.length cq, .int .u8 k] w (Ret fun v w' => ∃ ado co segs A, v = .slice ado A.length co ∧ OwnA 37 23 w' w.heap.size (.slice ado A.length co) segs A ∧ yM6 xs k A ∧ Grow w w') := by
 have lR2 := R2.lim
 have hri := qH7 (xs := xs) hx
 have G := Grow.rfl' w
 refine zC2 Tryz.func10 Tryz.ntmps10 Tryz.results10 rfl rfl ?_
 refine qZ 9 ?_
 refine stp ?_
 refine qI7 rfl rfl rfl ?_
 rw [if_neg (by omega)]
 refine stp (qF3 rfl rfl (by omega) (by omega) ?_)
 have R1 := R.sliceH (m := xs.length) hcp (Nat.le_refl _) (by decide)
 rw [List.take_of_length_le (by rw [List.length_map]; omega)] at R1
 rw [Int.toNat_natCast]
 generalize (if cp = 0 then ad else ad.map (·.add (0 * 1))) = ad1 at R1 ⊢
 refine stp ?_
 refine zD7 rfl (yF3 _ _ R1 G rfl hx hcp hcp2 (d := 6) (by decide) (Nat.le_refl _)) ?_
 rintro v_ w1 ⟨cells_, ad9, n9, c9, rfl, hX_, -, -, -, -, g_⟩
 have hX := hX_.sees (Sees.seen _ _)
 clear hX_
 replace G := G.tr g_
 clear g_
 obtain ⟨x0, x1, xa, xn, xc, pa, pn, pc, qa, qn, qc, rfl⟩ := hX.cells
 have hX : NodeR w1 [.int .i64 x0, .int .i64 x1, .slice xa xn xc, .slice pa pn pc, .slice qa qn qc] (zS6 xs) := hX
 refine qZ 3 ?_
 refine stp (zA7 ?_)
 intro b2 w3 hb4 hc5 g6
 refine stn (qS hc5 ?_)
 intro w7 hc8 u9
 have g10 := g6.upd u9 hb4
 have hge11 := Nat.le_trans G.size hb4
 replace hX := hX.grow g10
 replace G := G.tr g10
 clear u9 g6 hb4 hc5
 refine qZ 6 ?_
 refine stp (zP1 rfl rfl ?_ ?_ ?_); omega; omega
 refine stp (zF7 rfl ?_ ?_); constructor <;> omega
 refine stp (zB5 rfl rfl ?_ ?_); constructor <;> omega
 refine stp ?_
 have hcal := zV8 _ hX (3 + k % 30)
 have hszp := G.size
 refine zD7 rfl hcal ?_
 rintro v_ w12 ⟨so_, segsp, rfl, hO_, g_⟩
 clear hcal
 replace hX := hX.grow g_
 replace hc8 := g_.heap hc8
 replace G := G.tr g_
 clear g_
 have hOp := hO_.lower hszp
 clear hO_
 obtain ⟨adp, cp, rfl, -⟩ := zR9 hOp.out
 refine qZ 6 ?_
 have hB0 := yM8 (xs := xs) hx hl k
 obtain ⟨B, hB⟩ : ∃ B, B = qF1 xs k := ⟨_, rfl⟩
 rw [← hB] at hB0
 refine qK0 (fun e_ w_ => ∃ (ado : Option Addr) (co : Nat) (segs : List Value), Fr [(1, .slice ae ys.length cq), (6, .slice none 0 0), (9, .slice ado B.length co)] e_ ∧ (OwnA 37 23 w_ w.heap.size (.slice ado B.length co) segs B) ∧ Grow w w_) ?_ ?_
 ·-- the parts
  refine qZ 3 ?_
  refine stp (zG9 rfl rfl ?_)
  refine zA6 ?_
  refine zA2 (b := (decide ((((zS6 xs).build (3 + k % 30)).2) ≠ 0))) rfl (fun h1 => ?_) (fun h1 => ?_)
  ·
   replace h1 := qT h1
   refine qZ 3 ?_
   refine stp ?_
   have hcal := zV8 _ hX 4096
   have hszq := G.size
   refine zD7 rfl hcal ?_
   rintro v_ w13 ⟨so_, segsq, rfl, hO_, g_⟩
   clear hcal
   replace hX := hX.grow g_
   replace hc8 := g_.heap hc8
   replace hOp := hOp.grow g_
   replace G := G.tr g_
   clear g_
   have hOq := hO_.lower hszq
   clear hO_
   obtain ⟨adq, cq, rfl, -⟩ := zR9 hOq.out
   refine qZ 10 ?_
   have hBe : B = ((zS6 xs).build 4096).1 := by rw [hB]; unfold qF1; rw [if_pos h1]
   exact ⟨adq, cq, segsq, zC6 ⟨rfl, rfl, by rw [hBe]; rfl, trivial⟩, (by rw [hBe]; exact hOq), G⟩
  ·
   replace h1 := qF h1
   refine zX6 ?_
   have hBe : B = ((zS6 xs).build (3 + k % 30)).1 := by rw [hB]; unfold qF1; rw [if_neg h1]
   exact ⟨adp, cp, segsp, zC6 ⟨rfl, rfl, by rw [hBe]; rfl, trivial⟩, (by rw [hBe]; exact hOp), G⟩
 ·-- behind them
  clear hX hc8 hOp
  clear G
  rintro e_ w14 ⟨ado, co, segs, ⟨e15, rfl⟩, hO, G⟩
  refine qZ 6 ?_
  refine zF5 (fun m_ e_ w_ => ∃ (m : Nat) (ado : Option Addr) (co : Nat) (segs : List Value) (A : List (List Int)), m_ = 12 - m ∧ Fr [(1, .slice ae ys.length cq), (6, .slice none 0 0), (13, .int .i64 (m : Int)), (9, .slice ado A.length co)] e_ ∧ (m ≤ 15) ∧ (BentA B A) ∧ (OwnA 37 23 w_ w.heap.size (.slice ado A.length co) segs A) ∧ Grow w w_) _ ⟨0, ado, co, segs, B, rfl, zC6 ⟨rfl, rfl, rfl, rfl, trivial⟩, by omega, .refl, hO, G⟩ ?_
  clear hO
  clear G
  rintro m_ e_ w16 ⟨m, ado, co, segs, A, rfl, ⟨e17, rfl⟩, hm15, hA, hO, G⟩
  refine qZ 4 ?_
  refine stp (zB5 rfl rfl ?_ ?_); constructor <;> omega
  refine qZ 2 ?_
  refine stp (zF6 rfl rfl ?_)
  refine qZ 1 ?_
  refine qG 1 ?_
  refine zA3 (zB2 (s := .bool _) (v := .bool (decide ((m : Int) < 12))) rfl (zE2 _) (fun hc19 => ?_) ?_)
  ·
   have hc19_ := qT hc19
   refine zF6 (gvt hc19) rfl ?_
   exact ⟨rfl, rfl⟩
  refine stp (zG8 rfl rfl rfl ?_)
  refine zA6 ?_
  refine zA2 (b := ((decide (((m : Int) + 3) < (ys.length : Int))) && (decide ((m : Int) < 12)))) rfl (fun hlt => ?_) (fun hlt => ?_)
  ·
   simp only [sb] at hlt
   have hd0 := qH1 hy m
   have hd1 := qH1 hy ((m : Int) + 1).toNat
   have hd2 := qH1 hy ((m : Int) + 2).toNat
   have hd3 := qH1 hy ((m : Int) + 3).toNat
   have hAl : A.length = B.length := (BentA.len hA).1
   obtain ⟨ado1, co1, sa, sc, hso, hco1, hco2, RO, hsf⟩ := hO.fn (by omega)
   simp only [Value.slice.injEq, true_and] at hso
   obtain ⟨rfl, rfl⟩ := hso
   obtain ⟨s, hsE⟩ : ∃ s : Nat, (s : Int) = ys.getD m 0 % (A.length : Int) := ⟨(ys.getD m 0 % (A.length : Int)).toNat, by have := Int.emod_nonneg (ys.getD m 0) (show (A.length : Int) ≠ 0 by omega); omega⟩
   have hsA : s < A.length := by have := Int.emod_lt_of_pos (ys.getD m 0) (show 0 < (A.length : Int) by omega); omega
   obtain ⟨hss, hos⟩ := hsf s hsA
   refine qZ 7 ?_
   refine stp (zC8 (R2.grow G) rfl rfl ?_ ?_); omega
   refine stp (zC5 (v := .int .u8 (ys.getD m 0)) (m := 0) (R2.grow G) rfl (zE6 0 (by omega)) ?_)
   refine stp (zF7 rfl ?_ ?_); constructor <;> omega
   refine qZ 2 ?_
   refine stp ?_
   refine zP1 rfl rfl ?_ ?_ ?_; omega; omega
   rw [← hsE]
   refine qZ 7 ?_
   refine stp (zC8 RO rfl rfl ?_ ?_); omega
   refine stp (zC5 (v := .slice (sa s) (len2 A s) (sc s)) (m := 0) RO rfl (by rw [Nat.mul_one]; exact hss) ?_)
   refine qZ 1 ?_
   refine stp (zD5 rfl rfl ?_)
   refine zA6 ?_
   refine zA2 (b := (decide (((len2 A s) : Int) = 0))) rfl (fun h3 => ?_) (fun h3 => ?_)
   ·
    replace h3 := qT h3
    refine qZ 3 ?_
    refine stp (zB5 rfl rfl ?_ ?_); constructor <;> omega
    refine qZ 2 ?_
    refine ⟨_, ?_, m + 4, ado, co, segs, A, rfl, zC6 ⟨rfl, rfl, congrArg (Value.int .i64) (by omega), rfl, trivial⟩, by omega, hA, hO, G⟩
    omega
   ·
    replace h3 := qF h3
    have hs0 : 0 < len2 A s := by omega
    obtain ⟨j, hjE⟩ : ∃ j : Nat, (j : Int) = (ys.getD ((m : Int) + 1).toNat 0) % (len2 A s : Int) := ⟨((ys.getD ((m : Int) + 1).toNat 0) % (len2 A s : Int)).toNat, by have := Int.emod_nonneg (ys.getD ((m : Int) + 1).toNat 0) (show (len2 A s : Int) ≠ 0 by omega); omega⟩
    have hjA : j < len2 A s := by have := Int.emod_lt_of_pos (ys.getD ((m : Int) + 1).toNat 0) (show 0 < (len2 A s : Int) by omega); omega
    refine qZ 2 ?_
    refine zM8 13 [[], [], [0], [2, 1, 0], [3, 2, 1, 0], [4, 3, 2, 1, 0], [], [], [1, 0], [2, 1, 0], [3, 2, 1, 0], [10, 9, 8, 7, 6, 5, 4, 3, 2, 1, 0], [11, 10, 9, 8, 7, 6, 5, 4, 3, 2, 1, 0]] mixed (by kernel_rfl) (by kernel_rfl) (by kernel_rfl) ?_
    intro w20 g21
    replace hO := hO.grow g21
    replace RO := RO.grow g21
    replace G := G.tr g21
    clear g21
    refine qA 2 ?_
    apply zC0
    ·intro w_ g_; refine og rfl ?_; refine zB5 rfl rfl ?_ ?_; constructor <;> omega; exact qX
    apply zC0
    ·intro w_ g_; refine og rfl ?_; refine zE7 (R2.grow (G.tr g_)) rfl rfl ?_ ?_ ?_; omega; omega; exact qX
    apply zC0
    ·intro w_ g_; exact og rfl (zC5 (v := .int .u8 (ys.getD (((m : Int) + 1).toNat) 0)) (m := 0) (R2.grow (G.tr g_)) rfl (zE6 0 (by omega)) qX)
    apply zC0
    ·intro w_ g_; refine og rfl ?_; refine zF7 rfl ?_ ?_; constructor <;> omega; exact qX
    refine qA 2 ?_
    apply zC0
    ·intro w_ g_; refine og rfl ?_; refine zC8 (RO.grow g_) rfl rfl ?_ ?_; omega; exact qX
    apply zC0
    ·intro w_ g_; refine og rfl ?_; refine zC5 (v := .slice (sa s) (len2 A s) (sc s)) (m := 0) (RO.grow g_) rfl (by rw [Nat.mul_one]; exact hss) ?_; exact qX
    refine qA 1 ?_
    apply zC0
    ·intro w_ g_; refine og rfl ?_; refine zP1 rfl rfl ?_ ?_ ?_; omega; omega; rw [← hjE]; exact qX
    refine qA 1 ?_
    refine zI4 ?_
    intro w22 g23
    replace hO := hO.grow g23
    replace RO := RO.grow g23
    replace G := G.tr g23
    clear g23
    refine zA6 ?_
    have hsG := G.size
    obtain ⟨M, hM⟩ : ∃ M, M = w22.heap.size := ⟨_, rfl⟩
    have hMw : M ≤ w22.heap.size := by rw [hM]; exact Nat.le_refl _
    have hwM : w.heap.size ≤ M := by rw [hM]; exact hsG
    clear hM hsG
    obtain ⟨x, hxE⟩ : ∃ x, x = encR (qN8 (ys.getD ((m : Int) + 2).toNat 0) (ys.getD ((m : Int) + 3).toNat 0) A.length) := ⟨_, rfl⟩
    obtain ⟨z, hzE⟩ : ∃ z, z = encE (qN8 (ys.getD ((m : Int) + 2).toNat 0) (ys.getD ((m : Int) + 3).toNat 0) A.length) := ⟨_, rfl⟩
    refine qE9 ?_
    refine zM8 18 [[], [], [0], [2, 1, 0], [3, 2, 1, 0], [4, 3, 2, 1, 0], [5, 4, 3, 2, 1, 0], [6, 5, 4, 3, 2, 1, 0], [], [], [0], [2, 1, 0], [3, 2, 1, 0], [4, 3, 2, 1, 0], [5, 4, 3, 2, 1, 0], [6, 5, 4, 3, 2, 1, 0], [15, 14, 13, 12, 11, 10, 9, 8, 7, 6, 5, 4, 3, 2, 1, 0], []] mixed (by kernel_rfl) (by kernel_rfl) (by kernel_rfl) ?_
    intro w24 g25
    replace hO := hO.grow g25
    replace RO := RO.grow g25
    replace hMw := Nat.le_trans hMw g25.size
    replace G := G.tr g25
    clear g25
    refine qA 2 ?_
    apply zC0
    ·intro w_ g_; refine og rfl ?_; refine zB5 rfl rfl ?_ ?_; constructor <;> omega; exact qX
    apply zC0
    ·intro w_ g_; refine og rfl ?_; refine zE7 (R2.grow (G.tr g_)) rfl rfl ?_ ?_ ?_; omega; omega; exact qX
    apply zC0
    ·intro w_ g_; exact og rfl (zC5 (v := .int .u8 (ys.getD (((m : Int) + 2).toNat) 0)) (m := 0) (R2.grow (G.tr g_)) rfl (zE6 0 (by omega)) qX)
    apply zC0
    ·intro w_ g_; refine og rfl ?_; refine zP1 rfl rfl ?_ ?_ ?_; omega; omega; exact qX
    apply zC0
    ·intro w_ g_; refine og rfl ?_; refine zF7 rfl ?_ ?_; constructor <;> omega; exact qX
    apply zC0
    ·intro w_ g_; refine og rfl ?_; refine zB5 rfl rfl ?_ ?_; constructor <;> omega; exact qX
    refine qA 2 ?_
    apply zC0
    ·intro w_ g_; refine og rfl ?_; refine zB5 rfl rfl ?_ ?_; constructor <;> omega; exact qX
    apply zC0
    ·intro w_ g_; refine og rfl ?_; refine zE7 (R2.grow (G.tr g_)) rfl rfl ?_ ?_ ?_; omega; omega; exact qX
    apply zC0
    ·intro w_ g_; exact og rfl (zC5 (v := .int .u8 (ys.getD (((m : Int) + 3).toNat) 0)) (m := 0) (R2.grow (G.tr g_)) rfl (zE6 0 (by omega)) qX)
    apply zC0
    ·intro w_ g_; refine og rfl ?_; refine zP1 rfl rfl ?_ ?_ ?_; omega; omega; exact qX
    apply zC0
    ·intro w_ g_; refine og rfl ?_; refine zF7 rfl ?_ ?_; constructor <;> omega; exact qX
    apply zC0
    ·intro w_ g_; refine og rfl ?_; refine zM9 rfl rfl ?_ ?_; constructor <;> omega; exact qX
    apply zC0
    ·intro w_ g_; exact og rfl (zA9 (v := .agg #[.int .i64 (1 + ((ys.getD (((m : Int) + 2).toNat) 0) % 3)), .int .i64 (((ys.getD (((m : Int) + 3).toNat) 0) % 16) - 4), .int .i64 0, .int .i64 0, .int .i64 0, .int .i64 0, .int .i64 0, .bool false]) (fun w => by kernel_rfl) qX)
    refine zY2 (fun w_ v_ => ∃ b, v_ = .pointer (some ⟨b, 0, none⟩) ∧ M ≤ b ∧ w_.heap[b]? = some (.cells #[.int .i64 0, .int .i64 0, .int .i64 0, .int .i64 0, .int .i64 0, .int .i64 0, .int .i64 0, .bool false] 70 (0, 0))) (fun _ _ _ g_ ⟨b, h1_, h2_, h3_⟩ => ⟨b, h1_, h2_, g_.heap h3_⟩) ?_ ?_
    ·intro w_ g_
     refine og rfl ?_
     refine zA7 ?_
     intro b_ w2_ hb_ hc_ g2_
     exact ⟨g2_, b_, rfl, Nat.le_trans hMw (Nat.le_trans g_.size hb_), hc_⟩
    refine zI4 ?_
    intro w26 g27
    replace hO := hO.grow g27
    replace RO := RO.grow g27
    replace hMw := Nat.le_trans hMw g27.size
    replace G := G.tr g27
    clear g27
    intro v_p hv_p
    obtain ⟨bp, rfl, hgP, hcP⟩ := hv_p
    have hgQ := Nat.le_trans hwM hgP
    refine stn (qS hcP ?_)
    intro w28 hc29 u30
    replace hO := hO.upd u30 hcP (by decide) (by decide)
    replace RO := (OwnA.rowat hO (by omega)).2
    replace hMw := Nat.le_trans hMw (Nat.le_of_eq u30.size.symm)
    replace G := G.upd u30 hgQ
    clear u30 hcP
    refine qZ 10 ?_
    refine stp (zD5 rfl rfl ?_)
    refine qZ 2 ?_
    refine zA2 (b := (decide ((1 + ((ys.getD (((m : Int) + 2).toNat) 0) % 3)) = 1))) rfl (fun h4 => ?_) (fun h4 => ?_)
    ·
     replace h4 := qT h4
     refine qZ 4 ?_
     refine stp (zB5 rfl rfl ?_ ?_); constructor <;> omega
     refine stp (zE7 (R2.grow G) rfl rfl ?_ ?_ ?_); omega; omega
     refine stp (zC5 (v := .int .u8 (ys.getD (((m : Int) + 2).toNat) 0)) (m := 0) (R2.grow G) rfl (zE6 0 (by omega)) ?_)
     refine stp (zP1 rfl rfl ?_ ?_ ?_); omega; omega
     refine stp (zF7 rfl ?_ ?_); constructor <;> omega
     refine qZ 1 ?_
     refine stn (zB9 (v := .int .i64 ((ys.getD (((m : Int) + 2).toNat) 0) % 4)) rfl rfl (by rfl) hc29 (by rfl) (by rfl) ?_)
     intro w31 hc32 u33
     replace hO := hO.upd u33 hc29 (by decide) (by decide)
     replace RO := (OwnA.rowat hO (by omega)).2
     replace hMw := Nat.le_trans hMw (Nat.le_of_eq u33.size.symm)
     replace G := G.upd u33 hgQ
     clear u33 hc29
     refine qZ 4 ?_
     refine stp (zB5 rfl rfl ?_ ?_); constructor <;> omega
     refine stp (zE7 (R2.grow G) rfl rfl ?_ ?_ ?_); omega; omega
     refine stp (zC5 (v := .int .u8 (ys.getD (((m : Int) + 2).toNat) 0)) (m := 0) (R2.grow G) rfl (zE6 0 (by omega)) ?_)
     refine stp (qA0 rfl rfl ?_ ?_ ?_ ?_); omega; omega; (constructor <;> omega)
     refine stp (zF7 rfl ?_ ?_); constructor <;> omega
     refine qZ 1 ?_
     refine stn (zB9 (v := .int .i64 ((ys.getD (((m : Int) + 2).toNat) 0) / 64)) rfl rfl (by rfl) hc32 (by rfl) (by rfl) ?_)
     intro w34 hc35 u36
     replace hO := hO.upd u36 hc32 (by decide) (by decide)
     replace RO := (OwnA.rowat hO (by omega)).2
     replace hMw := Nat.le_trans hMw (Nat.le_of_eq u36.size.symm)
     replace G := G.upd u36 hgQ
     clear u36 hc32
     refine qZ 4 ?_
     refine stp ?_
     have hP : (⟨1 + ((ys.getD (((m : Int) + 2).toNat) 0) % 3), ((ys.getD (((m : Int) + 3).toNat) 0) % 16) - 4, (ys.getD (((m : Int) + 2).toNat) 0) % 4, (ys.getD (((m : Int) + 2).toNat) 0) / 64, 0, 0, 0, false⟩ : Pt) = qN8 (ys.getD ((m : Int) + 2).toNat 0) (ys.getD ((m : Int) + 3).toNat 0) A.length := by unfold qN8; rw [if_pos (by omega)]; rw [show 1 + (ys.getD ((m : Int) + 2).toNat 0) % 3 = 1 from by omega]
     refine zA4 (v := .tuple #[.int .u64 x, .int .i64 z]) rfl (zJ0 (zK0 _ ⟨1 + ((ys.getD (((m : Int) + 2).toNat) 0) % 3), ((ys.getD (((m : Int) + 3).toNat) 0) % 16) - 4, (ys.getD (((m : Int) + 2).toNat) 0) % 4, (ys.getD (((m : Int) + 2).toNat) 0) / 64, 0, 0, 0, false⟩) (y := .tuple #[.int .u64 x, .int .i64 z]) (by rw [hP, ← hxE, ← hzE])) ?_
     intro w37 g38
     replace hO := hO.grow g38
     replace RO := RO.grow g38
     replace hMw := Nat.le_trans hMw g38.size
     replace hc35 := g38.heap hc35
     replace G := G.tr g38
     clear g38
     refine qZ 9 ?_
     refine stp (zC8 RO rfl rfl ?_ ?_); omega
     refine stp (zC5 (v := .slice (sa s) (len2 A s) (sc s)) (m := 0) RO rfl (by rw [Nat.mul_one]; exact hss) ?_)
     refine qZ 2 ?_
     refine stp ?_
     have hos9 := hO.seg s _ _ hss (List.getElem?_eq_getElem hsA)
     have hlen9 : len2 A s = A[s].length := by rw [len2, zE5 hsA]
     obtain ⟨g5, c5, cur5, he5, hg5b, hg5, hc51, hc52, hc53, hc54⟩ := zT5 hos9 (by omega)
     simp only [Value.slice.injEq] at he5
     obtain ⟨hsa, -, hsc⟩ := he5
     refine zH2 (b := g5) (o := 0) (n := len2 A s) (c := sc s) (i := (j : Int)) (show _ = _ from congrArg (fun a_ => Value.slice a_ (len2 A s) (sc s)) hsa) rfl (by omega) (by omega) ?_
     rw [Int.toNat_natCast, Nat.zero_add, Nat.mul_one]
     refine stn (zB9 (v := .int .u64 x) rfl rfl rfl hg5 (Nat.ble_eq_true_of_le (by omega)) rfl ?_)
     intro w7 hs6 u7
     rw [hsa, hlen9] at hss
     have hO7 := hO.setw (i := j) (x := x) (by decide) (List.getElem?_eq_getElem hsA) hss hg5 hs6 (by simp) u7
     replace G := G.upd u7 hg5b
     have hset : A.set s (A[s].set j x) = setP A s j x := by unfold setP; rw [zE5 hsA]
     rw [hset] at hO7
     refine qZ 3 ?_
     refine stp (zB5 rfl rfl ?_ ?_); constructor <;> omega
     refine qZ 2 ?_
     have hln := zE4 A s j x
     rw [show (Value.slice ado A.length co) = .slice ado (setP A s j x).length co from by rw [hln]] at hO7
     refine ⟨_, ?_, m + 4, ado, co, segs, setP A s j x, rfl, zC6 ⟨rfl, rfl, congrArg (Value.int .i64) (by omega), by rw [hln]; rfl, trivial⟩, by omega, by rw [hxE]; exact .put hA hsA hjA hd2.1 hd2.2 hd3.1 hd3.2, hO7, G⟩
     omega
    ·
     replace h4 := qF h4
     refine qZ 2 ?_
     refine stp (zD5 rfl rfl ?_)
     refine qZ 2 ?_
     refine zA2 (b := (decide ((1 + ((ys.getD (((m : Int) + 2).toNat) 0) % 3)) = 2))) rfl (fun h5 => ?_) (fun h5 => ?_)
     ·
      replace h5 := qT h5
      refine qZ 2 ?_
      refine stp (zC3 (cs := #[.int .i64 2, .int .i64 5, .int .i64 6, .int .i64 3]) (el := 3) (fun w => by kernel_rfl) ?_)
      intro bs39 w40 hb41 hc42 g43
      have hge44 := Nat.le_trans G.size hb41
      have ne45 := qN hc29 hb41
      replace hO := hO.grow g43
      replace RO := RO.grow g43
      replace hMw := Nat.le_trans hMw g43.size
      replace hc29 := g43.heap hc29
      replace G := G.tr g43
      clear g43
      refine qZ 2 ?_
      refine stp (zB5 rfl rfl ?_ ?_); constructor <;> omega
      refine stp (zE7 (R2.grow G) rfl rfl ?_ ?_ ?_); omega; omega
      refine stp (zC5 (v := .int .u8 (ys.getD (((m : Int) + 2).toNat) 0)) (m := 0) (R2.grow G) rfl (zE6 0 (by omega)) ?_)
      refine stp (zP1 rfl rfl ?_ ?_ ?_); omega; omega
      refine stp ?_
      have RL := Row.of_block (n := 4) (sz := 1) hc42 rfl rfl (by decide)
      obtain ⟨_, _, hr_, -, -, RL⟩ := RL
      cases hr_
      refine zE7 RL rfl rfl ?_ ?_ ?_; omega; omega
      refine stp (zC5 (v := .int .i64 (yF5 ((ys.getD ((m : Int) + 2).toNat 0) % 4))) (m := 0) RL rfl (yR5 _ (by omega) (by omega)) ?_)
      refine qZ 1 ?_
      refine stn (zB9 (v := .int .i64 (yF5 ((ys.getD ((m : Int) + 2).toNat 0) % 4))) rfl rfl (by rfl) hc29 (by rfl) (by rfl) ?_)
      intro w46 hc47 u48
      replace hO := hO.upd u48 hc29 (by decide) (by decide)
      replace RO := (OwnA.rowat hO (by omega)).2
      replace hMw := Nat.le_trans hMw (Nat.le_of_eq u48.size.symm)
      replace hc42 := u48.heap hc42 ne45.symm
      replace G := G.upd u48 hgQ
      clear u48 hc29
      refine qZ 4 ?_
      refine stp (zB5 rfl rfl ?_ ?_); constructor <;> omega
      refine stp (zE7 (R2.grow G) rfl rfl ?_ ?_ ?_); omega; omega
      refine stp (zC5 (v := .int .u8 (ys.getD (((m : Int) + 2).toNat) 0)) (m := 0) (R2.grow G) rfl (zE6 0 (by omega)) ?_)
      refine stp (qA0 rfl rfl ?_ ?_ ?_ ?_); omega; omega; (constructor <;> omega)
      refine stp (zF7 rfl ?_ ?_); constructor <;> omega
      refine qZ 1 ?_
      refine stn (zB9 (v := .int .i64 ((ys.getD (((m : Int) + 2).toNat) 0) / 16)) rfl rfl (by rfl) hc47 (by rfl) (by rfl) ?_)
      intro w49 hc50 u51
      replace hO := hO.upd u51 hc47 (by decide) (by decide)
      replace RO := (OwnA.rowat hO (by omega)).2
      replace hMw := Nat.le_trans hMw (Nat.le_of_eq u51.size.symm)
      replace hc42 := u51.heap hc42 ne45.symm
      replace G := G.upd u51 hgQ
      clear u51 hc47
      refine qZ 4 ?_
      refine stp ?_
      have hP : (⟨1 + ((ys.getD (((m : Int) + 2).toNat) 0) % 3), ((ys.getD (((m : Int) + 3).toNat) 0) % 16) - 4, 0, 0, yF5 ((ys.getD ((m : Int) + 2).toNat 0) % 4), (ys.getD (((m : Int) + 2).toNat) 0) / 16, 0, false⟩ : Pt) = qN8 (ys.getD ((m : Int) + 2).toNat 0) (ys.getD ((m : Int) + 3).toNat 0) A.length := by unfold qN8; rw [if_neg (by omega), if_pos (by omega)]; rw [show 1 + (ys.getD ((m : Int) + 2).toNat 0) % 3 = 2 from by omega]
      refine zA4 (v := .tuple #[.int .u64 x, .int .i64 z]) rfl (zJ0 (zK0 _ ⟨1 + ((ys.getD (((m : Int) + 2).toNat) 0) % 3), ((ys.getD (((m : Int) + 3).toNat) 0) % 16) - 4, 0, 0, yF5 ((ys.getD ((m : Int) + 2).toNat 0) % 4), (ys.getD (((m : Int) + 2).toNat) 0) / 16, 0, false⟩) (y := .tuple #[.int .u64 x, .int .i64 z]) (by rw [hP, ← hxE, ← hzE])) ?_
      intro w52 g53
      replace hO := hO.grow g53
      replace RO := RO.grow g53
      replace hMw := Nat.le_trans hMw g53.size
      replace hc42 := g53.heap hc42
      replace hc50 := g53.heap hc50
      replace G := G.tr g53
      clear g53
      refine qZ 9 ?_
      refine stp (zC8 RO rfl rfl ?_ ?_); omega
      refine stp (zC5 (v := .slice (sa s) (len2 A s) (sc s)) (m := 0) RO rfl (by rw [Nat.mul_one]; exact hss) ?_)
      refine qZ 2 ?_
      refine stp ?_
      have hos9 := hO.seg s _ _ hss (List.getElem?_eq_getElem hsA)
      have hlen9 : len2 A s = A[s].length := by rw [len2, zE5 hsA]
      obtain ⟨g5, c5, cur5, he5, hg5b, hg5, hc51, hc52, hc53, hc54⟩ := zT5 hos9 (by omega)
      simp only [Value.slice.injEq] at he5
      obtain ⟨hsa, -, hsc⟩ := he5
      refine zH2 (b := g5) (o := 0) (n := len2 A s) (c := sc s) (i := (j : Int)) (show _ = _ from congrArg (fun a_ => Value.slice a_ (len2 A s) (sc s)) hsa) rfl (by omega) (by omega) ?_
      rw [Int.toNat_natCast, Nat.zero_add, Nat.mul_one]
      refine stn (zB9 (v := .int .u64 x) rfl rfl rfl hg5 (Nat.ble_eq_true_of_le (by omega)) rfl ?_)
      intro w7 hs6 u7
      rw [hsa, hlen9] at hss
      have hO7 := hO.setw (i := j) (x := x) (by decide) (List.getElem?_eq_getElem hsA) hss hg5 hs6 (by simp) u7
      replace G := G.upd u7 hg5b
      have hset : A.set s (A[s].set j x) = setP A s j x := by unfold setP; rw [zE5 hsA]
      rw [hset] at hO7
      refine qZ 3 ?_
      refine stp (zB5 rfl rfl ?_ ?_); constructor <;> omega
      refine qZ 2 ?_
      have hln := zE4 A s j x
      rw [show (Value.slice ado A.length co) = .slice ado (setP A s j x).length co from by rw [hln]] at hO7
      refine ⟨_, ?_, m + 4, ado, co, segs, setP A s j x, rfl, zC6 ⟨rfl, rfl, congrArg (Value.int .i64) (by omega), by rw [hln]; rfl, trivial⟩, by omega, by rw [hxE]; exact .put hA hsA hjA hd2.1 hd2.2 hd3.1 hd3.2, hO7, G⟩
      omega
     ·
      replace h5 := qF h5
      refine qZ 4 ?_
      refine stp (zB5 rfl rfl ?_ ?_); constructor <;> omega
      refine stp (zE7 (R2.grow G) rfl rfl ?_ ?_ ?_); omega; omega
      refine stp (zC5 (v := .int .u8 (ys.getD (((m : Int) + 3).toNat) 0)) (m := 0) (R2.grow G) rfl (zE6 0 (by omega)) ?_)
      refine stp (zP1 rfl rfl ?_ ?_ ?_); omega; omega
      refine stp (zF7 rfl ?_ ?_); constructor <;> omega
      refine qZ 1 ?_
      refine stn (zB9 (v := .int .i64 ((ys.getD (((m : Int) + 3).toNat) 0) % 12)) rfl rfl (by rfl) hc29 (by rfl) (by rfl) ?_)
      intro w54 hc55 u56
      replace hO := hO.upd u56 hc29 (by decide) (by decide)
      replace RO := (OwnA.rowat hO (by omega)).2
      replace hMw := Nat.le_trans hMw (Nat.le_of_eq u56.size.symm)
      replace G := G.upd u56 hgQ
      clear u56 hc29
      refine qZ 5 ?_
      refine stp (zB5 rfl rfl ?_ ?_); constructor <;> omega
      refine stp (zE7 (R2.grow G) rfl rfl ?_ ?_ ?_); omega; omega
      refine stp (zC5 (v := .int .u8 (ys.getD (((m : Int) + 2).toNat) 0)) (m := 0) (R2.grow G) rfl (zE6 0 (by omega)) ?_)
      refine stp (qA0 rfl rfl ?_ ?_ ?_ ?_); omega; omega; (constructor <;> omega)
      refine stp (zF7 rfl ?_ ?_); constructor <;> omega
      refine qZ 2 ?_
      refine stp (zB5 rfl rfl ?_ ?_); constructor <;> omega
      refine stp (zP1 rfl rfl ?_ ?_ ?_); omega; omega
      refine qZ 1 ?_
      refine stn (zB9 (v := .int .i64 (((ys.getD (((m : Int) + 2).toNat) 0) / 3) % ((A.length : Int) + 1))) rfl rfl (by rfl) hc55 (by rfl) (by rfl) ?_)
      intro w57 hc58 u59
      replace hO := hO.upd u59 hc55 (by decide) (by decide)
      replace RO := (OwnA.rowat hO (by omega)).2
      replace hMw := Nat.le_trans hMw (Nat.le_of_eq u59.size.symm)
      replace G := G.upd u59 hgQ
      clear u59 hc55
      refine qZ 4 ?_
      refine stp (zB5 rfl rfl ?_ ?_); constructor <;> omega
      refine stp (zE7 (R2.grow G) rfl rfl ?_ ?_ ?_); omega; omega
      refine stp (zC5 (v := .int .u8 (ys.getD (((m : Int) + 2).toNat) 0)) (m := 0) (R2.grow G) rfl (zE6 0 (by omega)) ?_)
      refine stp (zP1 rfl rfl ?_ ?_ ?_); omega; omega
      refine stp (zD5 rfl rfl ?_)
      refine qZ 1 ?_
      refine stn (zB9 (v := .bool (decide (((ys.getD (((m : Int) + 2).toNat) 0) % 2) = 1))) rfl rfl (by rfl) hc58 (by rfl) (by rfl) ?_)
      intro w60 hc61 u62
      replace hO := hO.upd u62 hc58 (by decide) (by decide)
      replace RO := (OwnA.rowat hO (by omega)).2
      replace hMw := Nat.le_trans hMw (Nat.le_of_eq u62.size.symm)
      replace G := G.upd u62 hgQ
      clear u62 hc58
      refine qZ 4 ?_
      refine stp ?_
      have hP : (⟨1 + ((ys.getD (((m : Int) + 2).toNat) 0) % 3), (ys.getD (((m : Int) + 3).toNat) 0) % 12, 0, 0, 0, 0, ((ys.getD (((m : Int) + 2).toNat) 0) / 3) % ((A.length : Int) + 1), (decide (((ys.getD (((m : Int) + 2).toNat) 0) % 2) = 1))⟩ : Pt) = qN8 (ys.getD ((m : Int) + 2).toNat 0) (ys.getD ((m : Int) + 3).toNat 0) A.length := by unfold qN8; rw [if_neg (by omega), if_neg (by omega)]; rw [show 1 + (ys.getD ((m : Int) + 2).toNat 0) % 3 = 3 from by omega]
      refine zA4 (v := .tuple #[.int .u64 x, .int .i64 z]) rfl (zJ0 (zK0 _ ⟨1 + ((ys.getD (((m : Int) + 2).toNat) 0) % 3), (ys.getD (((m : Int) + 3).toNat) 0) % 12, 0, 0, 0, 0, ((ys.getD (((m : Int) + 2).toNat) 0) / 3) % ((A.length : Int) + 1), (decide (((ys.getD (((m : Int) + 2).toNat) 0) % 2) = 1))⟩) (y := .tuple #[.int .u64 x, .int .i64 z]) (by rw [hP, ← hxE, ← hzE])) ?_
      intro w63 g64
      replace hO := hO.grow g64
      replace RO := RO.grow g64
      replace hMw := Nat.le_trans hMw g64.size
      replace hc61 := g64.heap hc61
      replace G := G.tr g64
      clear g64
      refine qZ 9 ?_
      refine stp (zC8 RO rfl rfl ?_ ?_); omega
      refine stp (zC5 (v := .slice (sa s) (len2 A s) (sc s)) (m := 0) RO rfl (by rw [Nat.mul_one]; exact hss) ?_)
      refine qZ 2 ?_
      refine stp ?_
      have hos9 := hO.seg s _ _ hss (List.getElem?_eq_getElem hsA)
      have hlen9 : len2 A s = A[s].length := by rw [len2, zE5 hsA]
      obtain ⟨g5, c5, cur5, he5, hg5b, hg5, hc51, hc52, hc53, hc54⟩ := zT5 hos9 (by omega)
      simp only [Value.slice.injEq] at he5
      obtain ⟨hsa, -, hsc⟩ := he5
      refine zH2 (b := g5) (o := 0) (n := len2 A s) (c := sc s) (i := (j : Int)) (show _ = _ from congrArg (fun a_ => Value.slice a_ (len2 A s) (sc s)) hsa) rfl (by omega) (by omega) ?_
      rw [Int.toNat_natCast, Nat.zero_add, Nat.mul_one]
      refine stn (zB9 (v := .int .u64 x) rfl rfl rfl hg5 (Nat.ble_eq_true_of_le (by omega)) rfl ?_)
      intro w7 hs6 u7
      rw [hsa, hlen9] at hss
      have hO7 := hO.setw (i := j) (x := x) (by decide) (List.getElem?_eq_getElem hsA) hss hg5 hs6 (by simp) u7
      replace G := G.upd u7 hg5b
      have hset : A.set s (A[s].set j x) = setP A s j x := by unfold setP; rw [zE5 hsA]
      rw [hset] at hO7
      refine qZ 3 ?_
      refine stp (zB5 rfl rfl ?_ ?_); constructor <;> omega
      refine qZ 2 ?_
      have hln := zE4 A s j x
      rw [show (Value.slice ado A.length co) = .slice ado (setP A s j x).length co from by rw [hln]] at hO7
      refine ⟨_, ?_, m + 4, ado, co, segs, setP A s j x, rfl, zC6 ⟨rfl, rfl, congrArg (Value.int .i64) (by omega), by rw [hln]; rfl, trivial⟩, by omega, by rw [hxE]; exact .put hA hsA hjA hd2.1 hd2.2 hd3.1 hd3.2, hO7, G⟩
      omega
  ·
   simp only [sb] at hlt
   refine qZ 7 ?_
   refine ret1 (zA1 (v := .slice ado A.length co) rfl) ⟨ado, co, segs, A, rfl, hO, by rw [hB] at hA; exact hA, G⟩
theorem yG5 (w : World) {n cp : Nat} {ad : Option Addr} {xs : List Int} {at_ : Int} (R : RowAt w 1 ad n (xs.map (.int .u8))) (hn : n = xs.length) (hx : isU8 xs) (a0 : 0 ≤ at_) (a1 : at_ ≤ 255) : Calls Tryz.prog 11 #[.slice ad n cp, .int .u8 at_] w (Ret fun v w' => ∃ ad2 c2, v = .agg #[.slice ad2 (yD2 xs).length c2, .int .i64 (at_ % 12 - 2)] ∧ RowAt w' 1 ad2 (yD2 xs).length ((yD2 xs).map (.int .i64)) ∧ Grow w w') := by
 have ll := R.lim
 have G := Grow.rfl' w
 refine zC2 Tryz.func11 Tryz.ntmps11 Tryz.results11 rfl rfl ?_
 refine qZ 2 ?_
 refine stp (zA7 ?_)
 intro b1 w2 hb3 hc4 g5
 refine qZ 4 ?_
 refine stp (zP1 rfl rfl ?_ ?_ ?_); omega; omega
 refine stp (zF7 rfl ?_ ?_); constructor <;> omega
 refine stp (zM9 rfl rfl ?_ ?_); constructor <;> omega
 refine stp (zA9 (v := .agg #[.slice none 0 0, .int .i64 ((at_ % 12) - 2)]) (fun w => by kernel_rfl) ?_)
 have hge6 := Nat.le_trans G.size hb3
 replace G := G.tr g5
 clear g5 hb3
 refine stp (zA7 ?_)
 intro b7 w8 hb9 hc10 g11
 refine stn (qS hc10 ?_)
 intro w12 hc13 u14
 have g15 := g11.upd u14 hb9
 have hge16 := Nat.le_trans G.size hb9
 have ne17 := qN hc4 hb9
 replace hc4 := g15.heap hc4
 replace G := G.tr g15
 clear u14 g11 hb9 hc10
 refine qZ 7 ?_
 refine zF5 (fun m_ e_ w_ => ∃ (k : Nat) (ad3 : Option Addr) (n3 : Nat) (c3 : Nat), m_ = 6 - k ∧ Fr [(0, .slice ad n cp), (4, .pointer (some ⟨b1, 0, none⟩)), (5, .pointer (some ⟨b7, 0, none⟩)), (6, .int .i64 (k : Int))] e_ ∧ (k ≤ 6 ∧ k ≤ xs.length) ∧ (w_.heap[b1]? = some (.cells #[.slice none 0 0, .int .i64 0] 30 (0, 0))) ∧ (w_.heap[b7]? = some (.cells #[.slice ad3 n3 c3, .int .i64 (at_ % 12 - 2)] 30 (0, 0))) ∧ (w_.ownsRow w.heap.size 3 1 (.slice ad3 n3 c3) k (((xs.take k).map (· % 6)).map (.int .i64))) ∧ Grow w w_) _ ⟨0, none, 0, 0, rfl, zC6 ⟨rfl, rfl, rfl, rfl, trivial⟩, by omega, hc4, hc13, World.ownsRow_nil _ _ _ _, G⟩ ?_
 clear hc4 hc13
 clear G
 rintro m_ e_ w18 ⟨k, ad3, n3, c3, rfl, ⟨e19, rfl⟩, hk, hc4, hc13, own, G⟩
 refine qZ 6 ?_
 refine stp (zF6 rfl rfl ?_)
 refine qZ 1 ?_
 refine qG 1 ?_
 refine zA3 (zB2 (s := .bool _) (v := .bool (decide ((k : Int) < 6))) rfl (zE2 _) (fun hc21 => ?_) ?_)
 ·
  have hc21_ := qT hc21
  refine zF6 (gvt hc21) rfl ?_
  exact ⟨rfl, rfl⟩
 refine stp (zG8 rfl rfl rfl ?_)
 refine zA6 ?_
 refine zA2 (b := ((decide ((k : Int) < (n : Int))) && (decide ((k : Int) < 6)))) rfl (fun hlt => ?_) (fun hlt => ?_)
 ·
  simp only [sb] at hlt
  obtain ⟨h1a, h1b⟩ := hlt
  have hu := qH1 hx k
  have hkx : k < xs.length := by omega
  refine qZ 3 ?_
  refine zM8 9 [[], [0], [], [], [1, 0], [2, 1, 0], [3, 2, 1, 0], [4, 3, 2, 1, 0], [5, 4, 3, 2, 1, 0]] mixed (by kernel_rfl) (by kernel_rfl) (by kernel_rfl) ?_
  intro w22 g23
  replace hc4 := g23.heap hc4
  replace hc13 := g23.heap hc13
  replace own := zB7 own g23
  replace G := G.tr g23
  clear g23
  refine qA 4 ?_
  apply zC0
  ·intro w_ g_; refine og rfl ?_; refine zC8 (R.grow (G.tr g_)) rfl rfl ?_ ?_; omega; exact qX
  apply zC0
  ·intro w_ g_; exact og rfl (zC5 (v := .int .u8 (xs.getD k 0)) (m := 0) (R.grow (G.tr g_)) rfl (zE6 0 (by omega)) qX)
  apply zC0
  ·intro w_ g_; refine og rfl ?_; refine zP1 rfl rfl ?_ ?_ ?_; omega; omega; exact qX
  apply zC0
  ·intro w_ g_; refine og rfl ?_; refine zF7 rfl ?_ ?_; constructor <;> omega; exact qX
  refine zY2 (fun w_ v_ => Row w_ 1 v_ 1 [.int .i64 (xs.getD k 0 % 6)]) (fun _ _ _ g_ h_ => h_.grow g_) ?_ ?_
  ·intro w_ g_
   refine og rfl ?_
   refine zC3 (cs := #[.int .i64 (xs.getD k 0 % 6)]) (el := 3) (fun w => by kernel_rfl) ?_
   intro bs_ w2_ hb_ hc_ g2_
   exact ⟨g2_, Row.of_block (n := 1) hc_ rfl rfl (by omega)⟩
  refine zI4 ?_
  intro w24 g25
  replace hc4 := g25.heap hc4
  replace hc13 := g25.heap hc13
  replace own := zB7 own g25
  replace G := G.tr g25
  clear g25
  intro v_l hv_l
  refine stp (zG1 rfl rfl rfl rfl own hv_l (fun q_ hq_ => by simp at hq_; subst hq_; rfl) (by simp only [maxLen]; omega) (by omega) G.size ?_)
  intro v26 w27 own6 gr6
  replace G := G.grown gr6 (zH8 own)
  replace hc4 := zI1 gr6 hc4 (zF3 own hc4 (by decide))
  replace hc13 := zI1 gr6 hc13 (zF3 own hc13 (by decide))
  clear own gr6
  obtain ⟨ad4, n4, c4, rfl⟩ := zE0 own6
  refine qZ 1 ?_
  refine stn (zB9 (v := .slice ad4 n4 c4) rfl rfl (by rfl) hc13 (by rfl) (by rfl) ?_)
  intro w28 hc29 u30
  replace hc4 := u30.heap hc4 ne17
  replace own6 := zG5 own6 u30 (zF3 own6 hc13 (by decide))
  replace G := G.upd u30 hge16
  clear u30 hc13
  refine qZ 3 ?_
  refine stp (zB5 rfl rfl ?_ ?_); constructor <;> omega
  refine qZ 2 ?_
  refine ⟨_, ?_, k + 1, ad4, n4, c4, rfl, zC6 ⟨rfl, rfl, rfl, congrArg (Value.int .i64) (by omega), trivial⟩, by omega, hc4, hc29, (by rw [List.take_add_one, List.getElem?_eq_getElem hkx, Option.toList_some, List.map_append, List.map_append]; rw [zE5 hkx] at own6; exact own6), G⟩
  omega
 ·
  simp only [sb] at hlt
  have hk6 : k = min 6 xs.length := by omega
  have htk : xs.take k = xs.take 6 := by rw [hk6]; rcases Nat.le_total 6 xs.length with h_ | h_; (rw [Nat.min_eq_left h_]); (rw [Nat.min_eq_right h_, List.take_length, List.take_of_length_le h_])
  have hpl : (yD2 xs).length = k := by simp only [yD2, List.length_map, List.length_take]; omega
  refine qZ 4 ?_
  refine stn (qS hc4 ?_)
  intro w31 hc32 u33
  replace hc13 := u33.heap hc13 ne17.symm
  replace own := zG5 own u33 (zF3 own hc4 (by decide))
  replace G := G.upd u33 hge6
  clear u33 hc4
  refine qZ 2 ?_
  obtain ⟨ad9, c9, hs9, -, -, R9⟩ := zI3 own (by omega)
  simp only [Value.slice.injEq] at hs9
  obtain ⟨rfl, rfl, rfl⟩ := hs9
  rw [htk] at R9
  refine ret1 (zA5 rfl hc32 (by rfl)) ⟨_, _, by rw [hpl], by rw [hpl]; exact R9, G⟩
end Go.Proofs.YtkkbbhpbcfcplaaGreat.K
namespace Go.Proofs.YtkkbbhpbcfcplaaGreat.K
open Go Go.RowKit
def hasP (L : List Spn) (x : Int) : Bool := L.any fun s => decide (s.1 ≤ x) && decide (x < s.2)
theorem qF9 {L : List Spn} {x : Int} : hasP L x = true ↔ inS L x := by
  unfold hasP inS
  simp [List.any_eq_true]
theorem yY8 {L : List Spn} {k : Nat} {x : Int} (h : k < L.length) (h1 : (gS L k).1 ≤ x) (h2 : x < (gS L k).2) : hasP L x = true :=
  qF9.2 ⟨L[k], List.getElem_mem h, by rw [← zO1 h]; exact h1, by rw [← zO1 h]; exact h2⟩
theorem yY9 {L : List Spn} {x : Int} (h : ∀ k, k < L.length → ¬ ((gS L k).1 ≤ x ∧ x < (gS L k).2)) : hasP L x = false := by
  cases hp : hasP L x with
  | false => rfl
  | true =>
    obtain ⟨s, hs, h1, h2⟩ := qF9.1 hp
    obtain ⟨k, hk, rfl⟩ := List.getElem_of_mem hs
    exact absurd ⟨by rw [zO1 hk]; exact h1, by rw [zO1 hk]; exact h2⟩ (h k hk)
theorem yZ0 {A B : List Spn} (hl : A.length = B.length) (h : ∀ i, i < A.length → gS A i = gS B i) : A = B := by
  refine List.ext_getElem hl fun i h1 h2 => ?_
  have := h i h1
  rw [zO1 h1, zO1 h2] at this
  exact this
end Go.Proofs.YtkkbbhpbcfcplaaGreat.K
namespace Go.Proofs.YtkkbbhpbcfcplaaGreat.K
open Go Go.RowKit Go.Proofs
attribute [local irreducible] Run1 OpG WL W AO zB6
theorem qY6 (w : World) {ad : Option Addr} {n c : Nat} {L : List Spn} {x : Int} (R : RowAt w 2 ad n (encL L)) : zB6 Tryz.prog 13 #[.slice ad n c, .int .i64 x] w (.bool (hasP L x)) := by
 have hLn := qC1 R
 have lR := R.lim
 have G := Grow.rfl' w
 refine zA8 Tryz.func13 Tryz.ntmps13 Tryz.results13 rfl rfl ?_
 refine qZ 10 ?_
 refine zF5 (fun m_ e_ w_ => ∃ (k : Nat), m_ = n - k ∧ Fr [(0, .slice ad n c), (1, .int .i64 x), (5, .int .i64 (k : Int))] e_ ∧ (k ≤ n) ∧ (∀ j, j < k → ¬ ((gS L j).1 ≤ x ∧ x < (gS L j).2)) ∧ Grow w w_) _ ⟨0, rfl, zC6 ⟨rfl, rfl, rfl, trivial⟩, by omega, fun j hj => by omega, G⟩ ?_
 clear G
 rintro m_ e_ w1 ⟨k, rfl, ⟨e2, rfl⟩, hk, hno, G⟩
 refine qZ 6 ?_
 refine stp (zF6 rfl rfl ?_)
 refine zA6 ?_
 refine zA2 (b := (decide ((k : Int) < (n : Int)))) rfl (fun hlt => ?_) (fun hlt => ?_)
 ·
  replace hlt := qT hlt
  refine qZ 8 ?_
  refine stp (zC8 (R.grow G) rfl rfl ?_ ?_); omega
  refine stp (qB3 rfl ?_)
  refine stp (zC5 (v := .int .i64 ((gS L k).1)) (m := 0) (R.grow G) rfl (yX2 R (by omega)) ?_)
  refine stp (zP7 rfl rfl ?_)
  refine qZ 1 ?_
  refine qG 3 ?_
  refine zA3 (zB2 (s := .bool _) (v := .pointer (some (eadr ad (k * 2)))) rfl (zE2 _) (fun hc6 => ?_) ?_)
  ·
   have hc6_ := qT hc6
   refine zC8 (R.grow G) (gvt hc6) (gvt hc6) ?_ ?_; omega
   exact ⟨rfl, rfl⟩
  refine zA3 (zB2 (s := .bool _) (v := .pointer (some (eadr ad (k * 2 + 1)))) rfl (zE2 _) (fun hc7 => ?_) ?_)
  ·
   have hc7_ := qT hc7
   refine qB3 (gvt hc7) ?_
   exact ⟨rfl, rfl⟩
  refine zA3 (zB2 (s := .bool _) (v := .int .i64 ((gS L k).2)) rfl (zE2 _) (fun hc8 => ?_) ?_)
  ·
   have hc8_ := qT hc8
   refine zC5 (v := .int .i64 ((gS L k).2)) (m := 0) (R.grow G) (gvt hc8) (yX3 R (by omega)) ?_
   exact ⟨rfl, rfl⟩
  refine zA3 (zB2 (s := .bool _) (v := .bool (decide (x < ((gS L k).2)))) rfl (zE2 _) (fun hc9 => ?_) ?_)
  ·
   have hc9_ := qT hc9
   refine zF6 (gvt hc9) (gvt hc9) ?_
   exact ⟨rfl, rfl⟩
  refine stp (zG8 rfl rfl rfl ?_)
  refine zA6 ?_
  refine zA2 (b := ((decide (x ≥ ((gS L k).1))) && (decide (x < ((gS L k).2))))) rfl (fun hx => ?_) (fun hx => ?_)
  ·
   simp only [sb] at hx
   have hin : (gS L k).1 ≤ x ∧ x < (gS L k).2 := by first | omega | simpa using hx
   refine qZ 5 ?_
   refine ret1 (zA1 (v := .bool true) rfl) ⟨?_, G⟩
   rw [yY8 (k := k) (by omega) hin.1 hin.2]
  ·
   simp only [sb] at hx
   have hout : ¬ ((gS L k).1 ≤ x ∧ x < (gS L k).2) := by first | omega | simpa using hx | (intro h_; simp only [ge_iff_le, h_.1, h_.2] at hx; simp at hx)
   refine qZ 3 ?_
   refine stp (zB5 rfl rfl ?_ ?_); constructor <;> omega
   refine qZ 2 ?_
   refine ⟨_, ?_, k + 1, rfl, zC6 ⟨rfl, rfl, rfl, trivial⟩, by omega, fun j hj => by rcases Nat.lt_succ_iff_lt_or_eq.1 hj with h | h; exact hno j h; subst h; exact hout, G⟩
   omega
 ·
  replace hlt := qF hlt
  refine qZ 6 ?_
  refine ret1 (zA1 (v := .bool false) rfl) ⟨?_, G⟩
  rw [yY9 (fun i hi => hno i (by omega))]
theorem qY7 (w : World) {ad be : Option Addr} {n c m d : Nat} {A B : List Spn} (RA : RowAt w 2 ad n (encL A)) (RB : RowAt w 2 be m (encL B)) : zB6 Tryz.prog 15 #[.slice ad n c, .slice be m d] w (.bool (decide (A = B))) := by
 have G := Grow.rfl' w
 refine zA8 Tryz.func15 Tryz.ntmps15 Tryz.results15 rfl rfl ?_
 have hA := qC1 RA
 have hB := qC1 RB
 have hla := RA.lim
 have hlb := RB.lim
 refine qZ 11 ?_
 refine stp (zG9 rfl rfl ?_)
 refine zA6 ?_
 refine zA2 (b := (decide ((n : Int) ≠ (m : Int)))) rfl (fun hne => ?_) (fun hne => ?_)
 ·
  replace hne := qT hne
  refine qZ 5 ?_
  refine ret1 (zA1 (v := .bool false) rfl) ⟨?_, G⟩
  rw [decide_eq_false (show ¬ A = B from fun h => by subst h; omega)]
 ·
  replace hne := qF hne
  refine qZ 7 ?_
  refine zF5 (fun m_ e_ w_ => ∃ (k : Nat), m_ = n - k ∧ Fr [(0, .slice ad n c), (1, .slice be m d), (5, .int .i64 (k : Int))] e_ ∧ (k ≤ n) ∧ (∀ j, j < k → gS A j = gS B j) ∧ Grow w w_) _ ⟨0, rfl, zC6 ⟨rfl, rfl, rfl, trivial⟩, by omega, fun j hj => by omega, G⟩ ?_
  clear G
  rintro m_ e_ w1 ⟨k, rfl, ⟨e2, rfl⟩, hk, hno, G⟩
  refine qZ 6 ?_
  refine stp (zF6 rfl rfl ?_)
  refine zA6 ?_
  refine zA2 (b := (decide ((k : Int) < (n : Int)))) rfl (fun hlt => ?_) (fun hlt => ?_)
  ·
   replace hlt := qT hlt
   refine qZ 4 ?_
   refine zM8 9 [[], [], [1, 0], [2, 1, 0], [], [], [1, 0], [2, 1, 0], [7, 6, 5, 4, 3, 2, 1, 0]] mixed (by kernel_rfl) (by kernel_rfl) (by kernel_rfl) ?_
   intro w3 g4
   replace G := G.tr g4
   clear g4
   refine qA 2 ?_
   apply zC0
   ·intro w_ g_; refine og rfl ?_; refine zC8 (RA.grow (G.tr g_)) rfl rfl ?_ ?_; omega; exact qX
   apply zC0
   ·intro w_ g_; refine og rfl ?_; refine zL5 (RA.grow (G.tr g_)) rfl (by decide) (by rw [RA.len]; omega) (yB7 RA (by omega)) ?_; exact qX
   refine qA 2 ?_
   apply zC0
   ·intro w_ g_; refine og rfl ?_; refine zC8 (RB.grow (G.tr g_)) rfl rfl ?_ ?_; omega; exact qX
   apply zC0
   ·intro w_ g_; refine og rfl ?_; refine zL5 (RB.grow (G.tr g_)) rfl (by decide) (by rw [RB.len]; omega) (yB7 RB (by omega)) ?_; exact qX
   apply zC0
   ·intro w_ g_; exact og rfl (qJ8 rfl rfl (by rfl) qX)
   refine zI4 ?_
   intro w5 g6
   replace G := G.tr g6
   clear g6
   refine zA6 ?_
   refine zA2 (b := (!(decide ((gS A k).1 = (gS B k).1) && (decide ((gS A k).2 = (gS B k).2) && true)))) rfl (fun hx => ?_) (fun hx => ?_)
   ·
    simp only [sb] at hx
    refine qZ 5 ?_
    refine ret1 (zA1 (v := .bool false) rfl) ⟨?_, G⟩
    rw [decide_eq_false (show ¬ A = B from fun h => by subst h; simp at hx)]
   ·
    simp only [sb] at hx
    refine qZ 3 ?_
    refine stp (zB5 rfl rfl ?_ ?_); constructor <;> omega
    refine qZ 2 ?_
    refine ⟨_, ?_, k + 1, rfl, zC6 ⟨rfl, rfl, rfl, trivial⟩, by omega, fun j hj => by rcases Nat.lt_succ_iff_lt_or_eq.1 hj with h | h; exact hno j h; subst h; exact Prod.ext (by simp_all) (by simp_all), G⟩
    omega
  ·
   replace hlt := qF hlt
   refine qZ 6 ?_
   refine ret1 (zA1 (v := .bool true) rfl) ⟨?_, G⟩
   rw [decide_eq_true (yZ0 (by omega) (fun i hi => hno i (by omega)))]
end Go.Proofs.YtkkbbhpbcfcplaaGreat.K
namespace Go.Proofs.YtkkbbhpbcfcplaaGreat.K
open Go Go.RowKit
def stepO (s : Src) (o : Ob) (k : Int) : Ob × Int := (if (zD9 s o k).2 ≠ 0 then Ob0 else (zD9 s o k).1, (zD9 s o k).2)
theorem qI6 {s : Src} {p : Pt} {seg a : Int} (h : (zB4 s p seg a).2 ≠ 0) : (zB4 s p seg a).1 = Ob0 := by
  revert h; unfold zB4; (repeat' split) <;> simp
theorem yG6 {s : Src} {seg a : Int} (h : (zA0 s seg a).2 ≠ 0) : (zA0 s seg a).1 = Ob0 := by
  revert h; unfold zA0
  split
  · intro _; rfl
  · split
    · exact qI6
    · split
      · unfold zD6
        (repeat' split) <;> first | exact qI6 | (intro _; rfl)
      · unfold zD0
        (repeat' split) <;> first | exact qI6 | (intro _; rfl)
theorem yT2 (s : Src) (seg a : Int) : ((if (zA0 s seg a).2 ≠ 0 then Ob0 else (zA0 s seg a).1), (zA0 s seg a).2) = zA0 s seg a := by
  split
  · rename_i h; exact Prod.ext (yG6 h).symm rfl
  · rfl
theorem yN9 {s : Src} {o : Ob} {k seg a : Int} (h : zD9 s o k = zA0 s seg a) : stepO s o k = zA0 s seg a := by unfold stepO; rw [h]; exact yT2 s seg a
theorem qO4 {s : Src} {o x : Ob} {k e : Int} (h : zD9 s o k = (x, e)) (he : e ≠ 0 ∨ x = Ob0) : stepO s o k = (Ob0, e) := by
  unfold stepO; rw [h]
  rcases he with he | he
  · rw [if_pos he]
  · subst he; split <;> rfl
theorem SrcR.stepO_range {P : Program} {fw : FuncId} {w : World} {ua uh : Value} {b : Bool} {A : List (List Int)} {s : Src} (H : SrcR P fw w ua b uh A s) (o : Ob) (k : Int) : ObR (stepO s o k).1 := by
  unfold stepO
  split
  · exact zD1
  · rename_i h
    revert h
    unfold zD9
    (repeat' split) <;> first | (intro _; exact zD1) | (intro h; simp at h; done) | (intro _; exact H.follow_range _ _)
def qJ2 (s : Src) (steps : List Int) (a cost : Int) (i : Nat) (o : Ob) (e paid : Int) : Vl × Int :=
  if e ≠ 0 then (Vl0, e) else if paid + (1 + zB8 o) > cost then (Vl0, 22) else zN9 s a (steps.drop i) o (cost - (paid + (1 + zB8 o)))
theorem yO0 {s : Src} {steps : List Int} {a cost : Int} {i : Nat} {o : Ob} {paid : Int} (hi : i < steps.length) (h : ¬ paid + (1 + zB8 o) > cost) :
    qJ2 s steps a cost i o 0 paid = qJ2 s steps a cost (i + 1) (stepO s o (steps.getD i 0)).1 (stepO s o (steps.getD i 0)).2 (paid + (1 + zB8 o)) := by
  unfold qJ2
  rw [if_neg (by simp), if_neg h, show steps.drop i = steps.getD i 0 :: steps.drop (i + 1) from by rw [List.drop_eq_getElem_cons hi, zE5 hi], zN9]
  unfold stepO
  by_cases he : (zD9 s o (steps.getD i 0)).2 ≠ 0
  · rw [if_pos he, if_pos he]
  · rw [if_neg he, if_neg he]
    simp only [if_neg he]
    by_cases hc : cost - (paid + (1 + zB8 o)) - (1 + zB8 (zD9 s o (steps.getD i 0)).1) < 0
    · rw [if_pos hc, if_pos (by omega)]
    · rw [if_neg hc, if_neg (by omega), show cost - (paid + (1 + zB8 o)) - (1 + zB8 (zD9 s o (steps.getD i 0)).1) = cost - (paid + (1 + zB8 o) + (1 + zB8 (zD9 s o (steps.getD i 0)).1)) from by omega]
theorem yO1 {s : Src} {steps : List Int} {a cost : Int} (h1 : ¬ ∃ k ∈ steps, k < 0) (h2 : ¬ (steps.length : Int) > 32) (hc : 0 ≤ cost) : zE8 s steps a cost = qJ2 s steps a cost 0 (zA0 s 0 0).1 (zA0 s 0 0).2 0 := by
  unfold zE8 qJ2
  rw [if_neg h1, if_neg h2, show max cost (-1) = cost from by omega]
  by_cases h3 : (zA0 s 0 0).2 ≠ 0
  · rw [if_pos h3, if_pos h3]
  · rw [if_neg h3, if_neg h3]
    by_cases h4 : cost - (1 + zB8 (zA0 s 0 0).1) < 0
    · rw [if_pos h4, if_pos (by omega)]
    · rw [if_neg h4, if_neg (by omega), List.drop_zero, show cost - (0 + (1 + zB8 (zA0 s 0 0).1)) = cost - (1 + zB8 (zA0 s 0 0).1) from by omega]
theorem yT3 {s : Src} {steps : List Int} {a cost : Int} {o : Ob} {paid : Int} (h : ¬ paid + (1 + zB8 o) > cost) : qJ2 s steps a cost steps.length o 0 paid = valS s o a := by
  unfold qJ2
  rw [if_neg (by simp), if_neg h, List.drop_length, zN9]
end Go.Proofs.YtkkbbhpbcfcplaaGreat.K
namespace Go.Proofs.YtkkbbhpbcfcplaaGreat.K
open Go Go.RowKit Go.Proofs
attribute [local irreducible] Run1 OpG WL W AO zB6
theorem qT8 (w : World) {ua uh : Value} {b : Bool} {A : List (List Int)} {s : Src} (H : SrcR Tryz.prog 72 w ua b uh A s) (o : Ob) (ho : ObR o) (k : Int) (k0 : 0 ≤ k) : zB6 Tryz.prog 68 #[.agg #[ua, .bool b, uh], .agg #[.int .i64 o.kind, .int .i64 o.seg, .int .i64 o.at_, .int .i64 o.data, .int .i64 o.ptrs, .int .i64 o.size, .int .i64 o.count], .int .i64 k] w (.tuple #[.agg #[.int .i64 ((stepO s o k).1.kind), .int .i64 ((stepO s o k).1.seg), .int .i64 ((stepO s o k).1.at_), .int .i64 ((stepO s o k).1.data), .int .i64 ((stepO s o k).1.ptrs), .int .i64 ((stepO s o k).1.size), .int .i64 ((stepO s o k).1.count)], .int .i64 ((stepO s o k).2)]) := by
 obtain ⟨rk, rs, ra, rd, rp, rz, rc⟩ := ho
 have G := Grow.rfl' w
 refine zA8 Tryz.func68 Tryz.ntmps68 Tryz.results68 rfl rfl ?_
 refine qZ 2 ?_
 refine stp ?_
 refine qC ?_
 intro b1 w2 hb3 hc4 g5
 have hge6 := Nat.le_trans G.size hb3
 replace G := G.tr g5
 clear g5 hb3
 refine stp ?_
 refine qC ?_
 intro b7 w8 hb9 hc10 g11
 have hge12 := Nat.le_trans G.size hb9
 replace hc4 := g11.heap hc4
 replace G := G.tr g11
 clear g11 hb9
 refine stp (zA7 ?_)
 intro b13 w14 hb15 hc16 g17
 refine qZ 5 ?_
 have hge18 := Nat.le_trans G.size hb15
 have ne19 := qN hc4 hb15
 have ne20 := qN hc10 hb15
 replace hc4 := g17.heap hc4
 replace hc10 := g17.heap hc10
 replace G := G.tr g17
 clear g17 hb15
 refine qZ 2 ?_
 refine stp (zG6 rfl rfl ?_)
 obtain ⟨at9, hat9⟩ : ∃ x, x = IntKind.i64.wrap (o.at_ + k) := ⟨_, rfl⟩
 rw [← hat9]
 refine qZ 11 ?_
 refine stp (zD5 rfl rfl ?_)
 refine qZ 2 ?_
 refine zA2 (b := (decide (o.kind = 0))) rfl (fun h1 => ?_) (fun h1 => ?_)
 ·
  replace h1 := qT h1
  refine qZ 2 ?_
  refine stp (zA9 (v := .agg #[.int .i64 0, .int .i64 0, .int .i64 0, .int .i64 0, .int .i64 0, .int .i64 0, .int .i64 0]) (fun w => by kernel_rfl) ?_)
  refine stn (qS hc16 ?_)
  intro w21 hc22 u23
  replace hc4 := u23.heap hc4 ne19
  replace hc10 := u23.heap hc10 ne20
  replace G := G.upd u23 hge18
  clear u23 hc16
  refine qZ 3 ?_
  have h8 : zD9 s o k = (Ob0, 0) := by unfold zD9; rw [if_pos (.inl h1)]
  have h9 := qO4 h8 (by simp)
  refine ret2 (zA5 rfl hc22 (by rfl)) (zA1 (v := .int .i64 0) rfl) ⟨?_, G⟩
  rw [h9]; rfl
 ·
  replace h1 := qF h1
  refine qZ 2 ?_
  refine stp (zD5 rfl rfl ?_)
  refine qZ 2 ?_
  refine zA2 (b := (decide (o.kind = 1))) rfl (fun h2 => ?_) (fun h2 => ?_)
  ·
   replace h2 := qT h2
   refine qZ 6 ?_
   refine stp (zP7 rfl rfl ?_)
   refine zA6 ?_
   refine zA2 (b := (decide (k ≥ o.ptrs))) rfl (fun h3 => ?_) (fun h3 => ?_)
   ·
    replace h3 := qT h3
    refine qZ 2 ?_
    refine stp (zA9 (v := .agg #[.int .i64 0, .int .i64 0, .int .i64 0, .int .i64 0, .int .i64 0, .int .i64 0, .int .i64 0]) (fun w => by kernel_rfl) ?_)
    refine stn (qS hc16 ?_)
    intro w24 hc25 u26
    replace hc4 := u26.heap hc4 ne19
    replace hc10 := u26.heap hc10 ne20
    replace G := G.upd u26 hge18
    clear u26 hc16
    refine qZ 3 ?_
    have h8 : zD9 s o k = (Ob0, 0) := by unfold zD9; rw [if_pos (.inr ⟨h2, h3⟩)]
    have h9 := qO4 h8 (by simp)
    refine ret2 (zA5 rfl hc25 (by rfl)) (zA1 (v := .int .i64 0) rfl) ⟨?_, G⟩
    rw [h9]; rfl
   ·
    replace h3 := qF h3
    have hat8 : at9 = o.at_ + k := by rw [hat9]; exact zI8 (by simp only [inR]; omega)
    have h8 : zD9 s o k = (zA0 s o.seg (at9 + o.data)) := by unfold zD9; rw [if_neg (by omega), if_pos h2, hat8]
    have h9 := yN9 h8
    refine qZ 5 ?_
    refine stp (zB5 rfl rfl ?_ ?_); constructor <;> omega
    refine qZ 8 ?_
    refine stp (zA4 (v := .tuple #[.agg #[.int .i64 ((zA0 s o.seg (at9 + o.data)).1.kind), .int .i64 ((zA0 s o.seg (at9 + o.data)).1.seg), .int .i64 ((zA0 s o.seg (at9 + o.data)).1.at_), .int .i64 ((zA0 s o.seg (at9 + o.data)).1.data), .int .i64 ((zA0 s o.seg (at9 + o.data)).1.ptrs), .int .i64 ((zA0 s o.seg (at9 + o.data)).1.size), .int .i64 ((zA0 s o.seg (at9 + o.data)).1.count)], .int .i64 ((zA0 s o.seg (at9 + o.data)).2)]) rfl (zT9 _ (H.grow G) o.seg (at9 + o.data) (by simp only [inR]; omega) (by simp only [inR]; omega)) ?_)
    intro w27 g28
    replace hc4 := g28.heap hc4
    replace hc10 := g28.heap hc10
    replace hc16 := g28.heap hc16
    replace G := G.tr g28
    clear g28
    refine qZ 3 ?_
    refine stp (zA7 ?_)
    intro b29 w30 hb31 hc32 g33
    refine stn (qS hc32 ?_)
    intro w34 hc35 u36
    have g37 := g33.upd u36 hb31
    have hge38 := Nat.le_trans G.size hb31
    have ne39 := qN hc4 hb31
    have ne40 := qN hc10 hb31
    have ne41 := qN hc16 hb31
    replace hc4 := g37.heap hc4
    replace hc10 := g37.heap hc10
    replace hc16 := g37.heap hc16
    replace G := G.tr g37
    clear u36 g33 hb31 hc32
    refine qZ 6 ?_
    refine stn (qS hc16 ?_)
    intro w42 hc43 u44
    replace hc4 := u44.heap hc4 ne19
    replace hc10 := u44.heap hc10 ne20
    replace hc35 := u44.heap hc35 ne41.symm
    replace G := G.upd u44 hge18
    clear u44 hc16
    refine qZ 3 ?_
    refine ret2 (zA5 rfl hc43 (by rfl)) (zA1 (v := .int .i64 ((zA0 s o.seg (at9 + o.data)).2)) rfl) ⟨?_, G⟩
    rw [h9]
  ·
   replace h2 := qF h2
   refine qZ 5 ?_
   refine stp (zG9 rfl rfl ?_)
   refine zA6 ?_
   refine zA2 (b := (decide (o.size ≠ 6))) rfl (fun h3 => ?_) (fun h3 => ?_)
   ·
    replace h3 := qT h3
    refine qZ 2 ?_
    refine stp (zA9 (v := .agg #[.int .i64 0, .int .i64 0, .int .i64 0, .int .i64 0, .int .i64 0, .int .i64 0, .int .i64 0]) (fun w => by kernel_rfl) ?_)
    refine stn (qS hc16 ?_)
    intro w45 hc46 u47
    replace hc4 := u47.heap hc4 ne19
    replace hc10 := u47.heap hc10 ne20
    replace G := G.upd u47 hge18
    clear u47 hc16
    refine qZ 3 ?_
    have h8 : zD9 s o k = (o, 23) := by unfold zD9; rw [if_neg (by omega), if_neg h2, if_pos h3]
    have h9 := qO4 h8 (by simp)
    refine ret2 (zA5 rfl hc46 (by rfl)) (zA1 (v := .int .i64 23) rfl) ⟨?_, G⟩
    rw [h9]; rfl
   ·
    replace h3 := qF h3
    refine qZ 6 ?_
    refine stp (zP7 rfl rfl ?_)
    refine zA6 ?_
    refine zA2 (b := (decide (k ≥ o.count))) rfl (fun h4 => ?_) (fun h4 => ?_)
    ·
     replace h4 := qT h4
     refine qZ 2 ?_
     refine stp (zA9 (v := .agg #[.int .i64 0, .int .i64 0, .int .i64 0, .int .i64 0, .int .i64 0, .int .i64 0, .int .i64 0]) (fun w => by kernel_rfl) ?_)
     refine stn (qS hc16 ?_)
     intro w48 hc49 u50
     replace hc4 := u50.heap hc4 ne19
     replace hc10 := u50.heap hc10 ne20
     replace G := G.upd u50 hge18
     clear u50 hc16
     refine qZ 3 ?_
     have h8 : zD9 s o k = (o, 20) := by unfold zD9; rw [if_neg (by omega), if_neg h2, if_neg h3, if_pos h4]
     have h9 := qO4 h8 (by simp)
     refine ret2 (zA5 rfl hc49 (by rfl)) (zA1 (v := .int .i64 20) rfl) ⟨?_, G⟩
     rw [h9]; rfl
    ·
     replace h4 := qF h4
     have hat8 : at9 = o.at_ + k := by rw [hat9]; exact zI8 (by simp only [inR]; omega)
     have h8 : zD9 s o k = (zA0 s o.seg at9) := by unfold zD9; rw [if_neg (by omega), if_neg h2, if_neg h3, if_neg h4, hat8]
     have h9 := yN9 h8
     refine qZ 7 ?_
     refine stp (zA4 (v := .tuple #[.agg #[.int .i64 ((zA0 s o.seg at9).1.kind), .int .i64 ((zA0 s o.seg at9).1.seg), .int .i64 ((zA0 s o.seg at9).1.at_), .int .i64 ((zA0 s o.seg at9).1.data), .int .i64 ((zA0 s o.seg at9).1.ptrs), .int .i64 ((zA0 s o.seg at9).1.size), .int .i64 ((zA0 s o.seg at9).1.count)], .int .i64 ((zA0 s o.seg at9).2)]) rfl (zT9 _ (H.grow G) o.seg at9 (by simp only [inR]; omega) (by simp only [inR]; omega)) ?_)
     intro w51 g52
     replace hc4 := g52.heap hc4
     replace hc10 := g52.heap hc10
     replace hc16 := g52.heap hc16
     replace G := G.tr g52
     clear g52
     refine qZ 3 ?_
     refine stp (zA7 ?_)
     intro b53 w54 hb55 hc56 g57
     refine stn (qS hc56 ?_)
     intro w58 hc59 u60
     have g61 := g57.upd u60 hb55
     have hge62 := Nat.le_trans G.size hb55
     have ne63 := qN hc4 hb55
     have ne64 := qN hc10 hb55
     have ne65 := qN hc16 hb55
     replace hc4 := g61.heap hc4
     replace hc10 := g61.heap hc10
     replace hc16 := g61.heap hc16
     replace G := G.tr g61
     clear u60 g57 hb55 hc56
     refine qZ 6 ?_
     refine stn (qS hc16 ?_)
     intro w66 hc67 u68
     replace hc4 := u68.heap hc4 ne19
     replace hc10 := u68.heap hc10 ne20
     replace hc59 := u68.heap hc59 ne65.symm
     replace G := G.upd u68 hge18
     clear u68 hc16
     refine qZ 3 ?_
     refine ret2 (zA5 rfl hc67 (by rfl)) (zA1 (v := .int .i64 ((zA0 s o.seg at9).2)) rfl) ⟨?_, G⟩
     rw [h9]
theorem qT9 (w : World) {ua uh : Value} {b : Bool} {A : List (List Int)} {s : Src} (H : SrcR Tryz.prog 72 w ua b uh A s) (o : Ob) (ho : ObR o) (k : Int) (k0 : 0 ≤ k) (k1 : k ≤ 9223372036854775807) : zB6 Tryz.prog 104 #[.agg #[ua, .bool b, uh], .agg #[.int .i64 o.kind, .int .i64 o.seg, .int .i64 o.at_, .int .i64 o.data, .int .i64 o.ptrs, .int .i64 o.size, .int .i64 o.count], .int .i64 k] w (.tuple #[.int .u64 ((atS s o k).1), .int .i64 ((atS s o k).2)]) := by
 obtain ⟨rk, rs, ra, rd, rp, rz, rc⟩ := ho
 have G := Grow.rfl' w
 refine zA8 Tryz.func104 Tryz.ntmps104 Tryz.results104 rfl rfl ?_
 refine qZ 2 ?_
 refine stp ?_
 refine qC ?_
 intro b1 w2 hb3 hc4 g5
 have hge6 := Nat.le_trans G.size hb3
 replace G := G.tr g5
 clear g5 hb3
 refine stp ?_
 refine qC ?_
 intro b7 w8 hb9 hc10 g11
 have hge12 := Nat.le_trans G.size hb9
 replace hc4 := g11.heap hc4
 replace G := G.tr g11
 clear g11 hb9
 refine qZ 8 ?_
 refine stp (zD5 rfl rfl ?_)
 refine qZ 1 ?_
 refine qG 2 ?_
 refine zA3 (zB2 (s := .bool _) (v := .bool (decide (o.kind = 1))) rfl (zE3 _) (fun hc15 => ?_) ?_)
 ·
  have hc15_ := hc15
  try simp only [sb] at hc15_
  refine zD5 (gvt hc15) rfl ?_
  exact ⟨rfl, rfl⟩
 refine qG 1 ?_
 refine zA3 (zB2 (s := gv (!(decide (o.kind = 0))) (.bool (decide (o.kind = 1)))) (b := true) (v := .int .i64 k) rfl (zK1 _ _) (fun hc17 => ?_) ?_)
 ·
  obtain ⟨hc17a, hc17b⟩ := and_t hc17
  have hc17a_ := hc17a
  try simp only [sb] at hc17a_
  have hc17b_ := qT hc17b
  refine zD3 rfl ?_
  exact ⟨rfl, rfl⟩
 refine zA3 (zB2 (s := gv (!(decide (o.kind = 0))) (.bool (decide (o.kind = 1)))) (b := true) (v := .pointer (some ⟨b7, 3, none⟩)) rfl (zK1 _ _) (fun hc18 => ?_) ?_)
 ·
  obtain ⟨hc18a, hc18b⟩ := and_t hc18
  have hc18a_ := hc18a
  try simp only [sb] at hc18a_
  have hc18b_ := qT hc18b
  refine zD4 rfl ?_
  exact ⟨rfl, rfl⟩
 refine zA3 (zB2 (s := gv (!(decide (o.kind = 0))) (.bool (decide (o.kind = 1)))) (b := true) (v := .int .i64 o.data) rfl (zK1 _ _) (fun hc19 => ?_) ?_)
 ·
  obtain ⟨hc19a, hc19b⟩ := and_t hc19
  have hc19a_ := hc19a
  try simp only [sb] at hc19a_
  have hc19b_ := qT hc19b
  refine zG7 (v := .int .i64 o.data) (gvt hc19) hc10 rfl ?_
  exact ⟨rfl, rfl⟩
 refine zA3 (zB2 (s := gv (!(decide (o.kind = 0))) (.bool (decide (o.kind = 1)))) (b := true) (v := .bool (decide (k ≥ o.data))) rfl (zK1 _ _) (fun hc20 => ?_) ?_)
 ·
  obtain ⟨hc20a, hc20b⟩ := and_t hc20
  have hc20a_ := hc20a
  try simp only [sb] at hc20a_
  have hc20b_ := qT hc20b
  refine zP7 (gvt hc20) (gvt hc20) ?_
  exact ⟨rfl, rfl⟩
 refine zA3 (zB2 (s := .bool _) (v := .bool ((decide (o.kind = 1)) && (decide (k ≥ o.data)))) rfl (zE3 _) (fun hc21 => ?_) ?_)
 ·
  have hc21_ := hc21
  try simp only [sb] at hc21_
  refine qB2 hc21 (gvt hc21) rfl rfl ?_
  exact ⟨rfl, rfl⟩
 refine stp (zH6 rfl rfl rfl ?_)
 refine zA6 ?_
 refine zA2 (b := ((decide (o.kind = 0)) || ((decide (o.kind = 1)) && (decide (k ≥ o.data))))) rfl (fun h1 => ?_) (fun h1 => ?_)
 ·
  simp only [sb] at h1
  refine qZ 6 ?_
  refine ret2 (zA1 (v := .int .u64 0) rfl) (zA1 (v := .int .i64 0) rfl) ⟨?_, G⟩
  have h9 : atS s o k = (0, 0) := by unfold atS; rw [if_pos (by omega)]
  rw [h9]
 ·
  simp only [sb] at h1
  have h1n : ¬ (o.kind = 0 ∨ o.kind = 1 ∧ k ≥ o.data) := by omega
  refine qZ 6 ?_
  refine stp (zD5 rfl rfl ?_)
  refine zA6 ?_
  refine zA2 (b := (decide (o.kind = 1))) rfl (fun h3 => ?_) (fun h3 => ?_)
  ·
   replace h3 := qT h3
   refine qZ 8 ?_
   refine stp (zB5 rfl rfl ?_ ?_); constructor <;> omega
   refine stp (zA4 (v := .tuple #[.int .u64 ((s.word o.seg (o.at_ + k)).1), .int .i64 ((s.word o.seg (o.at_ + k)).2)]) rfl (H.word _ G o.seg (o.at_ + k) (by simp only [inR]; omega) (by simp only [inR]; omega)) ?_)
   intro w22 g23
   replace hc4 := g23.heap hc4
   replace hc10 := g23.heap hc10
   replace G := G.tr g23
   clear g23
   refine qZ 14 ?_
   refine ret2 (zA1 (v := .int .u64 ((s.word o.seg (o.at_ + k)).1)) rfl) (zA1 (v := .int .i64 ((s.word o.seg (o.at_ + k)).2)) rfl) ⟨?_, G⟩
   have h9 : atS s o k = s.word o.seg (o.at_ + k) := by unfold atS; rw [if_neg h1n, if_pos h3]
   rw [h9]
  ·
   replace h3 := qF h3
   refine qZ 6 ?_
   refine stp (zD5 rfl rfl ?_)
   refine zA6 ?_
   refine zA2 (b := (decide (o.size = 6))) rfl (fun h4 => ?_) (fun h4 => ?_)
   ·
    replace h4 := qT h4
    refine qZ 6 ?_
    refine ret2 (zA1 (v := .int .u64 0) rfl) (zA1 (v := .int .i64 23) rfl) ⟨?_, G⟩
    have h9 : atS s o k = (0, 23) := by unfold atS; rw [if_neg h1n, if_neg h3, if_pos h4]
    rw [h9]
   ·
    replace h4 := qF h4
    refine qZ 7 ?_
    refine stp (zP7 rfl rfl ?_)
    refine zA6 ?_
    refine zA2 (b := (decide (k ≥ o.count))) rfl (fun h5 => ?_) (fun h5 => ?_)
    ·
     replace h5 := qT h5
     refine qZ 6 ?_
     refine ret2 (zA1 (v := .int .u64 0) rfl) (zA1 (v := .int .i64 20) rfl) ⟨?_, G⟩
     have h9 : atS s o k = (0, 20) := by unfold atS; rw [if_neg h1n, if_neg h3, if_neg h4, if_pos h5]
     rw [h9]
    ·
     replace h5 := qF h5
     refine qZ 6 ?_
     refine stp (zD5 rfl rfl ?_)
     refine zA6 ?_
     refine zA2 (b := (decide (o.size = 5))) rfl (fun h6 => ?_) (fun h6 => ?_)
     ·
      replace h6 := qT h6
      refine qZ 8 ?_
      refine stp (zB5 rfl rfl ?_ ?_); constructor <;> omega
      refine stp (zA4 (v := .tuple #[.int .u64 ((s.word o.seg (o.at_ + k)).1), .int .i64 ((s.word o.seg (o.at_ + k)).2)]) rfl (H.word _ G o.seg (o.at_ + k) (by simp only [inR]; omega) (by simp only [inR]; omega)) ?_)
      intro w24 g25
      replace hc4 := g25.heap hc4
      replace hc10 := g25.heap hc10
      replace G := G.tr g25
      clear g25
      refine qZ 14 ?_
      refine ret2 (zA1 (v := .int .u64 ((s.word o.seg (o.at_ + k)).1)) rfl) (zA1 (v := .int .i64 ((s.word o.seg (o.at_ + k)).2)) rfl) ⟨?_, G⟩
      have h9 : atS s o k = s.word o.seg (o.at_ + k) := by unfold atS; rw [if_neg h1n, if_neg h3, if_neg h4, if_neg h5, if_pos h6]
      rw [h9]
     ·
      replace h6 := qF h6
      obtain ⟨n1, n2, -, -⟩ := H.num o.seg (o.at_ + k / 8)
      refine qZ 9 ?_
      refine stp (qA0 rfl rfl ?_ ?_ ?_ ?_); omega; omega; (constructor <;> omega)
      refine stp (zB5 rfl rfl ?_ ?_); constructor <;> omega
      refine stp (zA4 (v := .tuple #[.int .u64 ((s.word o.seg (o.at_ + (k / 8))).1), .int .i64 ((s.word o.seg (o.at_ + (k / 8))).2)]) rfl (H.word _ G o.seg (o.at_ + (k / 8)) (by simp only [inR]; omega) (by simp only [inR]; omega)) ?_)
      intro w26 g27
      replace hc4 := g27.heap hc4
      replace hc10 := g27.heap hc10
      replace G := G.tr g27
      clear g27
      refine qZ 12 ?_
      refine zF5 (fun m_ e_ w_ => ∃ (j : Nat), m_ = 8 - j ∧ Fr [(2, .int .i64 k), (6, .int .u64 0), (7, .int .i64 0), (13, .int .i64 ((s.word o.seg (o.at_ + (k / 8))).2)), (12, .int .u64 ((s.word o.seg (o.at_ + k / 8)).1 / 2 ^ (8 * j))), (14, .int .i64 (j : Int))] e_ ∧ ((j : Int) ≤ k % 8) ∧ (w_.heap[b1]? = some (.cells #[ua, .bool b, uh] 86 (0, 0))) ∧ (w_.heap[b7]? = some (.cells #[.int .i64 o.kind, .int .i64 o.seg, .int .i64 o.at_, .int .i64 o.data, .int .i64 o.ptrs, .int .i64 o.size, .int .i64 o.count] 112 (0, 0))) ∧ Grow w w_) _ ⟨0, rfl, zC6 ⟨rfl, rfl, rfl, rfl, congrArg (Value.int .u64) (by simp), rfl, trivial⟩, by omega, hc4, hc10, G⟩ ?_
      clear hc4 hc10
      clear G
      rintro m_ e_ w28 ⟨j, rfl, ⟨e29, rfl⟩, hj, hc4, hc10, G⟩
      have hsr := yL5 (s.word o.seg (o.at_ + k / 8)).1 j n1 n2
      refine qZ 5 ?_
      refine stp (zP1 rfl rfl ?_ ?_ ?_); omega; omega
      refine stp (zF6 rfl rfl ?_)
      refine zA6 ?_
      refine zA2 (b := (decide ((j : Int) < (k % 8)))) rfl (fun hlt => ?_) (fun hlt => ?_)
      ·
       replace hlt := qT hlt
       refine qZ 5 ?_
       refine stp (qA0 rfl rfl ?_ ?_ ?_ ?_); omega; omega; (constructor <;> omega)
       refine qZ 4 ?_
       refine stp (zB5 rfl rfl ?_ ?_); constructor <;> omega
       refine qZ 2 ?_
       refine ⟨_, ?_, j + 1, rfl, zC6 ⟨rfl, rfl, rfl, rfl, congrArg (Value.int .u64) (yQ8 _ _), congrArg (Value.int .i64) (by omega), trivial⟩, by omega, hc4, hc10, G⟩
       omega
      ·
       replace hlt := qF hlt
       have hj9 : 8 * j = (k % 8 * 8).toNat := by omega
       rw [hj9] at hsr
       have h9 : atS s o k = ((s.word o.seg (o.at_ + k / 8)).1 / 2 ^ (8 * j) % 256, (s.word o.seg (o.at_ + k / 8)).2) := by rw [hj9]; unfold atS; rw [if_neg h1n, if_neg h3, if_neg h4, if_neg h5, if_neg h6]
       rw [← hj9] at hsr
       refine qZ 4 ?_
       refine stp (zP1 rfl rfl ?_ ?_ ?_); omega; omega
       refine qZ 5 ?_
       refine ret2 (zA1 (v := .int .u64 (((s.word o.seg (o.at_ + k / 8)).1 / 2 ^ (8 * j)) % 256)) rfl) (zA1 (v := .int .i64 ((s.word o.seg (o.at_ + (k / 8))).2)) rfl) ⟨?_, G⟩
       rw [h9]
theorem qO5 (w : World) {ua uh : Value} {b : Bool} {A : List (List Int)} {s : Src} (H : SrcR Tryz.prog 72 w ua b uh A s) (o : Ob) (ho : ObR o) (k : Int) (k1 : inR .i64 k) : zB6 Tryz.prog 69 #[.agg #[ua, .bool b, uh], .agg #[.int .i64 o.kind, .int .i64 o.seg, .int .i64 o.at_, .int .i64 o.data, .int .i64 o.ptrs, .int .i64 o.size, .int .i64 o.count], .int .i64 k] w (.tuple #[.agg #[.int .i64 ((valS s o k).1.kind), .int .i64 ((valS s o k).1.size), .int .i64 ((valS s o k).1.words), .int .i64 ((valS s o k).1.kids), .int .u64 ((valS s o k).1.word)], .int .i64 ((valS s o k).2)]) := by
 simp only [inR] at k1
 have G := Grow.rfl' w
 refine zA8 Tryz.func69 Tryz.ntmps69 Tryz.results69 rfl rfl ?_
 refine qZ 2 ?_
 refine stp ?_
 refine qC ?_
 intro b1 w2 hb3 hc4 g5
 have hge6 := Nat.le_trans G.size hb3
 replace G := G.tr g5
 clear g5 hb3
 refine stp ?_
 refine qC ?_
 intro b7 w8 hb9 hc10 g11
 have hge12 := Nat.le_trans G.size hb9
 replace hc4 := g11.heap hc4
 replace G := G.tr g11
 clear g11 hb9
 refine stp (zA7 ?_)
 intro b13 w14 hb15 hc16 g17
 refine qZ 6 ?_
 refine stp (zP7 rfl rfl ?_)
 refine zA6 ?_
 have hge18 := Nat.le_trans G.size hb15
 have ne19 := qN hc4 hb15
 have ne20 := qN hc10 hb15
 replace hc4 := g17.heap hc4
 replace hc10 := g17.heap hc10
 replace G := G.tr g17
 clear g17 hb15
 refine zA2 (b := (decide (k ≥ 0))) rfl (fun h1 => ?_) (fun h1 => ?_)
 ·
  replace h1 := qT h1
  refine qZ 5 ?_
  refine stp (zA4 (v := .tuple #[.int .u64 ((atS s o k).1), .int .i64 ((atS s o k).2)]) rfl (qT9 _ (H.grow G) o ho k (by omega) (by omega)) ?_)
  intro w21 g22
  replace hc4 := g22.heap hc4
  replace hc10 := g22.heap hc10
  replace hc16 := g22.heap hc16
  replace G := G.tr g22
  clear g22
  refine qZ 10 ?_
  refine stp (zG9 rfl rfl ?_)
  refine zA6 ?_
  refine zA2 (b := (decide (((atS s o k).2) ≠ 0))) rfl (fun h2 => ?_) (fun h2 => ?_)
  ·
   replace h2 := qT h2
   refine qZ 2 ?_
   refine stp (zA9 (v := .agg #[.int .i64 0, .int .i64 0, .int .i64 0, .int .i64 0, .int .u64 0]) (fun w => by kernel_rfl) ?_)
   refine qZ 1 ?_
   refine stn (qS hc16 ?_)
   intro w23 hc24 u25
   replace hc4 := u25.heap hc4 ne19
   replace hc10 := u25.heap hc10 ne20
   replace G := G.upd u25 hge18
   clear u25 hc16
   refine qZ 3 ?_
   have h9 : valS s o k = (Vl0, (atS s o k).2) := by unfold valS; rw [if_neg (by omega), if_pos h2]
   refine ret2 (zA5 rfl hc24 (by rfl)) (zA1 (v := .int .i64 ((atS s o k).2)) rfl) ⟨?_, G⟩
   rw [h9] <;> rfl
  ·
   replace h2 := qF h2
   refine qZ 6 ?_
   refine stp (zA9 (v := .agg #[.int .i64 o.kind, .int .i64 0, .int .i64 0, .int .i64 0, .int .u64 ((atS s o k).1)]) (fun w => by kernel_rfl) ?_)
   refine stn (qS hc16 ?_)
   intro w26 hc27 u28
   replace hc4 := u28.heap hc4 ne19
   replace hc10 := u28.heap hc10 ne20
   replace G := G.upd u28 hge18
   clear u28 hc16
   refine qZ 3 ?_
   have h9 : valS s o k = (⟨o.kind, 0, 0, 0, (atS s o k).1⟩, 0) := by unfold valS; rw [if_neg (by omega), if_neg h2]
   refine ret2 (zA5 rfl hc27 (by rfl)) (zA1 (v := .int .i64 0) rfl) ⟨?_, G⟩
   rw [h9] <;> rfl
 ·
  replace h1 := qF h1
  refine qZ 11 ?_
  refine stp (zA9 (v := .agg #[.int .i64 o.kind, .int .i64 o.size, .int .i64 o.data, .int .i64 o.ptrs, .int .u64 0]) (fun w => by kernel_rfl) ?_)
  refine stp (zA7 ?_)
  intro b29 w30 hb31 hc32 g33
  refine stn (qS hc32 ?_)
  intro w34 hc35 u36
  have g37 := g33.upd u36 hb31
  have hge38 := Nat.le_trans G.size hb31
  have ne39 := qN hc4 hb31
  have ne40 := qN hc10 hb31
  have ne41 := qN hc16 hb31
  replace hc4 := g37.heap hc4
  replace hc10 := g37.heap hc10
  replace hc16 := g37.heap hc16
  replace G := G.tr g37
  clear u36 g33 hb31 hc32
  refine qZ 6 ?_
  refine stp (zD5 rfl rfl ?_)
  refine qZ 1 ?_
  refine qG 2 ?_
  refine zA3 (zB2 (s := .bool _) (v := .bool (decide (o.size = 6))) rfl (zE2 _) (fun hc44 => ?_) ?_)
  ·
   have hc44_ := qT hc44
   refine zD5 (gvt hc44) rfl ?_
   exact ⟨rfl, rfl⟩
  refine stp (zG8 rfl rfl rfl ?_)
  refine zA6 ?_
  refine zA2 (b := ((decide (o.kind = 2)) && (decide (o.size = 6)))) rfl (fun h2 => ?_) (fun h2 => ?_)
  ·
   simp only [sb] at h2
   refine qZ 4 ?_
   refine stn (zB9 (v := .int .i64 o.count) rfl rfl (by rfl) hc35 (by rfl) (by rfl) ?_)
   intro w45 hc46 u47
   replace hc4 := u47.heap hc4 ne39
   replace hc10 := u47.heap hc10 ne40
   replace hc16 := u47.heap hc16 ne41
   replace G := G.upd u47 hge38
   clear u47 hc35
   refine qZ 4 ?_
   refine stn (qS hc16 ?_)
   intro w48 hc49 u50
   replace hc4 := u50.heap hc4 ne19
   replace hc10 := u50.heap hc10 ne20
   replace hc46 := u50.heap hc46 ne41.symm
   replace G := G.upd u50 hge18
   clear u50 hc16
   refine qZ 3 ?_
   have h9 : valS s o k = (⟨o.kind, o.size, o.data, o.count, 0⟩, 0) := by unfold valS; rw [if_pos (by omega)]; unfold isS; rw [if_neg (by omega), if_pos (by omega)]
   refine ret2 (zA5 rfl hc49 (by rfl)) (zA1 (v := .int .i64 0) rfl) ⟨?_, G⟩
   rw [h9] <;> rfl
  ·
   simp only [sb] at h2
   refine qZ 4 ?_
   refine stp (zD5 rfl rfl ?_)
   refine zA6 ?_
   refine zA2 (b := (decide (o.kind = 2))) rfl (fun h3 => ?_) (fun h3 => ?_)
   ·
    replace h3 := qT h3
    refine qZ 4 ?_
    refine stn (zB9 (v := .int .i64 o.count) rfl rfl (by rfl) hc35 (by rfl) (by rfl) ?_)
    intro w51 hc52 u53
    replace hc4 := u53.heap hc4 ne39
    replace hc10 := u53.heap hc10 ne40
    replace hc16 := u53.heap hc16 ne41
    replace G := G.upd u53 hge38
    clear u53 hc35
    refine qZ 4 ?_
    refine stn (qS hc16 ?_)
    intro w54 hc55 u56
    replace hc4 := u56.heap hc4 ne19
    replace hc10 := u56.heap hc10 ne20
    replace hc52 := u56.heap hc52 ne41.symm
    replace G := G.upd u56 hge18
    clear u56 hc16
    refine qZ 3 ?_
    have h9 : valS s o k = (⟨o.kind, o.size, o.count, o.ptrs, 0⟩, 0) := by unfold valS; rw [if_pos (by omega)]; unfold isS; rw [if_pos (by omega), if_neg (by omega)]
    refine ret2 (zA5 rfl hc55 (by rfl)) (zA1 (v := .int .i64 0) rfl) ⟨?_, G⟩
    rw [h9] <;> rfl
   ·
    replace h3 := qF h3
    refine qZ 4 ?_
    refine stn (qS hc16 ?_)
    intro w57 hc58 u59
    replace hc4 := u59.heap hc4 ne19
    replace hc10 := u59.heap hc10 ne20
    replace hc35 := u59.heap hc35 ne41.symm
    replace G := G.upd u59 hge18
    clear u59 hc16
    refine qZ 3 ?_
    have h9 : valS s o k = (⟨o.kind, o.size, o.data, o.ptrs, 0⟩, 0) := by unfold valS; rw [if_pos (by omega)]; unfold isS; rw [if_neg (by omega), if_neg (by omega)]
    refine ret2 (zA5 rfl hc58 (by rfl)) (zA1 (v := .int .i64 0) rfl) ⟨?_, G⟩
    rw [h9] <;> rfl
theorem qU0 (w : World) {ua uh : Value} {b : Bool} {A : List (List Int)} {s : Src} (H : SrcR Tryz.prog 72 w ua b uh A s) {ad : Option Addr} {c : Nat} {steps : List Int} {a cost : Int} (R : RowAt w 1 ad steps.length (steps.map (.int .i64))) (ha : inR .i64 a) (hc : 0 ≤ cost ∧ cost ≤ 9000000000000000000) : zB6 Tryz.prog 35 #[.agg #[ua, .bool b, uh], .agg #[.slice ad steps.length c, .int .i64 a], .int .i64 cost] w (.tuple #[.agg #[.int .i64 ((zE8 s steps a cost).1.kind), .int .i64 ((zE8 s steps a cost).1.size), .int .i64 ((zE8 s steps a cost).1.words), .int .i64 ((zE8 s steps a cost).1.kids), .int .u64 ((zE8 s steps a cost).1.word)], .int .i64 ((zE8 s steps a cost).2)]) := by
 have ll := R.lim
 have G := Grow.rfl' w
 refine zA8 Tryz.func35 Tryz.ntmps35 Tryz.results35 rfl rfl ?_
 refine qZ 2 ?_
 refine stp ?_
 refine qC ?_
 intro b1 w2 hb3 hc4 g5
 have hge6 := Nat.le_trans G.size hb3
 replace G := G.tr g5
 clear g5 hb3
 refine stp ?_
 refine qC ?_
 intro b7 w8 hb9 hc10 g11
 have hge12 := Nat.le_trans G.size hb9
 replace hc4 := g11.heap hc4
 replace G := G.tr g11
 clear g11 hb9
 refine stp (zA7 ?_)
 intro b13 w14 hb15 hc16 g17
 refine qZ 8 ?_
 have hge18 := Nat.le_trans G.size hb15
 have ne19 := qN hc4 hb15
 have ne20 := qN hc10 hb15
 replace hc4 := g17.heap hc4
 replace hc10 := g17.heap hc10
 replace G := G.tr g17
 clear g17 hb15
 refine zF5 (fun m_ e_ w_ => ∃ (k : Nat), m_ = steps.length - k ∧ Fr [(2, .int .i64 cost), (3, .pointer (some ⟨b1, 0, none⟩)), (4, .pointer (some ⟨b7, 0, none⟩)), (6, .pointer (some ⟨b13, 0, none⟩)), (8, .int .i64 (k : Int))] e_ ∧ (k ≤ steps.length) ∧ (∀ j, j < k → 0 ≤ steps.getD j 0) ∧ (w_.heap[b1]? = some (.cells #[ua, .bool b, uh] 86 (0, 0))) ∧ (w_.heap[b7]? = some (.cells #[.slice ad steps.length c, .int .i64 a] 30 (0, 0))) ∧ (w_.heap[b13]? = some (.cells #[.int .i64 0, .int .i64 0, .int .i64 0, .int .i64 0, .int .u64 0] 40 (0, 0))) ∧ Grow w w_) _ ⟨0, rfl, zC6 ⟨rfl, rfl, rfl, rfl, rfl, trivial⟩, by omega, fun j hj => by omega, hc4, hc10, hc16, G⟩ ?_
 clear hc4 hc10 hc16
 clear G
 rintro m_ e_ w21 ⟨k, rfl, ⟨e22, rfl⟩, hk2, hnn, hc4, hc10, hc16, G⟩
 refine qZ 7 ?_
 refine stp (zF6 rfl rfl ?_)
 refine zA6 ?_
 refine zA2 (b := (decide ((k : Int) < (steps.length : Int)))) rfl (fun hlt1 => ?_) (fun hlt1 => ?_)
 ·
  replace hlt1 := qT hlt1
  have hi : k < steps.length := by omega
  refine qZ 8 ?_
  refine stp (zC8 (R.grow G) rfl rfl ?_ ?_); omega
  refine stp (zC5 (v := .int .i64 (steps.getD k 0)) (m := 0) (R.grow G) rfl (zE6 0 (by omega)) ?_)
  refine stp (zF6 rfl rfl ?_)
  refine zA6 ?_
  refine zA2 (b := (decide ((steps.getD k 0) < 0))) rfl (fun h2 => ?_) (fun h2 => ?_)
  ·
   replace h2 := qT h2
   refine qZ 2 ?_
   refine stp (zA9 (v := .agg #[.int .i64 0, .int .i64 0, .int .i64 0, .int .i64 0, .int .u64 0]) (fun w => by kernel_rfl) ?_)
   refine stn (qS hc16 ?_)
   intro w23 hc24 u25
   replace hc4 := u25.heap hc4 ne19
   replace hc10 := u25.heap hc10 ne20
   replace G := G.upd u25 hge18
   clear u25 hc16
   refine qZ 3 ?_
   have h9 : (zE8 s steps a cost) = (Vl0, 1) := by unfold zE8; rw [if_pos ⟨_, qF6 hi, h2⟩]
   refine ret2 (zA5 rfl hc24 (by rfl)) (zA1 (v := .int .i64 1) rfl) ⟨?_, G⟩
   rw [h9] <;> rfl
  ·
   replace h2 := qF h2
   refine qZ 3 ?_
   refine stp (zB5 rfl rfl ?_ ?_); constructor <;> omega
   refine qZ 2 ?_
   refine ⟨_, ?_, k + 1, rfl, zC6 ⟨rfl, rfl, rfl, rfl, rfl, trivial⟩, by omega, fun j hj => by rcases Nat.lt_succ_iff_lt_or_eq.1 hj with h_ | h_; exact hnn j h_; subst h_; omega, hc4, hc10, hc16, G⟩
   omega
 ·
  replace hlt1 := qF hlt1
  replace hnn : ∀ j, j < steps.length → 0 ≤ steps.getD j 0 := fun j hj => hnn j (by omega)
  have hno : ¬ ∃ k ∈ steps, k < 0 := fun ⟨x_, hx_, hlt_⟩ => by obtain ⟨j_, hj_, he_⟩ := List.getElem_of_mem hx_; have := hnn j_ hj_; rw [zE5 hj_] at this; omega
  refine qZ 7 ?_
  refine stp (zN7 rfl rfl ?_)
  refine zA6 ?_
  refine zA2 (b := (decide ((steps.length : Int) > 32))) rfl (fun h3 => ?_) (fun h3 => ?_)
  ·
   replace h3 := qT h3
   refine qZ 2 ?_
   refine stp (zA9 (v := .agg #[.int .i64 0, .int .i64 0, .int .i64 0, .int .i64 0, .int .u64 0]) (fun w => by kernel_rfl) ?_)
   refine stn (qS hc16 ?_)
   intro w26 hc27 u28
   replace hc4 := u28.heap hc4 ne19
   replace hc10 := u28.heap hc10 ne20
   replace G := G.upd u28 hge18
   clear u28 hc16
   refine qZ 3 ?_
   have h9 : (zE8 s steps a cost) = (Vl0, 3) := by unfold zE8; rw [if_neg hno, if_pos h3]
   refine ret2 (zA5 rfl hc27 (by rfl)) (zA1 (v := .int .i64 3) rfl) ⟨?_, G⟩
   rw [h9] <;> rfl
  ·
   replace h3 := qF h3
   have hw0 := yO1 (s := s) (a := a) hno h3 hc.1
   have ho0 := H.follow_range 0 0
   refine qZ 4 ?_
   refine stp (zA4 (v := .tuple #[.agg #[.int .i64 ((zA0 s 0 0).1.kind), .int .i64 ((zA0 s 0 0).1.seg), .int .i64 ((zA0 s 0 0).1.at_), .int .i64 ((zA0 s 0 0).1.data), .int .i64 ((zA0 s 0 0).1.ptrs), .int .i64 ((zA0 s 0 0).1.size), .int .i64 ((zA0 s 0 0).1.count)], .int .i64 ((zA0 s 0 0).2)]) rfl (zT9 _ (H.grow G) 0 0 (by simp [inR]) (by simp [inR])) ?_)
   intro w29 g30
   replace hc4 := g30.heap hc4
   replace hc10 := g30.heap hc10
   replace hc16 := g30.heap hc16
   replace G := G.tr g30
   clear g30
   refine qZ 3 ?_
   refine stp (zA7 ?_)
   intro b31 w32 hb33 hc34 g35
   refine stn (qS hc34 ?_)
   intro w36 hc37 u38
   have g39 := g35.upd u38 hb33
   have hge40 := Nat.le_trans G.size hb33
   have ne41 := qN hc4 hb33
   have ne42 := qN hc10 hb33
   have ne43 := qN hc16 hb33
   replace hc4 := g39.heap hc4
   replace hc10 := g39.heap hc10
   replace hc16 := g39.heap hc16
   replace G := G.tr g39
   clear u38 g35 hb33 hc34
   refine qZ 12 ?_
   refine zF5 (fun m_ e_ w_ => ∃ (i : Nat) (o : Ob) (e : Int) (paid : Int), m_ = steps.length + 1 - i ∧ Fr [(2, .int .i64 cost), (3, .pointer (some ⟨b1, 0, none⟩)), (4, .pointer (some ⟨b7, 0, none⟩)), (6, .pointer (some ⟨b13, 0, none⟩)), (9, .pointer (some ⟨b31, 0, none⟩)), (12, .int .i64 (i : Int)), (10, .int .i64 e), (11, .int .i64 paid)] e_ ∧ (i ≤ steps.length + 1) ∧ (ObR o) ∧ (0 ≤ paid ∧ paid ≤ 536870913 * (i : Int)) ∧ (i ≤ steps.length → (zE8 s steps a cost) = qJ2 s steps a cost i o e paid) ∧ (i = steps.length + 1 → (zE8 s steps a cost) = valS s o a) ∧ (w_.heap[b1]? = some (.cells #[ua, .bool b, uh] 86 (0, 0))) ∧ (w_.heap[b7]? = some (.cells #[.slice ad steps.length c, .int .i64 a] 30 (0, 0))) ∧ (w_.heap[b13]? = some (.cells #[.int .i64 0, .int .i64 0, .int .i64 0, .int .i64 0, .int .u64 0] 40 (0, 0))) ∧ (w_.heap[b31]? = some (.cells #[.int .i64 o.kind, .int .i64 o.seg, .int .i64 o.at_, .int .i64 o.data, .int .i64 o.ptrs, .int .i64 o.size, .int .i64 o.count] 112 (0, 0))) ∧ Grow w w_) _ ⟨0, (zA0 s 0 0).1, (zA0 s 0 0).2, 0, rfl, zC6 ⟨rfl, rfl, rfl, rfl, rfl, rfl, rfl, rfl, trivial⟩, by omega, ho0, by omega, fun _ => hw0, fun h_ => by omega, hc4, hc10, hc16, hc37, G⟩ ?_
   clear hc4 hc10 hc16 hc37
   clear G
   rintro m_ e_ w44 ⟨i, o, e, paid, rfl, ⟨e45, rfl⟩, hi1, ho, hpd, hw, hv0, hc4, hc10, hc16, hc37, G⟩
   have hwo := zJ3 ho
   refine qZ 7 ?_
   refine stp (zU7 rfl rfl ?_)
   refine zA6 ?_
   refine zA2 (b := (decide ((i : Int) ≤ (steps.length : Int)))) rfl (fun hlt => ?_) (fun hlt => ?_)
   ·
    replace hlt := qT hlt
    have hil : i ≤ steps.length := by omega
    have hw1 := hw hil
    refine qZ 7 ?_
    refine stp (zG9 rfl rfl ?_)
    refine zA6 ?_
    refine zA2 (b := (decide (e ≠ 0))) rfl (fun he => ?_) (fun he => ?_)
    ·
     replace he := qT he
     refine qZ 2 ?_
     refine stp (zA9 (v := .agg #[.int .i64 0, .int .i64 0, .int .i64 0, .int .i64 0, .int .u64 0]) (fun w => by kernel_rfl) ?_)
     refine qZ 1 ?_
     refine stn (qS hc16 ?_)
     intro w46 hc47 u48
     replace hc4 := u48.heap hc4 ne19
     replace hc10 := u48.heap hc10 ne20
     replace hc37 := u48.heap hc37 ne43.symm
     replace G := G.upd u48 hge18
     clear u48 hc16
     refine qZ 3 ?_
     have h9 : (zE8 s steps a cost) = (Vl0, e) := by rw [hw1]; unfold qJ2; rw [if_pos he]
     refine ret2 (zA5 rfl hc47 (by rfl)) (zA1 (v := .int .i64 e) rfl) ⟨?_, G⟩
     rw [h9] <;> rfl
    ·
     replace he := qF he
     have he9 : e = 0 := by omega
     subst he9
     refine qZ 5 ?_
     refine stp (zA4 (v := .int .i64 (zB8 o)) rfl (qN5 _ o) ?_)
     intro w49 g50
     replace hc4 := g50.heap hc4
     replace hc10 := g50.heap hc10
     replace hc16 := g50.heap hc16
     replace hc37 := g50.heap hc37
     replace G := G.tr g50
     clear g50
     refine stp (zB5 rfl rfl ?_ ?_); constructor <;> omega
     refine stp (zB5 rfl rfl ?_ ?_); constructor <;> omega
     refine qZ 7 ?_
     refine stp (zN7 rfl rfl ?_)
     refine zA6 ?_
     refine zA2 (b := (decide ((paid + (1 + (zB8 o))) > cost))) rfl (fun h7 => ?_) (fun h7 => ?_)
     ·
      replace h7 := qT h7
      refine qZ 2 ?_
      refine stp (zA9 (v := .agg #[.int .i64 0, .int .i64 0, .int .i64 0, .int .i64 0, .int .u64 0]) (fun w => by kernel_rfl) ?_)
      refine stn (qS hc16 ?_)
      intro w51 hc52 u53
      replace hc4 := u53.heap hc4 ne19
      replace hc10 := u53.heap hc10 ne20
      replace hc37 := u53.heap hc37 ne43.symm
      replace G := G.upd u53 hge18
      clear u53 hc16
      refine qZ 3 ?_
      have h9 : (zE8 s steps a cost) = (Vl0, 22) := by rw [hw1]; unfold qJ2; rw [if_neg (by simp), if_pos (by omega)]
      refine ret2 (zA5 rfl hc52 (by rfl)) (zA1 (v := .int .i64 22) rfl) ⟨?_, G⟩
      rw [h9] <;> rfl
     ·
      replace h7 := qF h7
      have hnv : ¬ (paid + (1 + zB8 o)) > cost := by omega
      refine qZ 7 ?_
      refine stp (zF6 rfl rfl ?_)
      refine zA6 ?_
      refine zA2 (b := (decide ((i : Int) < (steps.length : Int)))) rfl (fun h8 => ?_) (fun h8 => ?_)
      ·
       replace h8 := qT h8
       have hi : i < steps.length := by omega
       have hkk := hnn i hi
       have hso := H.stepO_range o (steps.getD i 0)
       have hw2 := yO0 (s := s) (a := a) hi hnv
       have hsz54 : w49.heap.size ≤ w49.heap.size := Nat.le_refl _
       have ltf54_hc4 := zC1 hc4
       have ltf54_hc10 := zC1 hc10
       have ltf54_hc16 := zC1 hc16
       have ltf54_hc37 := zC1 hc37
       have hgz54 := G.size
       refine qE9 ?_
       have kb_hc4 : ∀ w_, (ktR 112 w49.heap.size).r w49 w_ → w_.heap[b1]? = some (.cells #[ua, .bool b, uh] 86 (0, 0)) := fun w_ k_ => (KtP.to_grow k_ (Grow.rfl' _)).heap hc4
       have kb_hc10 : ∀ w_, (ktR 112 w49.heap.size).r w49 w_ → w_.heap[b7]? = some (.cells #[.slice ad steps.length c, .int .i64 a] 30 (0, 0)) := fun w_ k_ => (KtP.to_grow k_ (Grow.rfl' _)).heap hc10
       have kb_hc16 : ∀ w_, (ktR 112 w49.heap.size).r w49 w_ → w_.heap[b13]? = some (.cells #[.int .i64 0, .int .i64 0, .int .i64 0, .int .i64 0, .int .u64 0] 40 (0, 0)) := fun w_ k_ => (KtP.to_grow k_ (Grow.rfl' _)).heap hc16
       have kb_hc37 : ∀ w_, (ktR 112 w49.heap.size).r w49 w_ → w_.heap[b31]? = some (.cells #[.int .i64 o.kind, .int .i64 o.seg, .int .i64 o.at_, .int .i64 o.data, .int .i64 o.ptrs, .int .i64 o.size, .int .i64 o.count] 112 (0, 0)) := fun w_ k_ => (KtP.to_grow k_ (Grow.rfl' _)).heap hc37
       have kb_hsz54 : ∀ w_, (ktR 112 w49.heap.size).r w49 w_ → w49.heap.size ≤ w_.heap.size := fun w_ k_ => Nat.le_trans hsz54 (KtP.to_grow k_ (Grow.rfl' _)).size
       have kb_G : ∀ w_, (ktR 112 w49.heap.size).r w49 w_ → Grow w w_ := fun w_ k_ => G.tr (KtP.to_grow k_ (Grow.rfl' _))
       refine yL3 13 [[], [], [], [0], [], [2, 1, 0], [3, 2, 1, 0], [6, 5, 4, 3, 2, 1, 0], [7, 6, 5, 4, 3, 2, 1, 0], [8, 7, 6, 5, 4, 3, 2, 1, 0], [9, 8, 7, 6, 5, 4, 3, 2, 1], [], [11, 10, 9, 8, 7, 6, 5, 4, 3, 2, 0]] [12] [13] (grQ (ktR 112 w49.heap.size)) (fun k_ e_ w_ => match k_ with | 0 => True | _ => ∃ b : Nat, e_ 13 = .pointer (some ⟨b, 0, none⟩) ∧ w49.heap.size ≤ b ∧ w_.heap[b]? = some (.cells #[.int .i64 ((stepO s o (steps.getD i 0)).1.kind), .int .i64 ((stepO s o (steps.getD i 0)).1.seg), .int .i64 ((stepO s o (steps.getD i 0)).1.at_), .int .i64 ((stepO s o (steps.getD i 0)).1.data), .int .i64 ((stepO s o (steps.getD i 0)).1.ptrs), .int .i64 ((stepO s o (steps.getD i 0)).1.size), .int .i64 ((stepO s o (steps.getD i 0)).1.count)] 112 (0, 0))) mixed (by kernel_rfl) (by kernel_rfl) (by kernel_rfl) (by kernel_rfl) (by kernel_rfl) (fun k_ _ _ _ g_ h_ => match k_, h_ with | 0, _ => trivial | _ + 1, ⟨b_, h1_, h2_, h3_⟩ => ⟨b_, h1_, h2_, g_.heap h3_⟩) (fun k_ _ _ _ hu_ h_ => match k_, h_ with | 0, _ => trivial | _ + 1, ⟨b_, h1_, h2_, h3_⟩ => ⟨b_, (hu_ _ (by simp)).symm.trans h1_, h2_, h3_⟩) (fun _ _ _ h_ => h_) (fun _ _ => trivial) ?_
       intro w55 g56
       replace kb_hc4 : ∀ w_, (ktR 112 w49.heap.size).r w55 w_ → w_.heap[b1]? = some (.cells #[ua, .bool b, uh] 86 (0, 0)) := fun w_ k_ => kb_hc4 w_ ((ktR 112 w49.heap.size).tr ((ktR 112 w49.heap.size).grow g56) k_)
       replace kb_hc10 : ∀ w_, (ktR 112 w49.heap.size).r w55 w_ → w_.heap[b7]? = some (.cells #[.slice ad steps.length c, .int .i64 a] 30 (0, 0)) := fun w_ k_ => kb_hc10 w_ ((ktR 112 w49.heap.size).tr ((ktR 112 w49.heap.size).grow g56) k_)
       replace kb_hc16 : ∀ w_, (ktR 112 w49.heap.size).r w55 w_ → w_.heap[b13]? = some (.cells #[.int .i64 0, .int .i64 0, .int .i64 0, .int .i64 0, .int .u64 0] 40 (0, 0)) := fun w_ k_ => kb_hc16 w_ ((ktR 112 w49.heap.size).tr ((ktR 112 w49.heap.size).grow g56) k_)
       replace kb_hc37 : ∀ w_, (ktR 112 w49.heap.size).r w55 w_ → w_.heap[b31]? = some (.cells #[.int .i64 o.kind, .int .i64 o.seg, .int .i64 o.at_, .int .i64 o.data, .int .i64 o.ptrs, .int .i64 o.size, .int .i64 o.count] 112 (0, 0)) := fun w_ k_ => kb_hc37 w_ ((ktR 112 w49.heap.size).tr ((ktR 112 w49.heap.size).grow g56) k_)
       replace kb_hsz54 : ∀ w_, (ktR 112 w49.heap.size).r w55 w_ → w49.heap.size ≤ w_.heap.size := fun w_ k_ => kb_hsz54 w_ ((ktR 112 w49.heap.size).tr ((ktR 112 w49.heap.size).grow g56) k_)
       replace kb_G : ∀ w_, (ktR 112 w49.heap.size).r w55 w_ → Grow w w_ := fun w_ k_ => kb_G w_ ((ktR 112 w49.heap.size).tr ((ktR 112 w49.heap.size).grow g56) k_)
       have k0_ : (ktR 112 w49.heap.size).r w49 w55 := ((ktR 112 w49.heap.size).grow g56)
       apply zG3 (hm := by rfl)
       ·intro w_ g_; exact og rfl (zD8 rfl (kb_hc4 _ g_) (by rfl) qX)
       apply zG3 (hm := by rfl)
       ·intro w_ g_; exact og rfl (zD8 rfl (kb_hc37 _ g_) (by rfl) qX)
       apply zG3 (hm := by rfl)
       ·intro w_ g_; exact og rfl (zD4 rfl qX)
       apply zG3 (hm := by rfl)
       ·intro w_ g_; exact og rfl (zG7 (v := .slice ad steps.length c) rfl (kb_hc10 _ g_) rfl qX)
       apply zG3 (hm := by rfl)
       ·intro w_ g_; exact og rfl (zD3 rfl qX)
       apply zG3 (hm := by rfl)
       ·intro w_ g_; refine og rfl ?_; refine zC8 (R.grow (kb_G _ g_)) rfl rfl ?_ ?_; omega; exact qX
       apply zG3 (hm := by rfl)
       ·intro w_ g_; exact og rfl (zC5 (v := .int .i64 (steps.getD i 0)) (m := 0) (R.grow (kb_G _ g_)) rfl (zE6 0 (by omega)) qX)
       apply zG3 (hm := by rfl)
       ·intro w_ g_; refine og rfl ?_; exact zA4 (v := .tuple #[.agg #[.int .i64 ((stepO s o (steps.getD i 0)).1.kind), .int .i64 ((stepO s o (steps.getD i 0)).1.seg), .int .i64 ((stepO s o (steps.getD i 0)).1.at_), .int .i64 ((stepO s o (steps.getD i 0)).1.data), .int .i64 ((stepO s o (steps.getD i 0)).1.ptrs), .int .i64 ((stepO s o (steps.getD i 0)).1.size), .int .i64 ((stepO s o (steps.getD i 0)).1.count)], .int .i64 ((stepO s o (steps.getD i 0)).2)]) rfl (qT8 _ (H.grow (kb_G _ g_)) o ho (steps.getD i 0) hkk) (fun w2_ g2_ => ⟨g2_, rfl⟩)
       apply zG3 (hm := by rfl)
       ·intro w_ g_; exact og rfl (zH5 (v := .tuple #[.agg #[.int .i64 ((stepO s o (steps.getD i 0)).1.kind), .int .i64 ((stepO s o (steps.getD i 0)).1.seg), .int .i64 ((stepO s o (steps.getD i 0)).1.at_), .int .i64 ((stepO s o (steps.getD i 0)).1.data), .int .i64 ((stepO s o (steps.getD i 0)).1.ptrs), .int .i64 ((stepO s o (steps.getD i 0)).1.size), .int .i64 ((stepO s o (steps.getD i 0)).1.count)], .int .i64 ((stepO s o (steps.getD i 0)).2)]) rfl qX)
       apply zG3 (hm := by rfl)
       ·intro w_ g_; exact og rfl (zC9 (v := .agg #[.int .i64 ((stepO s o (steps.getD i 0)).1.kind), .int .i64 ((stepO s o (steps.getD i 0)).1.seg), .int .i64 ((stepO s o (steps.getD i 0)).1.at_), .int .i64 ((stepO s o (steps.getD i 0)).1.data), .int .i64 ((stepO s o (steps.getD i 0)).1.ptrs), .int .i64 ((stepO s o (steps.getD i 0)).1.size), .int .i64 ((stepO s o (steps.getD i 0)).1.count)]) rfl rfl qX)
       apply zG3 (hm := by rfl)
       ·intro w_ g_; exact og rfl (zC9 (v := .int .i64 ((stepO s o (steps.getD i 0)).2)) rfl rfl qX)
       refine yL0 (fun w_ v_ => ∃ b cs, v_ = .pointer (some ⟨b, 0, none⟩) ∧ w49.heap.size ≤ b ∧ cs.size = 7 ∧ w_.heap[b]? = some (.cells cs 112 (0, 0))) (fun _ _ _ g_ ⟨b, cs, h1_, h2_, h3_, h4_⟩ => by obtain ⟨cs2, h5_, h6_⟩ := KtP.new g_ b cs h4_; exact ⟨b, cs2, h1_, h2_, h5_.trans h3_, h6_⟩) (by rfl) ?_ ?_
       ·intro w_ g_
        refine og rfl ?_
        refine zA7 ?_
        intro b_ w2_ hb_ hc_ g2_
        exact ⟨g2_, b_, _, rfl, Nat.le_trans (kb_hsz54 _ g_) hb_, rfl, hc_⟩
       apply qW5 0 (hm := by rfl)
       ·intro w_ g_
        intro v11_ hv11_
        intro s_
        show OpG _ _ _ _ _ _
        refine og rfl ?_
        obtain ⟨b_, cs_, rfl, hge_, hsz_, hb_⟩ := hv11_
        refine zW8 rfl rfl hb_ (by rfl) hsz_ (by rfl) ?_
        intro w2_ s2_ u_
        exact ⟨KtP.of_upd u_ hge_ hb_ s2_ hsz_.symm, ⟨b_, rfl, hge_, s2_⟩, rfl⟩
       refine qW6 ?_
       intro w57 g58
       replace k0_ := ((ktR 112 w49.heap.size).tr k0_ g58)
       replace hc4 := kb_hc4 _ g58
       clear kb_hc4
       replace hc10 := kb_hc10 _ g58
       clear kb_hc10
       replace hc16 := kb_hc16 _ g58
       clear kb_hc16
       replace hc37 := kb_hc37 _ g58
       clear kb_hc37
       replace hsz54 := kb_hsz54 _ g58
       clear kb_hsz54
       replace G := kb_G _ g58
       clear kb_G
       intro v_x54 hv_x54
       rintro ⟨bx54, hbe54, hge54, hc54⟩
       have hbv54 : v_x54 = .pointer (some ⟨bx54, 0, none⟩) := hbe54
       subst hbv54
       clear hv_x54 hbe54
       have hgx54 := Nat.le_trans hgz54 hge54
       refine qZ 5 ?_
       refine stn (qS hc37 ?_)
       intro w59 hc60 u61
       replace hc4 := u61.heap hc4 ne41
       replace hc10 := u61.heap hc10 ne42
       replace hc16 := u61.heap hc16 ne43
       replace hc54 := u61.heap hc54 (Nat.ne_of_lt (Nat.lt_of_lt_of_le ltf54_hc37 hge54)).symm
       replace G := G.upd u61 hge40
       clear u61 hc37
       refine qZ 7 ?_
       refine stp (zB5 rfl rfl ?_ ?_); constructor <;> omega
       refine qZ 2 ?_
       refine ⟨_, ?_, i + 1, (stepO s o (steps.getD i 0)).1, (stepO s o (steps.getD i 0)).2, (paid + (1 + zB8 o)), rfl, zC6 ⟨rfl, rfl, rfl, rfl, rfl, congrArg (Value.int .i64) (by omega), rfl, rfl, trivial⟩, by omega, hso, by omega, fun _ => by rw [hw1]; exact hw2, fun h_ => by omega, hc4, hc10, hc16, hc60, G⟩
       omega
      ·
       replace h8 := qF h8
       have hi9 : i = steps.length := by omega
       refine qZ 3 ?_
       refine stp (zB5 rfl rfl ?_ ?_); constructor <;> omega
       refine qZ 2 ?_
       refine ⟨_, ?_, i + 1, o, 0, (paid + (1 + zB8 o)), rfl, zC6 ⟨rfl, rfl, rfl, rfl, rfl, congrArg (Value.int .i64) (by omega), rfl, rfl, trivial⟩, by omega, ho, by omega, fun h_ => by omega, fun _ => by rw [hw1, hi9]; exact yT3 hnv, hc4, hc10, hc16, hc37, G⟩
       omega
   ·
    replace hlt := qF hlt
    have hv := hv0 (by omega)
    refine qZ 7 ?_
    refine stp (zA4 (v := .tuple #[.agg #[.int .i64 ((valS s o a).1.kind), .int .i64 ((valS s o a).1.size), .int .i64 ((valS s o a).1.words), .int .i64 ((valS s o a).1.kids), .int .u64 ((valS s o a).1.word)], .int .i64 ((valS s o a).2)]) rfl (qO5 _ (H.grow G) o ho a ha) ?_)
    intro w62 g63
    replace hc4 := g63.heap hc4
    replace hc10 := g63.heap hc10
    replace hc16 := g63.heap hc16
    replace hc37 := g63.heap hc37
    replace G := G.tr g63
    clear g63
    refine qZ 3 ?_
    refine stp (zA7 ?_)
    intro b64 w65 hb66 hc67 g68
    refine stn (qS hc67 ?_)
    intro w69 hc70 u71
    have g72 := g68.upd u71 hb66
    have hge73 := Nat.le_trans G.size hb66
    have ne74 := qN hc4 hb66
    have ne75 := qN hc10 hb66
    have ne76 := qN hc16 hb66
    have ne77 := qN hc37 hb66
    replace hc4 := g72.heap hc4
    replace hc10 := g72.heap hc10
    replace hc16 := g72.heap hc16
    replace hc37 := g72.heap hc37
    replace G := G.tr g72
    clear u71 g68 hb66 hc67
    refine qZ 6 ?_
    refine stn (qS hc16 ?_)
    intro w78 hc79 u80
    replace hc4 := u80.heap hc4 ne19
    replace hc10 := u80.heap hc10 ne20
    replace hc37 := u80.heap hc37 ne43.symm
    replace hc70 := u80.heap hc70 ne76.symm
    replace G := G.upd u80 hge18
    clear u80 hc16
    refine qZ 3 ?_
    refine ret2 (zA5 rfl hc79 (by rfl)) (zA1 (v := .int .i64 ((valS s o a).2)) rfl) ⟨?_, G⟩
    rw [hv]
theorem qL7 (w : World) {u : Value} {A : List (List Int)} (hA : zG2 w u A) (hr : zC7 A = true) (hx : AllU A) {ad : Option Addr} {c : Nat} {steps : List Int} {a cost : Int} (R : RowAt w 1 ad steps.length (steps.map (.int .i64))) (ha : inR .i64 a) (hc : 0 ≤ cost ∧ cost ≤ 9000000000000000000) : zB6 Tryz.prog 14 #[u, .agg #[.slice ad steps.length c, .int .i64 a], .int .i64 cost] w (.tuple #[.agg #[.int .i64 ((zE8 (zB0 A) steps a cost).1.kind), .int .i64 ((zE8 (zB0 A) steps a cost).1.size), .int .i64 ((zE8 (zB0 A) steps a cost).1.words), .int .i64 ((zE8 (zB0 A) steps a cost).1.kids), .int .u64 ((zE8 (zB0 A) steps a cost).1.word)], .int .i64 ((zE8 (zB0 A) steps a cost).2)]) := by
 have hA0 := hA
 obtain ⟨r1, r2, r3, r4⟩ := qT hr
 have hl : ∀ i, len2 A i ≤ 140737488355328 := fun i => by have := zK8 A i; omega
 obtain ⟨ada, ca, segs, sa, sc, rfl, hca, hca2, RA, hsf, hrf⟩ := hA.fn
 have G := Grow.rfl' w
 refine zA8 Tryz.func14 Tryz.ntmps14 Tryz.results14 rfl rfl ?_
 refine qZ 2 ?_
 refine stp ?_
 refine qC ?_
 intro b1 w2 hb3 hc4 g5
 have hge6 := Nat.le_trans G.size hb3
 replace G := G.tr g5
 clear g5 hb3
 refine stp (zA7 ?_)
 intro b7 w8 hb9 hc10 g11
 refine qZ 6 ?_
 have hge12 := Nat.le_trans G.size hb9
 have ne13 := qN hc4 hb9
 replace hc4 := g11.heap hc4
 replace G := G.tr g11
 clear g11 hb9
 refine stp (zA4 (v := .bool true) rfl (zJ0 (qN4 _ (hA0.grow G) (by omega)) (y := .bool true) (by rw [hr])) ?_)
 intro w14 g15
 replace hc4 := g15.heap hc4
 replace hc10 := g15.heap hc10
 replace G := G.tr g15
 clear g15
 refine stp (yI3 rfl rfl ?_)
 refine zA6 ?_
 refine zN5 rfl ?_
 refine qZ 4 ?_
 refine stp (zA9 (v := .agg #[.slice ada A.length ca, .bool false, .slice none 0 0]) (fun w => by kernel_rfl) ?_)
 refine qZ 2 ?_
 refine stp (zA4 (v := .tuple #[.agg #[.int .i64 ((zE8 (zB0 A) steps a cost).1.kind), .int .i64 ((zE8 (zB0 A) steps a cost).1.size), .int .i64 ((zE8 (zB0 A) steps a cost).1.words), .int .i64 ((zE8 (zB0 A) steps a cost).1.kids), .int .u64 ((zE8 (zB0 A) steps a cost).1.word)], .int .i64 ((zE8 (zB0 A) steps a cost).2)]) rfl (qU0 _ (yF1 (uh := .slice none 0 0) (hA0.grow G) (by omega) hx hl) (R.grow G) ha hc) ?_)
 intro w16 g17
 replace hc4 := g17.heap hc4
 replace hc10 := g17.heap hc10
 replace G := G.tr g17
 clear g17
 refine qZ 3 ?_
 refine stp (zA7 ?_)
 intro b18 w19 hb20 hc21 g22
 refine stn (qS hc21 ?_)
 intro w23 hc24 u25
 have g26 := g22.upd u25 hb20
 have hge27 := Nat.le_trans G.size hb20
 have ne28 := qN hc4 hb20
 have ne29 := qN hc10 hb20
 replace hc4 := g26.heap hc4
 replace hc10 := g26.heap hc10
 replace G := G.tr g26
 clear u25 g22 hb20 hc21
 refine qZ 6 ?_
 refine stn (qS hc10 ?_)
 intro w30 hc31 u32
 replace hc4 := u32.heap hc4 ne13
 replace hc24 := u32.heap hc24 ne29.symm
 replace G := G.upd u32 hge12
 clear u32 hc10
 refine qZ 3 ?_
 refine ret2 (zA5 rfl hc31 (by rfl)) (zA1 (v := .int .i64 ((zE8 (zB0 A) steps a cost).2)) rfl) ⟨?_, G⟩
 rfl
end Go.Proofs.YtkkbbhpbcfcplaaGreat.K
namespace Go.Proofs.YtkkbbhpbcfcplaaGreat.K
open Go Go.RowKit
structure AgN (s' : Src) (A : List (List Int)) (l : List Spn) : Prop where
  sizes : s'.sizes = (zB0 A).sizes
  word : ∀ seg a : Int, zG4 (zB3 A) seg a < 0 ∨ (zG4 (zB3 A) seg a, zG4 (zB3 A) seg a + 1) ∈ l → s'.word seg a = (zB0 A).word seg a
section
variable {A : List (List Int)} {s' : Src}
theorem AgN.note2 {l : List Spn} {seg a : Int} (h : AgN s' A (zI9 A l seg a)) : s'.word seg a = (zB0 A).word seg a ∧ AgN s' A l := by
  unfold zI9 at h
  by_cases h1 : zG4 (zB3 A) seg a < 0
  · rw [if_pos h1] at h; exact ⟨h.word _ _ (.inl h1), h⟩
  · rw [if_neg h1] at h
    exact ⟨h.word _ _ (.inr (by simp)), h.sizes, fun x y hxy => h.word x y (hxy.imp id fun g => List.mem_append_left _ g)⟩
theorem AgN.found {l : List Spn} (h : AgN s' A l) (p : Pt) (seg a : Int) : zB4 s' p seg a = zB4 (zB0 A) p seg a := by unfold zB4; rw [h.sizes]
theorem zS8 {l : List Spn} {seg a : Int} (hc : AgN s' A (zF2 A l seg a)) : zA0 s' seg a = zA0 (zB0 A) seg a ∧ AgN s' A l := by
  have hn : AgN s' A (zI9 A l seg a) := by
    unfold zF2 at hc
    split at hc
    · exact hc
    · split at hc
      · exact hc.note2.2.note2.2
      · exact hc.note2.2
  have hc0 := hn
  refine ⟨?_, hn.note2.2⟩
  have hw := hn.note2.1
  have hp : ptrS s' seg a = ptrS (zB0 A) seg a := by unfold ptrS; rw [hw]
  unfold zA0
  rw [hp]
  by_cases h1 : (ptrS (zB0 A) seg a).2 ≠ 0 ∨ (ptrS (zB0 A) seg a).1.kind = 0
  · rw [if_pos h1, if_pos h1]
  · rw [if_neg h1, if_neg h1]
    by_cases h2 : zH4 (ptrS (zB0 A) seg a).1 = true
    · rw [if_pos h2, if_pos h2, hc0.found]
    · rw [if_neg h2, if_neg h2]
      have he : (ptrS (zB0 A) seg a).1 = pwT A seg a := by
        unfold ptrS
        split
        · rename_i h3; exact absurd h3 (fun h4 => h1 (.inl (by unfold ptrS; rw [if_pos h4]; exact h4)))
        · rfl
      rw [he] at h1 h2 ⊢
      have hk : (pwT A seg a).kind = 3 := by
        have hr := (qH9 (zH1 A seg a).1)
        have h3 : ¬ ((pwT A seg a).kind = 1 ∨ (pwT A seg a).kind = 2) := by simpa [zH4] using h2
        unfold pwT at *
        omega
      unfold zF2 at hc
      rw [if_neg (by omega)] at hc
      by_cases h3 : (pwT A seg a).dbl = true
      · rw [if_pos h3] at hc
        rw [if_pos h3, if_pos h3]
        have hv := hc.note2.2.note2.1
        have hx := hc.note2.1
        unfold zD6
        rw [hv, hx]
        simp only [hc0.found]
      · rw [if_neg h3] at hc
        rw [if_neg h3, if_neg h3]
        have hv := hc.note2.1
        have hq : ptrS s' (pwT A seg a).seg (pwT A seg a).off = ptrS (zB0 A) (pwT A seg a).seg (pwT A seg a).off := by unfold ptrS; rw [hv]
        unfold zD0
        rw [hq]
        simp only [hc0.found]
theorem yZ1 {l : List Spn} {o : Ob} {a : Int} (ho : ObK o) (hc : AgN s' A (endT A l o a)) : valS s' o a = valS (zB0 A) o a ∧ AgN s' A l := by
  have hcl : AgN s' A l := by
    unfold endT at hc
    split at hc
    · exact hc
    · exact hc.note2.2
  refine ⟨?_, hcl⟩
  unfold valS
  by_cases h0 : a < 0
  · rw [if_pos h0, if_pos h0]
  · rw [if_neg h0, if_neg h0]
    have hat : atS s' o a = atS (zB0 A) o a := by
      unfold atS
      by_cases h1 : o.kind = 0 ∨ (o.kind = 1 ∧ a ≥ o.data)
      · rw [if_pos h1, if_pos h1]
      · rw [if_neg h1, if_neg h1]
        have hnn : ¬ (a < 0 ∨ o.kind = 0 ∨ (o.kind = 1 ∧ a ≥ o.data)) := by omega
        unfold endT at hc
        rw [if_neg hnn] at hc
        have hw := hc.note2.1
        by_cases h2 : o.kind = 1
        · rw [if_neg (by omega)] at hw
          rw [if_pos h2, if_pos h2, hw]
        · rw [if_neg h2, if_neg h2]
          have hk2 : o.kind = 2 ∧ (o.size = 2 ∨ o.size = 5 ∨ o.size = 6) := by
            rcases ho with rfl | ⟨g1, -⟩ | ⟨g1, -, -, g2⟩
            · exact absurd (.inl rfl) h1
            · exact absurd g1 h2
            · exact ⟨g1, g2⟩
          by_cases h3 : o.size = 6
          · rw [if_pos h3, if_pos h3]
          · rw [if_neg h3, if_neg h3]
            by_cases h4 : a ≥ o.count
            · rw [if_pos h4, if_pos h4]
            · rw [if_neg h4, if_neg h4]
              by_cases h5 : o.size = 5
              · rw [if_neg (by omega)] at hw
                rw [if_pos h5, if_pos h5, hw]
              · rw [if_pos (by omega)] at hw
                rw [if_neg h5, if_neg h5, hw]
    rw [hat]
theorem qG0 (a : Int) : ∀ (ks : List Int) (l : List Spn) (o : Ob) (left : Int), ObK o → AgN s' A (endT A (goT A ks l o).1 (goT A ks l o).2 a) → (zN9 (zB0 A) a ks o left).2 = 0 → zN9 s' a ks o left = zN9 (zB0 A) a ks o left ∧ AgN s' A l
  | [], l, o, left, ho, hc, h0 => by rw [zN9, zN9]; exact yZ1 ho hc
  | k :: ks, l, o, left, ho, hc, h0 => by
    rw [zN9] at h0
    rw [zN9, zN9]
    have key : zD9 s' o k = zD9 (zB0 A) o k → ((zD9 (zB0 A) o k).2 = 0 → ∀ left', (zN9 (zB0 A) a ks (zD9 (zB0 A) o k).1 left').2 = 0 → zN9 s' a ks (zD9 (zB0 A) o k).1 left' = zN9 (zB0 A) a ks (zD9 (zB0 A) o k).1 left') →
        (if (zD9 s' o k).2 ≠ 0 then (Vl0, (zD9 s' o k).2) else if left - (1 + zB8 (zD9 s' o k).1) < 0 then (Vl0, 22) else zN9 s' a ks (zD9 s' o k).1 (left - (1 + zB8 (zD9 s' o k).1))) =
        (if (zD9 (zB0 A) o k).2 ≠ 0 then (Vl0, (zD9 (zB0 A) o k).2) else if left - (1 + zB8 (zD9 (zB0 A) o k).1) < 0 then (Vl0, 22) else zN9 (zB0 A) a ks (zD9 (zB0 A) o k).1 (left - (1 + zB8 (zD9 (zB0 A) o k).1))) := fun he hx => by
      rw [he]
      by_cases g1 : (zD9 (zB0 A) o k).2 ≠ 0
      · rw [if_pos g1, if_pos g1]
      · rw [if_neg g1, if_neg g1]
        rw [if_neg g1] at h0
        by_cases g2 : left - (1 + zB8 (zD9 (zB0 A) o k).1) < 0
        · rw [if_pos g2, if_pos g2]
        · rw [if_neg g2, if_neg g2]
          rw [if_neg g2] at h0
          exact hx (by omega) _ h0
    have hst0 : (zD9 (zB0 A) o k).2 = 0 := by
      by_cases g1 : (zD9 (zB0 A) o k).2 ≠ 0
      · rw [if_pos g1] at h0; exact absurd h0 g1
      · omega
    rw [goT] at hc
    by_cases h1 : o.kind = 0 ∨ (o.kind = 1 ∧ k ≥ o.ptrs)
    · rw [if_pos h1] at hc
      have e1 : ∀ s, zD9 s o k = (Ob0, 0) := fun s => by unfold zD9; rw [if_pos h1]
      have hcl : AgN s' A l := by
        have g0 := h0
        rw [e1, if_neg (by simp)] at g0
        by_cases g2 : left - (1 + zB8 (Ob0, (0 : Int)).1) < 0
        · rw [if_pos g2] at g0; simp at g0
        · rw [if_neg g2] at g0; exact (qG0 a ks l Ob0 _ (.inl rfl) hc g0).2
      exact ⟨key (by rw [e1, e1]) fun _ left' g => by rw [e1] at g ⊢; exact (qG0 a ks l Ob0 left' (.inl rfl) hc g).1, hcl⟩
    · rw [if_neg h1] at hc
      have e1 : ∀ s, (zD9 s o k = zA0 s o.seg (atT o k)) ∨ (zD9 (zB0 A) o k).2 ≠ 0 := fun s => by
        by_cases h2 : o.kind = 1
        · left; unfold zD9 atT; rw [if_neg h1, if_pos h2, if_pos h2]
        · by_cases h3 : o.size ≠ 6
          · right; unfold zD9; rw [if_neg h1, if_neg h2, if_pos h3]; simp
          · by_cases h4 : k ≥ o.count
            · right; unfold zD9; rw [if_neg h1, if_neg h2, if_neg h3, if_pos h4]; simp
            · left; unfold zD9 atT; rw [if_neg h1, if_neg h2, if_neg h3, if_neg h4, if_neg h2]
      have e2 := fun s => (e1 s).resolve_right (by omega)
      have ih := fun left' g => qG0 a ks (zF2 A l o.seg (atT o k)) (zA0 (zB0 A) o.seg (atT o k)).1 left' (zN3 _ _ _) hc g
      have hcl : AgN s' A (zF2 A l o.seg (atT o k)) := by
        have g0 := h0
        rw [if_neg (by omega)] at g0
        by_cases g2 : left - (1 + zB8 (zD9 (zB0 A) o k).1) < 0
        · rw [if_pos g2] at g0; simp at g0
        · rw [if_neg g2, e2] at g0; exact (ih _ g0).2
      obtain ⟨f1, f2⟩ := zS8 hcl
      exact ⟨key (by rw [e2, e2, f1]) fun _ left' g => by rw [e2] at g ⊢; exact (ih left' g).1, f2⟩
theorem yT4 {ks : List Int} {a c : Int} (hc : AgN s' A (zJ4 A ks a)) (h0 : (zE8 (zB0 A) ks a c).2 = 0) : zE8 s' ks a c = zE8 (zB0 A) ks a c := by
  unfold zE8 at h0 ⊢
  by_cases h1 : ∃ k ∈ ks, k < 0
  · rw [if_pos h1, if_pos h1]
  · rw [if_neg h1] at h0
    rw [if_neg h1, if_neg h1]
    by_cases h2 : (ks.length : Int) > 32
    · rw [if_pos h2, if_pos h2]
    · rw [if_neg h2] at h0
      rw [if_neg h2, if_neg h2]
      by_cases h3 : (zA0 (zB0 A) 0 0).2 ≠ 0
      · rw [if_pos h3] at h0; exact absurd h0 h3
      · rw [if_neg h3] at h0
        by_cases h4 : max c (-1) - (1 + zB8 (zA0 (zB0 A) 0 0).1) < 0
        · rw [if_pos h4] at h0; simp at h0
        · rw [if_neg h4] at h0
          obtain ⟨g1, g2⟩ := qG0 a ks _ _ _ (zN3 _ _ _) hc h0
          obtain ⟨f1, -⟩ := zS8 g2
          rw [f1, if_neg h3, if_neg h3, if_neg h4, if_neg h4, g1]
end
/-! ### the other arena -/
section
variable {A B : List (List Int)}
theorem qL8 (hs : zB3 B = zB3 A) (l : List Spn) (seg a : Int) : zI9 B l seg a = zI9 A l seg a := by unfold zI9; rw [hs]
theorem qE8 (hs : zB3 B = zB3 A) {l : List Spn} {seg a : Int} (h : AgN (zB0 B) A (zF2 A l seg a)) : zF2 B l seg a = zF2 A l seg a := by
  have hn : AgN (zB0 B) A (zI9 A l seg a) := by
    unfold zF2 at h
    split at h
    · exact h
    · split at h
      · exact h.note2.2.note2.2
      · exact h.note2.2
  have hp : pwT B seg a = pwT A seg a := by
    have h1 := hn.note2.1
    unfold pwT
    exact congrArg (fun x => decP x.1) h1
  unfold zF2
  rw [hp]
  simp only [qL8 hs]
theorem yC2 (a : Int) : ∀ (ks : List Int) (l : List Spn) (o : Ob), AgN (zB0 B) A (endT A (goT A ks l o).1 (goT A ks l o).2 a) → AgN (zB0 B) A l
  | [], l, o, h => by
    rw [goT] at h
    unfold endT at h
    split at h
    · exact h
    · exact h.note2.2
  | k :: ks, l, o, h => by
    rw [goT] at h
    split at h
    · exact yC2 a ks l Ob0 h
    · exact (zS8 (yC2 a ks _ _ h)).2
theorem qO6 (hs : zB3 B = zB3 A) (a : Int) : ∀ (ks : List Int) (l : List Spn) (o : Ob), AgN (zB0 B) A (endT A (goT A ks l o).1 (goT A ks l o).2 a) → goT B ks l o = goT A ks l o
  | [], l, o, h => rfl
  | k :: ks, l, o, h => by
    rw [goT] at h
    rw [goT, goT]
    by_cases h1 : o.kind = 0 ∨ (o.kind = 1 ∧ k ≥ o.ptrs)
    · rw [if_pos h1] at h
      rw [if_pos h1, if_pos h1]
      exact qO6 hs a ks l Ob0 h
    · rw [if_neg h1] at h
      rw [if_neg h1, if_neg h1]
      have h2 := yC2 a ks _ _ h
      rw [qE8 hs h2, (zS8 h2).1]
      exact qO6 hs a ks _ _ h
theorem qY8 (hs : zB3 B = zB3 A) {ks : List Int} {a : Int} (h : AgN (zB0 B) A (zJ4 A ks a)) : zJ4 B ks a = zJ4 A ks a := by
  have h2 := yC2 a ks _ _ h
  have h3 := zS8 h2
  unfold zJ4
  rw [qE8 hs h2, h3.1, qO6 hs a ks _ _ h]
  unfold endT
  simp only [qL8 hs]
end
/-! ### all words but the touched are other ones -/
def othW (N : List Spn) (f : Nat → Int) (F : List Int) (n : Nat) : Int := if (∃ s ∈ N, s.1 ≤ (n : Int) ∧ (n : Int) < s.2) then F.getD n 0 else f n
theorem yT5 {A B : List (List Int)} (hA : zC7 A = true) (hB : zC7 B = true) (hs : zB3 B = zB3 A) {ks : List Int} {a : Int} {f : Nat → Int} (hf : ∀ n, n < A.flatten.length → B.flatten.getD n 0 = othW (nrm (zJ4 A ks a)) f A.flatten n) : AgN (zB0 B) A (zJ4 A ks a) := by
  refine ⟨by show zB3 B = zB3 A; exact hs, fun seg x hx => ?_⟩
  show zH1 B seg x = zH1 A seg x
  rcases zU0 hA seg x with ⟨h1, h2⟩ | ⟨k, h1, h2, h3⟩
  · rcases zU0 hB seg x with ⟨g1, g2⟩ | ⟨k', g1, g2, g3⟩
    · rw [h2, g2]
    · rw [hs] at g1; omega
  · rcases zU0 hB seg x with ⟨g1, g2⟩ | ⟨k', g1, g2, g3⟩
    · rw [hs] at g1; omega
    · rw [hs] at g1
      have hk : k' = k := by omega
      subst hk
      rw [g3, h3, hf k' h2]
      have hin : inS (nrm (zJ4 A ks a)) k' := ((yU0 _).pts k').2 ⟨_, hx.resolve_left (by omega), by show zG4 (zB3 A) seg x ≤ _; omega, by show _ < zG4 (zB3 A) seg x + 1; omega⟩
      have hin2 : ∃ s ∈ nrm (zJ4 A ks a), s.1 ≤ (k' : Int) ∧ (k' : Int) < s.2 := hin
      unfold othW
      rw [if_pos hin2]
theorem qJ3 {A B : List (List Int)} (hA : zC7 A = true) (hB : zC7 B = true) (hs : zB3 B = zB3 A) {ks : List Int} {a c : Int} {f : Nat → Int} (hf : ∀ n, n < A.flatten.length → B.flatten.getD n 0 = othW (nrm (zJ4 A ks a)) f A.flatten n) (h0 : (zE8 (zB0 A) ks a c).2 = 0) :
    zE8 (zB0 B) ks a c = zE8 (zB0 A) ks a c ∧ zJ4 B ks a = zJ4 A ks a := by
  have h := yT5 hA hB hs hf
  exact ⟨yT4 h h0, qY8 hs h⟩
theorem qD5 {a b : List Int} {n : Nat} (h : n < a.length) : (a ++ b).getD n 0 = a.getD n 0 := by
  simp [List.getD_eq_getElem?_getD, List.getElem?_append_left h]
theorem qD6 {a b : List Int} {n : Nat} : (a ++ b).getD (a.length + n) 0 = b.getD n 0 := by
  simp [List.getD_eq_getElem?_getD, List.getElem?_append_right]
theorem qU1 {A : List (List Int)} {i : Nat} (h : i < A.length) : (A.take (i + 1)).flatten.length = (A.take i).flatten.length + len2 A i := by
  rw [List.take_succ_eq_append_getElem h, List.flatten_append, List.length_append]
  rw [len2, zE5 h]
  simp
theorem qU2 (A : List (List Int)) (i : Nat) : (A.take i).flatten.length ≤ A.flatten.length := by
  have h : A.flatten = (A.take i).flatten ++ (A.drop i).flatten := by rw [← List.flatten_append, List.take_append_drop]
  rw [h, List.length_append]
  omega
theorem yO2 : ∀ (A : List (List Int)) (i j : Nat), i < A.length → j < len2 A i → A.flatten.getD ((A.take i).flatten.length + j) 0 = (A.getD i []).getD j 0
  | [], i, j, h, _ => by simp at h
  | s :: A, 0, j, _, hj => by
    have hj2 : j < s.length := by simpa [len2] using hj
    rw [List.take_zero, List.flatten_nil, List.length_nil, Nat.zero_add, List.flatten_cons, qD5 hj2]
    rfl
  | s :: A, i + 1, j, h, hj => by
    have hj2 : j < len2 A i := by simpa [len2] using hj
    have h1 := yO2 A i j (by simpa using h) hj2
    have h2 : ((s :: A).take (i + 1)).flatten.length = s.length + (A.take i).flatten.length := by rw [List.take_succ_cons, List.flatten_cons, List.length_append]
    have h3 : (s :: A).flatten = s ++ A.flatten := List.flatten_cons
    rw [h2, h3, Nat.add_assoc, qD6, h1]
    rfl
theorem qL9 : ∀ (A : List (List Int)), (A.flatten.length : Int) = zC4 A
  | [] => rfl
  | s :: A => by
    have := qL9 A
    rw [List.flatten_cons, List.length_append, zC4]
    omega
theorem qM0 {A : List (List Int)} (h : zC7 A = true) : A.flatten.length ≤ 4096 := by
  unfold zC7 at h
  obtain ⟨-, -, -, h4⟩ := qT h
  have := qL9 A
  omega
structure OthB (N : List Spn) (f : Nat → Int) (A B : List (List Int)) : Prop where
  le : B.length ≤ A.length
  seg : ∀ j, j < B.length → len2 B j = len2 A j
  fl : B.flatten.length = (A.take B.length).flatten.length
  at_ : ∀ n, n < B.flatten.length → B.flatten.getD n 0 = othW N f A.flatten n
  u : AllU B
theorem OthB.nil (N : List Spn) (f : Nat → Int) (A : List (List Int)) : OthB N f A [] :=
  ⟨Nat.zero_le _, fun j h => by simp at h, by simp, fun n h => by simp at h, fun q hq => by simp at hq⟩
theorem OthB.push {N : List Spn} {f : Nat → Int} {A B : List (List Int)} (h : OthB N f A B) (hl : B.length < A.length) {ws : List Int} (hw : ws.length = len2 A B.length)
    (hv : ∀ m, m < ws.length → ws.getD m 0 = othW N f A.flatten (B.flatten.length + m)) (hu : ∀ x ∈ ws, inR .u64 x) : OthB N f A (B ++ [ws]) := by
  have hfl : (B ++ [ws]).flatten = B.flatten ++ ws := by simp
  refine ⟨by simp; omega, fun j hj => ?_, ?_, fun n hn => ?_, fun q hq => ?_⟩
  · simp only [List.length_append, List.length_singleton] at hj
    by_cases h1 : j < B.length
    · rw [← h.seg j h1]
      simp [len2, List.getD_eq_getElem?_getD, List.getElem?_append_left h1]
    · obtain rfl : j = B.length := by omega
      rw [← hw]
      simp [len2, List.getD_eq_getElem?_getD]
  · rw [hfl, List.length_append, List.length_append, List.length_singleton, qU1 hl, h.fl, hw]
  · rw [hfl] at hn ⊢
    rw [List.length_append] at hn
    by_cases h1 : n < B.flatten.length
    · rw [qD5 h1]; exact h.at_ n h1
    · obtain ⟨m, rfl⟩ : ∃ m, n = B.flatten.length + m := ⟨n - B.flatten.length, by omega⟩
      rw [qD6]
      exact hv m (by omega)
  · rcases List.mem_append.1 hq with h1 | h1
    · exact h.u q h1
    · simp only [List.mem_singleton] at h1
      subst h1
      exact hu
theorem OthB.done {N : List Spn} {f : Nat → Int} {A B : List (List Int)} (h : OthB N f A B) (hl : B.length = A.length) (hr : zC7 A = true) :
    zB3 B = zB3 A ∧ zC7 B = true ∧ ∀ n, n < A.flatten.length → B.flatten.getD n 0 = othW N f A.flatten n := by
  have hs : zB3 B = zB3 A := by
    refine List.ext_getElem (by rw [zF0, zF0, hl]) fun i h1 h2 => ?_
    have h3 := zH3 B i
    have h4 := zH3 A i
    rw [zE5 h1] at h3
    rw [zE5 h2] at h4
    rw [zF0] at h1
    rw [h3, h4, h.seg i h1]
  refine ⟨hs, by rw [← zS5, hs, zS5]; exact hr, fun n hn => h.at_ n ?_⟩
  rw [h.fl, hl, List.take_length]
  exact hn
def othF (o : Int) (n : Nat) : Int := IntKind.u64.wrap (o + IntKind.u64.wrap ((n : Int) * 11400714819323198485))
theorem jB7 {N : List Spn} {f : Nat → Int} {F : List Int} {n : Nat} {v : Int} (h : hasP N (n : Int) = true) (hv : F.getD n 0 = v) : v = othW N f F n := by
  unfold othW
  rw [if_pos (show ∃ s ∈ N, s.1 ≤ (n : Int) ∧ (n : Int) < s.2 from qF9.1 h)]
  exact hv.symm
theorem yZ2 {N : List Spn} {f : Nat → Int} {F : List Int} {n : Nat} (h : hasP N (n : Int) = false) : f n = othW N f F n := by
  unfold othW
  rw [if_neg (show ¬ ∃ s ∈ N, s.1 ≤ (n : Int) ∧ (n : Int) < s.2 from fun h2 => by rw [qF9.2 h2] at h; cases h)]
theorem yZ3 {ws : List Int} {x : Int} {g : Nat → Int} (h : ∀ m, m < ws.length → ws.getD m 0 = g m) (hx : x = g ws.length) : ∀ m, m < (ws ++ [x]).length → (ws ++ [x]).getD m 0 = g m := fun m hm => by
  rw [List.length_append, List.length_singleton] at hm
  by_cases h1 : m < ws.length
  · rw [qD5 h1]; exact h m h1
  · obtain rfl : m = ws.length + 0 := by omega
    rw [qD6]
    exact hx
theorem yZ4 {A : List (List Int)} (h : AllU A) {i j : Nat} (hi : i < A.length) (hj : j < len2 A i) : inR .u64 ((A.getD i []).getD j 0) := by
  have hg : A.getD i [] = A[i] := by simp [List.getD_eq_getElem?_getD, hi]
  rw [len2, hg] at hj
  rw [hg, zE5 hj]
  exact h _ (List.getElem_mem hi) _ (List.getElem_mem hj)
theorem mem_flat : ∀ {A : List (List Int)} {s : List Int}, s ∈ A → s.length ≤ A.flatten.length
  | [], s, h => by simp at h
  | t :: A, s, h => by
    rw [List.flatten_cons, List.length_append]
    rcases List.mem_cons.1 h with rfl | h
    · omega
    · have := mem_flat h
      omega
end Go.Proofs.YtkkbbhpbcfcplaaGreat.K
namespace Go.Proofs.YtkkbbhpbcfcplaaGreat.K
open Go Go.RowKit Go.Proofs
attribute [local irreducible] Run1 OpG WL W AO zB6
theorem qY9 (w : World) {ad ae : Option Addr} {cp cq : Nat} {xs ys : List Int} (R : RowAt w 1 ad xs.length (xs.map (.int .u8))) (hx : ∀ x ∈ xs, inR .u8 x) (hcp : xs.length ≤ cp) (hcp2 : cp ≤ maxLen) (R2 : RowAt w 1 ae ys.length (ys.map (.int .u8))) (hy : ∀ x ∈ ys, inR .u8 x) {k : Int} (k0 : 0 ≤ k) (k1 : k ≤ 255) {j_ : Int} (j0 : 0 ≤ j_) (j1 : j_ ≤ 255) {o_ : Int} (o0 : 0 ≤ o_) (o1 : o_ ≤ 18446744073709551615) : zB6 Tryz.prog 3 #[.slice ad xs.length cp, .slice ae ys.length cq, .int .u8 k, .int .u8 j_, .int .u64 o_] w (.bool true) := by
 have lR := R.lim
 have G := Grow.rfl' w
 refine zA8 Tryz.func3 Tryz.ntmps3 Tryz.results3 rfl rfl ?_
 refine qZ 9 ?_
 refine stp (zN7 rfl rfl ?_)
 refine zA6 ?_
 refine zA2 (b := (decide ((xs.length : Int) > 200))) rfl (fun h1 => ?_) (fun h1 => ?_)
 ·
  replace h1 := qT h1
  refine qZ 2 ?_
  refine stp (zA4 (v := .bool true) rfl (zU4 _) ?_)
  intro w1 g2
  replace G := G.tr g2
  clear g2
  refine qZ 3 ?_
  refine ret1 (zA1 (v := .bool true) rfl) ⟨?_, G⟩
  rfl
 ·
  replace h1 := qF h1
  have hl : xs.length ≤ 200 := by omega
  refine qZ 5 ?_
  refine stp ?_
  refine zD7 rfl (yG4 _ (R.grow G) hx hcp hcp2 hl (ys := []) (RowAt.empty _ _ _) (by simp) k0 k1) ?_
  rintro v_ w3 ⟨adp, cp, sgp, Ap, rfl, hOp, hBp, g_⟩
  replace G := G.tr g_
  clear g_
  obtain ⟨hrp, hup, -, -, h1p, h16p, hsp⟩ := yM6.ok hBp hx hl
  have hAp := hOp.arena (by omega) hsp
  clear hOp
  refine qZ 6 ?_
  refine stp ?_
  have hcal := yG5 _ (cp := cq) (R2.grow G) rfl hy j0 j1
  obtain ⟨PS, hPS⟩ : ∃ P_, P_ = yD2 ys := ⟨_, rfl⟩
  rw [← hPS] at hcal
  refine zD7 rfl hcal ?_
  rintro v_ w4 ⟨adx, cx, rfl, RX, g_⟩
  clear hcal hPS
  replace hAp := hAp.grow g_
  replace G := G.tr g_
  clear g_
  refine stp (zA7 ?_)
  intro b5 w6 hb7 hc8 g9
  refine stn (qS hc8 ?_)
  intro w10 hc11 u12
  have g13 := g9.upd u12 hb7
  have hge14 := Nat.le_trans G.size hb7
  replace hAp := hAp.grow g13
  replace RX := RX.grow g13
  replace G := G.tr g13
  clear u12 g9 hb7 hc8
  refine qZ 5 ?_
  refine stp ?_
  obtain ⟨V1, hV1⟩ : ∃ x_, x_ = zE8 (zB0 Ap) PS (j_ % 12 - 2) 8192 := ⟨_, rfl⟩
  obtain ⟨L1, hL1⟩ : ∃ x_, x_ = nrm (zJ4 Ap PS (j_ % 12 - 2)) := ⟨_, rfl⟩
  have hcal := zR4 _ hAp hrp hup (ks := PS) (a := (j_ % 12 - 2)) (c := cx) RX (by simp only [inR]; omega)
  rw [← hV1, ← hL1] at hcal
  refine zD7 rfl hcal ?_
  rintro v_ w ⟨adt1, nt1, ct1, rfl, ht1, hu1, g_⟩
  clear hcal
  replace hAp := hAp.grow g_
  replace RX := RX.grow g_
  replace hc11 := g_.heap hc11
  replace G := G.tr g_
  clear g_
  have G0 := G
  replace G : Grow w w := Grow.rfl' _
  refine qZ 10 ?_
  refine stp (zG9 rfl rfl ?_)
  refine zA6 ?_
  refine zA2 (b := (decide (V1.2 ≠ 0))) rfl (fun h2 => ?_) (fun h2 => ?_)
  ·
   replace h2 := qT h2
   refine qZ 2 ?_
   refine stp (zA4 (v := .bool true) rfl (zU4 _) ?_)
   intro w15 g16
   replace G := G.tr g16
   clear g16
   refine qZ 3 ?_
   refine ret1 (zA1 (v := .bool true) rfl) ⟨?_, G0.tr G⟩
   rfl
  ·
   replace h2 := qF h2
   have hz1 : V1.2 = 0 := by omega
   obtain ⟨hn1, -, -, hR1⟩ := ht1 hz1
   clear ht1 hu1
   subst hn1
   obtain ⟨ada, ca, segsa, sa, sc, hsl9, hca, hca2, RA, hsf, hrf⟩ := id hAp.fn
   simp only [Value.slice.injEq] at hsl9
   obtain ⟨e1_, -, -⟩ := hsl9
   rw [← e1_] at RA
   clear hca hca2 e1_
   have hflr := qM0 hrp
   refine qZ 15 ?_
   refine zF5 (fun m_ e_ w_ => ∃ (ado : Option Addr) (co : Nat) (segs : List Value) (B : List (List Int)), m_ = Ap.length - B.length ∧ Fr [(4, .int .u64 o_), (10, .bool false), (11, .slice adp Ap.length cp), (12, .pointer (some ⟨b5, 0, none⟩)), (13, .slice adt1 L1.length ct1), (17, .int .i64 (B.length : Int)), (16, .int .i64 (B.flatten.length : Int)), (15, .slice ado B.length co)] e_ ∧ (OthB L1 (othF o_) Ap B) ∧ (OwnA 37 23 w_ w.heap.size (.slice ado B.length co) segs B) ∧ Grow w w_) _ ⟨none, 0, [], [], rfl, zC6 ⟨rfl, rfl, rfl, rfl, rfl, rfl, rfl, rfl, trivial⟩, OthB.nil _ _ _, (OwnA.nil _ _ _ _), G⟩ ?_
   clear G
   rintro m_ e_ w17 ⟨ado, co, segs, B, rfl, ⟨e18, rfl⟩, hO5, hO, G⟩
   refine qZ 6 ?_
   refine stp (zF6 rfl rfl ?_)
   refine zA6 ?_
   refine zA2 (b := (decide ((B.length : Int) < (Ap.length : Int)))) rfl (fun hlt => ?_) (fun hlt => ?_)
   ·
    replace hlt := qT hlt
    have hi : B.length < Ap.length := by omega
    have hft := qU1 hi
    have hfle := qU2 Ap (B.length + 1)
    have hO5f := hO5.fl
    obtain ⟨-, -, Rk⟩ := hrf B.length hi
    have lRk := Rk.lim
    refine qZ 13 ?_
    have hO0 := hO
    have G00 := G
    have hlow := hO.low
    refine zF5 (fun m_ e_ w_ => ∃ (j : Nat) (ws : List Int) (ad3 : Option Addr) (n3 : Nat) (c3 : Nat), m_ = len2 Ap B.length - j ∧ Fr [(4, .int .u64 o_), (10, .bool false), (11, .slice adp Ap.length cp), (12, .pointer (some ⟨b5, 0, none⟩)), (13, .slice adt1 L1.length ct1), (15, .slice ado B.length co), (17, .int .i64 (B.length : Int)), (19, .int .i64 (j : Int)), (16, .int .i64 ((B.flatten.length : Int) + (j : Int))), (18, .slice ad3 n3 c3)] e_ ∧ (j ≤ len2 Ap B.length) ∧ (ws.length = j) ∧ (∀ m, m < ws.length → ws.getD m 0 = othW L1 (othF o_) Ap.flatten (B.flatten.length + m)) ∧ (∀ x ∈ ws, inR .u64 x) ∧ (Grow w17 w_) ∧ (w_.ownsRow w17.heap.size 23 1 (.slice ad3 n3 c3) j (zJ1 ws)) ∧ Grow w w_) _ ⟨0, [], none, 0, 0, rfl, zC6 ⟨rfl, rfl, rfl, rfl, rfl, rfl, rfl, rfl, congrArg (Value.int .i64) (by omega), rfl, trivial⟩, by omega, rfl, fun m h_ => by simp at h_, by simp, Grow.rfl' _, World.ownsRow_nil _ _ _ _, G⟩ ?_
    clear G
    rintro m_ e_ w19 ⟨j, ws, ad3, n3, c3, rfl, ⟨e20, rfl⟩, hj, hwl, hwv, hwu, Gi, ownS, G⟩
    refine qZ 6 ?_
    refine stp (zC8 (RA.grow G) rfl rfl ?_ ?_); omega
    refine stp (zC5 (v := .slice (sa B.length) (len2 Ap B.length) (sc B.length)) (m := 0) (RA.grow G) rfl (by rw [Nat.mul_one]; exact hsf _ (by omega)) ?_)
    refine qZ 1 ?_
    refine stp (zF6 rfl rfl ?_)
    refine zA6 ?_
    refine zA2 (b := (decide ((j : Int) < ((len2 Ap B.length) : Int)))) rfl (fun hlj => ?_) (fun hlj => ?_)
    ·
     replace hlj := qT hlj
     have hjl : j < len2 Ap B.length := by omega
     have hjl2 : j < (Ap.getD B.length []).length := hjl
     refine qZ 7 ?_
     refine stp (zF7 rfl ?_ ?_); constructor <;> omega
     refine stp (zU5 rfl rfl ?_)
     refine stp (zG6 rfl rfl ?_)
     refine qZ 2 ?_
     refine qK0 (fun e_ w_ => ∃ (x : Int), Fr [(4, .int .u64 o_), (10, .bool false), (11, .slice adp Ap.length cp), (12, .pointer (some ⟨b5, 0, none⟩)), (13, .slice adt1 L1.length ct1), (15, .slice ado B.length co), (16, .int .i64 ((B.flatten.length : Int) + (j : Int))), (17, .int .i64 (B.length : Int)), (18, .slice ad3 n3 c3), (19, .int .i64 (j : Int)), (20, .int .u64 x)] e_ ∧ (inR .u64 x) ∧ (x = othW L1 (othF o_) Ap.flatten (B.flatten.length + j)) ∧ (Grow w17 w_) ∧ (w_.ownsRow w17.heap.size 23 1 (.slice ad3 n3 c3) j (zJ1 ws)) ∧ Grow w w_) ?_ ?_
     ·-- the parts
      refine qZ 4 ?_
      refine stp (zA4 (v := .bool (hasP L1 ((B.flatten.length : Int) + (j : Int)))) rfl (qY6 _ (hR1.grow G)) ?_)
      intro w21 g22
      replace Gi := Gi.tr g22
      replace ownS := zB7 ownS g22
      replace G := G.tr g22
      clear g22
      refine zA6 ?_
      refine zA2 (b := (hasP L1 ((B.flatten.length : Int) + (j : Int)))) rfl (fun h7 => ?_) (fun h7 => ?_)
      ·
       refine qZ 3 ?_
       refine stp (zC8 (RA.grow G) rfl rfl ?_ ?_); omega
       refine stp (zC5 (v := .slice (sa B.length) (len2 Ap B.length) (sc B.length)) (m := 0) (RA.grow G) rfl (by rw [Nat.mul_one]; exact hsf _ (by omega)) ?_)
       refine qZ 1 ?_
       refine stp (zC8 (Rk.grow G) rfl rfl ?_ ?_); omega
       refine stp (zC5 (v := .int .u64 ((Ap.getD B.length []).getD j 0)) (m := 0) (Rk.grow G) rfl (zE6 0 (by omega)) ?_)
       refine qZ 2 ?_
       exact ⟨(Ap.getD B.length []).getD j 0, zC6 ⟨rfl, rfl, rfl, rfl, rfl, rfl, rfl, rfl, rfl, rfl, rfl, trivial⟩, yZ4 hup hi hjl, jB7 (n := B.flatten.length + j) (by first | exact h7 | (rw [Int.natCast_add]; exact h7)) (by rw [hO5f]; exact yO2 Ap B.length j hi hjl), Gi, ownS, G⟩
      ·
       refine zX6 ?_
       exact ⟨IntKind.u64.wrap (o_ + IntKind.u64.wrap (((B.flatten.length : Int) + (j : Int)) * 11400714819323198485)), zC6 ⟨rfl, rfl, rfl, rfl, rfl, rfl, rfl, rfl, rfl, rfl, rfl, trivial⟩, zV6 _, (by rw [← yZ2 (f := othF o_) (F := Ap.flatten) (n := B.flatten.length + j) (by first | exact h7 | (rw [Int.natCast_add]; exact h7))]; unfold othF; rw [Int.natCast_add]), Gi, ownS, G⟩
     ·-- behind them
      clear Gi ownS
      clear G
      rintro e_ w23 ⟨x, ⟨e24, rfl⟩, hxr, hxv, Gi, ownS, G⟩
      refine qZ 4 ?_
      refine stp (zC3 (cs := #[.int .u64 x]) (el := 23) (fun w => by kernel_rfl) ?_)
      intro bs25 w26 hb27 hc28 g29
      have hge30 := Nat.le_trans G.size hb27
      replace Gi := Gi.tr g29
      replace ownS := zB7 ownS g29
      replace G := G.tr g29
      clear g29
      refine stp (zG1 rfl rfl rfl rfl ownS (Row.of_block (n := 1) hc28 rfl rfl (by omega)) (fun q_ hq_ => by simp at hq_; subst hq_; rfl) (by simp only [maxLen]; omega) (by omega) Gi.size ?_)
      intro v31 w32 own6 gr6
      replace G := G.grown gr6 (fun k_ hk_ => Nat.le_trans G00.size (zH8 ownS k_ hk_))
      replace Gi := Gi.grown gr6 (zH8 ownS)
      clear ownS gr6
      obtain ⟨ad4, n4, c4, rfl⟩ := zE0 own6
      refine qZ 4 ?_
      refine stp (zB5 rfl rfl ?_ ?_); constructor <;> omega
      refine qZ 4 ?_
      refine stp (zB5 rfl rfl ?_ ?_); constructor <;> omega
      refine qZ 2 ?_
      refine ⟨_, ?_, j + 1, ws ++ [x], ad4, n4, c4, rfl, zC6 ⟨rfl, rfl, rfl, rfl, rfl, rfl, rfl, congrArg (Value.int .i64) (by omega), congrArg (Value.int .i64) (by omega), rfl, trivial⟩, by omega, by simp [hwl], yZ3 hwv (by rw [hwl]; exact hxv), fun y hy_ => by rcases List.mem_append.1 hy_ with h_ | h_; exact hwu y h_; (simp only [List.mem_singleton] at h_; subst h_; exact hxr), Gi, (by rw [zJ1, List.map_append]; exact own6), G⟩
      omega
    ·
     replace hlj := qF hlj
     have hjz : j = len2 Ap B.length := by omega
     have hO := hO0.grow Gi
     refine qZ 4 ?_
     refine stp (zC3 (cs := #[.slice ad3 n3 c3]) (el := 37) (fun w => by kernel_rfl) ?_)
     intro bs33 w34 hb35 hc36 g37
     have hge38 := Nat.le_trans G.size hb35
     replace Gi := Gi.tr g37
     replace ownS := zB7 ownS g37
     replace hO := hO.grow g37
     replace G := G.tr g37
     clear g37
     refine stp ?_
     have ownS2 := ownS
     rw [← hwl] at ownS2
     have hout := hO.out
     have hp16 := h16p
     refine zG1 rfl rfl rfl rfl hout (Row.of_block (n := 1) hc36 rfl rfl (by omega)) (fun q_ hq_ => by simp at hq_; subst hq_; rfl) (by simp only [maxLen]; omega) (by omega) G.size ?_
     intro v39 w40 own6 gr6
     have hO6 := OwnA.push (by decide) hO (zT3 ownS2 G00.size) (fun i u b hu hb he_ => by have := hlow i u b hu hb; have := zH8 ownS b he_; omega) gr6 own6
     replace G := G.grown gr6 (zH8 hout)
     obtain ⟨ad9, n9, c9, rfl⟩ := zE0 own6
     have hn9 := yW6 own6
     subst hn9
     refine qZ 4 ?_
     refine stp (zB5 rfl rfl ?_ ?_); constructor <;> omega
     refine qZ 2 ?_
     have hpl : (B ++ [ws]).length = B.length + 1 := by simp
     have hpf : (B ++ [ws]).flatten.length = B.flatten.length + ws.length := by simp
     have hO5n := hO5.push hi (by rw [hwl]; exact hjz) hwv hwu
     rw [← hpl] at hO6
     refine ⟨_, ?_, ad9, c9, _, B ++ [ws], rfl, zC6 ⟨rfl, rfl, rfl, rfl, rfl, congrArg (Value.int .i64) (by omega), congrArg (Value.int .i64) (by omega), by rw [hpl]; rfl, trivial⟩, hO5n, hO6, G⟩
     omega
   ·
    replace hlt := qF hlt
    have hBl : B.length = Ap.length := by have := hO5.le; omega
    obtain ⟨hsz, hrB, hfB⟩ := hO5.done hBl hrp
    rw [hL1] at hfB
    obtain ⟨hsv, hst⟩ := qJ3 hrp hrB hsz (c := 8192) hfB (by rw [← hV1]; exact hz1)
    rw [← hV1] at hsv
    have huB := hO5.u
    have hfB2 := qM0 hrB
    have hB := hO.arena (by omega) (fun s_ hs_ => by have := mem_flat hs_; omega)
    clear hO
    replace hc11 := G.heap hc11
    refine qZ 5 ?_
    refine stp (zA4 (v := .tuple #[.agg #[.int .i64 V1.1.kind, .int .i64 V1.1.size, .int .i64 V1.1.words, .int .i64 V1.1.kids, .int .u64 V1.1.word], .int .i64 V1.2]) rfl (zJ0 (qL7 _ (hAp.grow G) hrp hup (RX.grow G) (a := j_ % 12 - 2) (by simp only [inR]; omega) (by decide)) (y := .tuple #[.agg #[.int .i64 V1.1.kind, .int .i64 V1.1.size, .int .i64 V1.1.words, .int .i64 V1.1.kids, .int .u64 V1.1.word], .int .i64 V1.2]) (by rw [← hV1])) ?_)
    intro w41 g42
    replace hB := hB.grow g42
    replace hc11 := g42.heap hc11
    replace G := G.tr g42
    clear g42
    refine qZ 3 ?_
    refine stp (zA7 ?_)
    intro b43 w44 hb45 hc46 g47
    refine stn (qS hc46 ?_)
    intro w48 hc49 u50
    have g51 := g47.upd u50 hb45
    have hge52 := Nat.le_trans G.size hb45
    have ne53 := qN hc11 hb45
    replace hB := hB.grow g51
    replace hc11 := g51.heap hc11
    replace G := G.tr g51
    clear u50 g47 hb45 hc46
    refine qZ 6 ?_
    refine stp (zA4 (v := .tuple #[.agg #[.int .i64 V1.1.kind, .int .i64 V1.1.size, .int .i64 V1.1.words, .int .i64 V1.1.kids, .int .u64 V1.1.word], .int .i64 V1.2]) rfl (zJ0 (qL7 _ hB hrB huB (RX.grow G) (a := j_ % 12 - 2) (by simp only [inR]; omega) (by decide)) (y := .tuple #[.agg #[.int .i64 V1.1.kind, .int .i64 V1.1.size, .int .i64 V1.1.words, .int .i64 V1.1.kids, .int .u64 V1.1.word], .int .i64 V1.2]) (by rw [hsv])) ?_)
    intro w54 g55
    replace hB := hB.grow g55
    replace hc11 := g55.heap hc11
    replace hc49 := g55.heap hc49
    replace G := G.tr g55
    clear g55
    refine qZ 3 ?_
    refine stp (zA7 ?_)
    intro b56 w57 hb58 hc59 g60
    refine stn (qS hc59 ?_)
    intro w61 hc62 u63
    have g64 := g60.upd u63 hb58
    have hge65 := Nat.le_trans G.size hb58
    have ne66 := qN hc11 hb58
    have ne67 := qN hc49 hb58
    replace hB := hB.grow g64
    replace hc11 := g64.heap hc11
    replace hc49 := g64.heap hc49
    replace G := G.tr g64
    clear u63 g60 hb58 hc59
    refine qZ 6 ?_
    refine stp ?_
    have hcal := zR4 _ hB hrB huB (ks := PS) (a := (j_ % 12 - 2)) (c := cx) (RX.grow G) (by simp only [inR]; omega)
    rw [hsv, hst, ← hL1] at hcal
    refine zD7 rfl hcal ?_
    rintro v_ w68 ⟨adt2, nt2, ct2, rfl, ht2, hu2, g_⟩
    clear hcal
    replace hB := hB.grow g_
    replace hc11 := g_.heap hc11
    replace hc49 := g_.heap hc49
    replace hc62 := g_.heap hc62
    replace G := G.tr g_
    clear g_
    obtain ⟨hn2, -, -, hR2⟩ := ht2 hz1
    clear ht2 hu2
    subst hn2
    refine qZ 8 ?_
    refine stp (zA4 (v := .bool true) rfl (zU4 _) ?_)
    intro w69 g70
    replace hB := hB.grow g70
    replace hc11 := g70.heap hc11
    replace hc49 := g70.heap hc49
    replace hc62 := g70.heap hc62
    replace hR2 := hR2.grow g70
    replace G := G.tr g70
    clear g70
    refine qZ 2 ?_
    refine stp (zT1 rfl rfl (hz1) ?_)
    refine stp (zJ6 (v := .bool true) rfl rfl rfl ?_)
    refine qZ 2 ?_
    refine stp (zT1 rfl rfl (hz1) ?_)
    refine stp (zJ6 (v := .bool true) rfl rfl rfl ?_)
    refine qZ 2 ?_
    refine stp (zT1 rfl rfl (hz1) ?_)
    refine stp (zJ6 (v := .bool true) rfl rfl rfl ?_)
    refine qZ 3 ?_
    refine stp (r_eqlS' (r' := true) rfl rfl (by rfl) (by simp) ?_)
    refine stp (zJ6 (v := .bool true) rfl rfl rfl ?_)
    refine qZ 3 ?_
    refine stp (zA4 (v := .bool true) rfl (zJ0 (qY7 _ (hR1.grow G) hR2) (y := .bool true) (by simp)) ?_)
    intro w71 g72
    replace hB := hB.grow g72
    replace hc11 := g72.heap hc11
    replace hc49 := g72.heap hc49
    replace hc62 := g72.heap hc62
    replace hR2 := hR2.grow g72
    replace G := G.tr g72
    clear g72
    refine stp (zJ6 (v := .bool true) rfl rfl rfl ?_)
    refine qZ 3 ?_
    refine ret1 (zA1 (v := .bool true) rfl) ⟨?_, G0.tr G⟩
    rfl
end Go.Proofs.YtkkbbhpbcfcplaaGreat.K
namespace Go.Proofs.YtkkbbhpbcfcplaaGreat.K
open Go Go.RowKit Go.ChangeShapes Go.WideShapes
section
variable {H : Type} {enc : TypeId × Value → H} {P : Program} {w : World}
structure Told (enc : TypeId × Value → H) (P : Program) (w : World) (fuel : Nat) (t : TypeId) (cs : List Value) : Prop where
  h : ∃ d p, DataW.trod enc P w 0 (fun _ => true) true fuel t cs = some (d, p) ∧ ∀ n ∈ d.weights P t, n ≤ reachBytes
theorem jC6 {ts : List TypeId} {ds : List (DataW H)} {j : Nat} {t : TypeId} {d : DataW H} {v : Value} {p : List MemPlace} (h : DataW.Trod enc P w 0 (fun _ => true) true t v d p) (hz : (DataW.weightsEach P ts ds).all (· ≤ reachBytes) = true) (ht : ts[j]? = some t) (hd : ds[j]? = some d) : ∃ fuel, Told enc P w fuel t v.cells.toList := by
  obtain ⟨fuel, hf⟩ := h
  exact ⟨fuel, ⟨d, p, hf, fun n hn => by simpa using List.all_eq_true.1 hz n (DataW.weights_mem_each ht hd n hn)⟩⟩
theorem yO3 {α β : Type} {f : α → Option β} : ∀ {l : List α} {r : List β}, l.mapM f = some r → ∀ (i : Nat) (x : α), l[i]? = some x → ∃ y, f x = some y ∧ r[i]? = some y := by
  intro l r h i x hx
  have h1 := mapM_some_get h i x hx
  have hl := mapM_some_length h
  have hi : i < r.length := by rw [hl]; exact (List.getElem?_eq_some_iff.1 hx).1
  rw [List.getElem?_eq_getElem hi] at h1
  exact ⟨_, h1, List.getElem?_eq_getElem hi⟩
theorem zY1 {e : TypeId} : ∀ {ds : List (DataW H)} {i : Nat} {d : DataW H}, ds[i]? = some d → ∀ n ∈ d.weights P e, n ∈ DataW.weightsAll P e ds
  | [], i, d, h, _, _ => by simp at h
  | x :: ds, 0, d, h, n, hn => by
    simp only [List.getElem?_cons_zero, Option.some.injEq] at h
    subst h
    simp only [DataW.weightsAll, List.mem_append]; exact .inl hn
  | x :: ds, i + 1, d, h, n, hn => by
    simp only [DataW.weightsAll, List.mem_append]; exact .inr (zY1 (by simpa using h) n hn)
theorem yG7 {t e : TypeId} {sz by_ fuel : Nat} {cs : List Value} (ht : P.underlying t = some (.slice e)) (hc : P.cellsOf e = sz) (hsz : 0 < sz) (hby : P.bytesOf e = by_) (hby1 : 1 ≤ by_) (h : Told enc P w fuel t cs) :
    ∃ f ad n c xs, fuel = f + 1 ∧ cs = [.slice ad n c] ∧ n ≤ c ∧ c ≤ maxLen ∧ RowAt w sz ad n xs ∧ ∀ i, i < n → Told enc P w f e ((xs.drop (i * sz)).take sz) := by
  obtain ⟨d, p, hd, hw⟩ := h
  rcases DataW.trod_slice ht hd with ⟨rfl, hx⟩ | ⟨a, len, cap, elems, rest, n, rfl, rfl, hx, _, hl, hm, hlen, hel, _, _⟩
  · cases fuel with
    | zero => simp [DataW.trod] at hd
    | succ f => exact ⟨f, none, 0, 0, [], rfl, rfl, Nat.le_refl _, Nat.zero_le _, RowAt.empty _ _ _, fun i hi => by omega⟩
  · simp only [Prod.mk.injEq] at hx
    obtain ⟨rfl, _⟩ := hx
    have hwt : ∀ n ∈ DataW.weightsAll P e (elems.map (·.1)), n ≤ reachBytes := fun n hn => hw n (by simp only [DataW.weights, ht, List.mem_cons, List.mem_append]; exact .inr (.inl hn))
    have hlim : len * by_ ≤ reachBytes := by
      have := hw (((elems.map (·.1)).length + (rest.map (·.1)).length) * P.bytesOf e) (by simp only [DataW.weights, ht, List.mem_cons, true_or])
      rw [hby, List.length_map, hlen, List.length_map, Nat.add_mul] at this
      omega
    have hlen2 : len ≤ 140737488355328 := by
      have h1 : len * 1 ≤ len * by_ := Nat.mul_le_mul_left _ hby1
      have h2 : reachBytes ≤ 140737488355328 := by decide
      omega
    -- each element
    have each : ∀ i, i < len → ∃ ys x, w.cells? 0 (a.add (i * sz)) sz = some ys ∧ DataW.trod enc P w 0 (fun _ => true) true n e ys = some x ∧ elems[i]? = some x := by
      intro i hi
      have hh := hel i hi
      have hi2 : i < elems.length := by omega
      rw [List.getElem?_eq_getElem hi2, hc] at hh
      simp only [Option.bind_eq_some_iff] at hh
      obtain ⟨ys, h1, h2⟩ := hh
      exact ⟨ys, _, h1, h2, List.getElem?_eq_getElem hi2⟩
    rcases Nat.eq_zero_or_pos len with h0 | h0
    · subst h0
      exact ⟨n, some a, 0, cap, [], rfl, rfl, hl, hm, RowAt.empty _ _ _, fun i hi => by omega⟩
    · -- the block
      have cell : ∀ i j, i < len → j < sz → ∃ v, w.cell? ((a.add (i * sz)).add j) = some v := by
        intro i j hi hj
        obtain ⟨ys, x, h1, _, _⟩ := each i hi
        unfold World.cells? at h1
        rw [if_pos (Nat.zero_le _)] at h1
        obtain ⟨y, hy, _⟩ := yO3 h1 j j (by simp [hj])
        exact ⟨y, hy⟩
      obtain ⟨blk, off, spot⟩ := a
      obtain ⟨v0, hv0⟩ := cell 0 0 h0 hsz
      have hadd0 : ((⟨blk, off, spot⟩ : Addr).add (0 * sz)).add 0 = ⟨blk, off, spot⟩ := by simp [Addr.add]
      rw [hadd0] at hv0
      unfold World.cell? at hv0
      cases hb : w.heap[blk]? with
      | none => rw [hb] at hv0; cases hv0
      | some o =>
        rw [hb] at hv0
        cases o with
        | cells c T fr =>
          simp only at hv0
          have hspot : spot = none := by
            cases spot with
            | none => rfl
            | some _ => simp at hv0
          subst hspot
          have hcell : ∀ k, k < len * sz → ∃ v, c[off + k]? = some v := by
            intro k hk
            have hdm := Nat.div_add_mod k sz
            have h1 : k / sz < len := (Nat.div_lt_iff_lt_mul hsz).2 hk
            obtain ⟨v, hv⟩ := cell (k / sz) (k % sz) h1 (Nat.mod_lt _ hsz)
            rw [add_lit, add_lit, cell_of_row w blk _ c T fr hb] at hv
            refine ⟨v, ?_⟩
            have : off + k / sz * sz + k % sz = off + k := by rw [Nat.mul_comm]; omega
            rwa [this] at hv
          have hsize : off + len * sz ≤ c.size := by
            have hp : 0 < len * sz := Nat.mul_pos h0 hsz
            obtain ⟨v, hv⟩ := hcell (len * sz - 1) (by omega)
            have := (Array.getElem?_eq_some_iff.1 hv).1
            omega
          refine ⟨n, some ⟨blk, off, none⟩, len, cap, (c.toList.drop off).take (len * sz), rfl, rfl, hl, hm, ⟨by rw [List.length_take, List.length_drop, Array.length_toList]; omega, hlen2, fun _ => ⟨blk, off, c, T, fr, rfl, hb, rfl⟩⟩, fun i hi => ?_⟩
          obtain ⟨ys, x, h1, h2, h3⟩ := each i hi
          have hys : ys = (((c.toList.drop off).take (len * sz)).drop (i * sz)).take sz := by
            unfold World.cells? at h1
            rw [if_pos (Nat.zero_le _)] at h1
            have hl2 := mapM_some_length h1
            simp only [List.length_range] at hl2
            have hle : (i + 1) * sz ≤ len * sz := Nat.mul_le_mul_right _ hi
            rw [Nat.add_mul, Nat.one_mul] at hle
            apply List.ext_getElem?
            intro j
            by_cases hj : j < sz
            · obtain ⟨y, hy, hy2⟩ := yO3 h1 j j (by simp [hj])
              rw [add_lit, add_lit, cell_of_row w blk _ c T fr hb] at hy
              rw [hy2, List.getElem?_take, if_pos hj, List.getElem?_drop, List.getElem?_take, if_pos (by omega), List.getElem?_drop, Array.getElem?_toList, ← Nat.add_assoc, hy]
            · rw [List.getElem?_eq_none (by omega), List.getElem?_eq_none (by rw [List.length_take]; omega)]
          rw [← hys]
          exact ⟨⟨x.1, x.2, h2, fun m hm_ => hwt m (zY1 (i := i) (by rw [List.getElem?_map, h3]; rfl) m hm_)⟩⟩
        | _ => cases hv0
theorem yT6 {t : TypeId} {k : IntKind} {fuel : Nat} {cs : List Value} (ht : P.underlying t = some (.int k)) (h : Told enc P w fuel t cs) : ∃ n, cs = [.int k n] ∧ inR k n := by
  obtain ⟨d, p, hd, _⟩ := h
  obtain ⟨n, h1, _, hw⟩ := DataW.trod_int ht hd
  refine ⟨n, h1, ?_⟩
  cases k <;> simpa [Lit.wf, IntKind.min, IntKind.max, IntKind.bits, IntKind.signed, inR] using hw
theorem yZ5 {α : Type} {sz n : Nat} {xs : List Value} {f : α → Value} (hl : xs.length = n) (h : ∀ i, i < n → ∃ a, (xs.drop (i * 1)).take 1 = [f a]) : ∃ l : List α, l.length = n ∧ xs = l.map f := by
  induction xs generalizing n with
  | nil => exact ⟨[], by simpa using hl, rfl⟩
  | cons x xs ih =>
    obtain ⟨a, ha⟩ := h 0 (by simp at hl; omega)
    simp at ha
    obtain ⟨l, h1, h2⟩ := ih (n := n - 1) (by simp at hl; omega) fun i hi => by
      obtain ⟨b, hb⟩ := h (i + 1) (by omega)
      exact ⟨b, by simpa using hb⟩
    exact ⟨a :: l, by simp at hl ⊢; omega, by simp [ha, h2]⟩
theorem jB8 {t e : TypeId} {k : IntKind} {fuel by_ : Nat} {cs : List Value} (ht : P.underlying t = some (.slice e)) (he : P.underlying e = some (.int k)) (hc : P.cellsOf e = 1) (hby : P.bytesOf e = by_) (hby1 : 1 ≤ by_) (h : Told enc P w fuel t cs) :
    ∃ ad n c, ∃ zs : List Int, cs = [.slice ad n c] ∧ n = zs.length ∧ n ≤ c ∧ c ≤ maxLen ∧ RowAt w 1 ad n (zs.map (.int k)) ∧ ∀ z ∈ zs, inR k z := by
  obtain ⟨f, ad, n, c, xs, rfl, rfl, h1, h2, R, hel⟩ := yG7 ht hc (by omega) hby hby1 h
  obtain ⟨l, hl, rfl⟩ := yZ5 (sz := 1) (f := fun a : { z : Int // inR k z } => Value.int k a.1) (by rw [R.len, Nat.mul_one]) fun i hi => by
    obtain ⟨z, hz, hr⟩ := yT6 he (hel i hi)
    exact ⟨⟨z, hr⟩, hz⟩
  refine ⟨ad, n, c, l.map (·.1), rfl, by simp [hl], h1, h2, by rw [List.map_map]; exact R, fun z hz => ?_⟩
  obtain ⟨a, _, rfl⟩ := List.mem_map.1 hz
  exact a.2
theorem yZ6 {t e : TypeId} {r : Reach} {b0 : Nat} {v : Value} (ht : P.underlying t = some (.slice e)) (hv : Value.okWide P w r b0 t v) {ad : Option Addr} {n c : Nat} (h : v.cells.toList = [.slice ad n c]) : v = .slice ad n c := by
  unfold Value.okWide at hv
  rw [ht] at hv
  unfold Cell.okWide at hv
  rw [ht] at hv
  cases v <;> first | (simp only [Cell.ok, ht] at hv; done) | (simp [Value.cells] at h; try (obtain ⟨rfl, rfl, rfl⟩ := h); try rfl) | skip
end
end Go.Proofs.YtkkbbhpbcfcplaaGreat.K
