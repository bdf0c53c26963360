/- Spans that are sorted: their order; what the kit's sort leaves in memory. Generic in the program. -/
import Derived.Test.YtldlfhodboigeaaC04
import Derived.Test.YtldlfhodboigeaaM08
set_option linter.unusedVariables false
set_option linter.unusedSimpArgs false
namespace Go.Proofs.Ytldlfhodboigeaa.K
open Go Go.RowKit

def cmpI (a b : Int) : Int := if a < b then -1 else if a > b then 1 else 0
def orS : List Int → Int
  | [] => 0
  | x :: r => if x ≠ 0 then x else orS r
def cfS (x y : Spn) : Int := orS [cmpI x.1 y.1, cmpI x.2 y.2]
theorem cfS_lt (x y : Spn) : cfS x y < 0 ↔ x.1 < y.1 ∨ (x.1 = y.1 ∧ x.2 < y.2) := by
  unfold cfS orS orS orS cmpI
  by_cases h1 : x.1 < y.1
  · simp [h1]
  · by_cases h2 : x.1 > y.1
    · simp [h1, h2]; omega
    · by_cases h3 : x.2 < y.2
      · simp [h1, h2, h3]; omega
      · by_cases h4 : x.2 > y.2
        · simp [h1, h2, h3, h4]
        · simp [h1, h2, h3, h4]
theorem ltS (x y : Spn) : ltOf cfS x y = decide (x.1 < y.1 ∨ (x.1 = y.1 ∧ x.2 < y.2)) := by
  unfold ltOf
  exact decide_eq_decide.2 (cfS_lt x y)
theorem swoS : Sort.SWO (ltOf cfS) where
  irrefl x := by rw [ltS]; simp
  trans x y z h1 h2 := by rw [ltS] at *; simp only [decide_eq_true_eq] at *; omega
  ntrans x y z h1 h2 := by rw [ltS] at *; simp only [decide_eq_false_iff_not] at *; omega
theorem perm_of {d d' : Array Spn} (h : Sort.PermIn 0 d.size d d') : d'.toList.Perm d.toList := by
  have h2 := h.2.2
  rw [show d'.extract 0 d.size = d' from by rw [← h.1]; simp, show d.extract 0 d.size = d from by simp] at h2
  exact h2
theorem pair_of {d d' : Array Spn} (hs : d'.size = d.size) (h : Sort.SortedIn (ltOf cfS) 0 d.size d') : d'.toList.Pairwise (fun a b => a.1 ≤ b.1) := by
  rw [List.pairwise_iff_getElem]
  intro i j hi hj hij
  simp only [Array.length_toList] at hi hj
  have := h i j (Nat.zero_le _) hij (by omega)
  rw [getElem!_pos d' j hj, getElem!_pos d' i hi, ltS] at this
  simp only [decide_eq_false_iff_not] at this
  simp only [Array.getElem_toList]
  omega
theorem encL_get {L : List Spn} {i c : Nat} (hi : i < L.length) (hc : c < 2) : (encL L)[i * 2 + c]? = (encS L[i])[c]? := by
  have := congrArg (fun l : List Value => l[c]?) (encL_at hi)
  simp only [List.getElem?_take, hc, if_true, List.getElem?_drop] at this
  exact this
theorem flat_enc (d : Array Spn) : (Sort.flatK encS 2 d).toList = encL d.toList := by
  refine List.ext_getElem? fun t => ?_
  rcases Nat.lt_or_ge t (d.size * 2) with ht | ht
  · have h1 := Sort.get_flatK encS 2 d t ht
    have hs : t < (Sort.flatK encS 2 d).size := by simpa using ht
    have hi : t / 2 < d.size := by omega
    have hc : t % 2 < 2 := by omega
    rw [Array.getElem?_toList, Array.getElem?_eq_getElem hs, ← getElem!_pos _ t hs, h1, getElem!_pos d _ hi]
    have h2 := encL_get (L := d.toList) (i := t / 2) (c := t % 2) (by simpa using hi) hc
    rw [show t / 2 * 2 + t % 2 = t from by omega] at h2
    rw [h2, Array.getElem_toList]
    have h3 : t % 2 < (encS d[t / 2]).length := hc
    rw [List.getElem?_eq_getElem h3, getElem!_pos (encS d[t / 2]) _ h3]
  · rw [List.getElem?_eq_none (by simpa using ht), List.getElem?_eq_none (by rw [encL_len]; simpa using ht)]
theorem holds_flat {w : World} {b : Nat} {T : TypeId} {cur : Array Value} {d : Array Spn} (hb : w.heap[b]? = some (.cells cur T (0, 0))) (h : cur.toList.take (d.size * 2) = encL d.toList) : Sort.HoldsK encS 2 w b 0 d := by
  intro j hj
  have hj' : j < d.size * 2 := by simpa using hj
  constructor
  · rw [Nat.zero_add, cell_heap hb, getElem!_pos _ j hj]
    have h2 : (cur.toList.take (d.size * 2))[j]? = (encL d.toList)[j]? := by rw [h]
    rw [List.getElem?_take, if_pos hj', Array.getElem?_toList] at h2
    rw [h2, ← flat_enc, Array.getElem?_toList, Array.getElem?_eq_getElem hj]; rfl
  · simp [World.frozen?, hb]
theorem sorted_row {w : World} {b n : Nat} {T : TypeId} {cur : Array Value} {d : Array Spn} {os : Array Obj} (hb : w.heap[b]? = some (.cells cur T (0, 0))) (hf : d.size * 2 ≤ cur.size) :
    ∃ cur' : Array Value, (sortWorldK encS 2 w b 0 n d os).heap[b]? = some (.cells cur' T (0, 0)) ∧ cur'.size = cur.size ∧ cur'.toList.take (d.size * 2) = encL d.toList ∧ Kp [b] w (sortWorldK encS 2 w b 0 n d os) := by
  have hlt := lt_of_heap hb
  have hheap : ∀ k, k < w.heap.size → (sortWorldK encS 2 w b 0 n d os).heap[k]? = (w.heap.modify b (Sort.onCells (Sort.putCells id 0 (Sort.flatK encS 2 d))))[k]? := by
    intro k hk
    show ((w.heap.modify b (Sort.onCells (Sort.putCells id 0 (Sort.flatK encS 2 d)))) ++ os)[k]? = _
    rw [Array.getElem?_append_left (by simpa using hk)]
  refine ⟨Sort.putCells id 0 (Sort.flatK encS 2 d) cur, ?_, ?_, ?_, ⟨rfl, rfl, rfl, ?_, ?_⟩⟩
  · rw [hheap b hlt, Array.getElem?_modify, if_pos rfl, hb]; rfl
  · simp [Sort.putCells]
  · rw [← flat_enc]
    refine List.ext_getElem? fun t => ?_
    rw [List.getElem?_take]
    split
    · rename_i ht
      have hs : t < (Sort.flatK encS 2 d).size := by simpa using ht
      have hc : t < cur.size := by omega
      rw [Array.getElem?_toList, Array.getElem?_toList, Array.getElem?_eq_getElem hs]
      simp only [Sort.putCells, Array.getElem?_mapIdx, Array.getElem?_eq_getElem hc, Option.map_some]
      rw [if_pos ⟨Nat.zero_le _, by omega⟩, Nat.sub_zero, getElem!_pos _ t hs]; rfl
    · rename_i ht
      rw [List.getElem?_eq_none (by simp; omega)]
  · show w.heap.size ≤ ((w.heap.modify b (Sort.onCells (Sort.putCells id 0 (Sort.flatK encS 2 d)))) ++ os).size
    simp
  · intro k hk hne
    rw [hheap k hk, Array.getElem?_modify, if_neg (fun h => hne (by simp [h]))]
theorem own_lenS {w : World} {base n m c sz : Nat} {T : TypeId} {ad : Option Addr} {xs : List Value} (h : w.ownsRow base T sz (.slice ad n c) m xs) : n = m := by
  rcases h.2 with ⟨hv, hm⟩ | ⟨q, cap, cur, hv, _⟩
  · simp only [Value.slice.injEq] at hv
    omega
  · simp only [Value.slice.injEq] at hv
    exact hv.2.1
abbrev gS (L : List Spn) (i : Nat) : Spn := L.getD i (0, 0)
theorem gS_get {L : List Spn} {i : Nat} (h : i < L.length) : gS L i = L[i] := by simp [gS, List.getD_eq_getElem?_getD, h]
theorem row_gS {w : World} {ad : Option Addr} {n i : Nat} {L : List Spn} (R : RowAt w 2 ad n (encL L)) (h : i < n) : ((encL L).drop (i * 2)).take 2 = [.int .i64 (gS L i).1, .int .i64 (gS L i).2] := by
  have hl := R.len
  rw [encL_len] at hl
  rw [encL_at (show i < L.length by omega), gS_get (show i < L.length by omega)]; rfl
theorem row_gS0 {w : World} {ad : Option Addr} {n i : Nat} {L : List Spn} (R : RowAt w 2 ad n (encL L)) (h : i < n) : (encL L)[i * 2]? = some (.int .i64 (gS L i).1) := by
  have hl := R.len
  rw [encL_len] at hl
  have := encL_get (L := L) (i := i) (c := 0) (by omega) (by omega)
  rw [gS_get (show i < L.length by omega)]; exact this
theorem row_gS1 {w : World} {ad : Option Addr} {n i : Nat} {L : List Spn} (R : RowAt w 2 ad n (encL L)) (h : i < n) : (encL L)[i * 2 + 1]? = some (.int .i64 (gS L i).2) := by
  have hl := R.len
  rw [encL_len] at hl
  have := encL_get (L := L) (i := i) (c := 1) (by omega) (by omega)
  rw [gS_get (show i < L.length by omega)]; exact this
theorem row_lenS {w : World} {ad : Option Addr} {n : Nat} {L : List Spn} (R : RowAt w 2 ad n (encL L)) : L.length = n := by
  have hl := R.len
  rw [encL_len] at hl
  omega
theorem splice_take {cs vs : Array Value} {o : Nat} (h : o + vs.size ≤ cs.size) : (splice cs o vs).toList.take (o + vs.size) = cs.toList.take o ++ vs.toList := by
  unfold splice
  simp only []
  rw [List.take_append_of_le_length (by simp; omega), List.take_of_length_le (by simp; omega)]
theorem splice_front {cs vs : Array Value} {o m : Nat} (h : o + vs.size ≤ cs.size) (hm : m ≤ o) : (splice cs o vs).toList.take m = cs.toList.take m := by
  unfold splice
  simp only [List.append_assoc]
  rw [List.take_append_of_le_length (by simp; omega), List.take_take, Nat.min_eq_left hm]
theorem splice_drop {cs vs : Array Value} {o m : Nat} (h : o + vs.size ≤ cs.size) (hm : o + vs.size ≤ m) : (splice cs o vs).toList.drop m = cs.toList.drop m := by
  unfold splice
  simp only [List.drop_append, List.length_append, List.length_take, Array.length_toList, Nat.min_eq_left (show o ≤ cs.size by omega)]
  rw [List.drop_eq_nil_of_le (by simp; omega), List.drop_eq_nil_of_le (by simp; omega), List.nil_append, List.nil_append, List.drop_drop]
  congr 1; omega
abbrev keepS (s : Spn) : Bool := !noneS s
structure DelSt (L : List Spn) (cap j : Nat) (K : List Spn) (cur : Array Value) : Prop where
  hj : j ≤ L.length
  hK : K = (L.take j).filter keepS
  lt : K.length < j
  sz : cur.size = cap * 2
  cap : L.length ≤ cap
  hd : cur.toList.take (K.length * 2) = encL K
  tl : (cur.toList.drop (j * 2)).take ((L.length - j) * 2) = encL (L.drop j)
theorem DelSt.load {L K : List Spn} {cap j : Nat} {cur : Array Value} (h : DelSt L cap j K cur) (hj : j < L.length) : ((cur.toList.take (L.length * 2)).drop (j * 2)).take 2 = [.int .i64 (gS L j).1, .int .i64 (gS L j).2] := by
  have h1 : ((cur.toList.drop (j * 2)).take ((L.length - j) * 2)).take 2 = (encL (L.drop j)).take 2 := by rw [h.tl]
  rw [List.take_take, Nat.min_eq_left (by omega), List.drop_eq_getElem_cons hj] at h1
  rw [List.drop_take, List.take_take, Nat.min_eq_left (by omega), h1, gS_get hj]
  rfl
theorem DelSt.tail {L K : List Spn} {cap j : Nat} {cur : Array Value} (h : DelSt L cap j K cur) (hj : j < L.length) : (cur.toList.drop ((j + 1) * 2)).take ((L.length - (j + 1)) * 2) = encL (L.drop (j + 1)) := by
  have h1 : ((cur.toList.drop (j * 2)).take ((L.length - j) * 2)).drop 2 = (encL (L.drop j)).drop 2 := by rw [h.tl]
  rw [List.drop_eq_getElem_cons hj, List.drop_take, List.drop_drop] at h1
  rw [show (j + 1) * 2 = j * 2 + 2 from by omega, show (L.length - (j + 1)) * 2 = (L.length - j) * 2 - 2 from by omega, h1]
  rfl
theorem take_filter {L : List Spn} {j : Nat} (hj : j < L.length) : (L.take (j + 1)).filter keepS = (L.take j).filter keepS ++ (if keepS (gS L j) then [gS L j] else []) := by
  rw [List.take_succ_eq_append_getElem hj, List.filter_append, gS_get hj]
  simp [List.filter_cons]
theorem DelSt.skip {L K : List Spn} {cap j : Nat} {cur : Array Value} (h : DelSt L cap j K cur) (hj : j < L.length) (hn : noneS (gS L j) = true) : DelSt L cap (j + 1) K cur :=
  ⟨hj, by rw [take_filter hj, keepS, hn, h.hK]; simp, by have := h.lt; omega, h.sz, h.cap, h.hd, h.tail hj⟩
theorem DelSt.put {L K : List Spn} {cap j : Nat} {cur : Array Value} (h : DelSt L cap j K cur) (hj : j < L.length) (hn : noneS (gS L j) = false) : DelSt L cap (j + 1) (K ++ [gS L j]) (splice cur (0 + K.length * 2) #[.int .i64 (gS L j).1, .int .i64 (gS L j).2]) := by
  have h1 := h.lt; have h2 := h.sz; have h3 := h.cap
  have hs : 0 + K.length * 2 + (#[Value.int .i64 (gS L j).1, .int .i64 (gS L j).2] : Array Value).size ≤ cur.size := by simp only [List.size_toArray, List.length_cons, List.length_nil]; omega
  refine ⟨hj, by rw [take_filter hj, keepS, hn, h.hK]; simp, by simp; omega, by rw [size_splice hs]; exact h.sz, h.cap, ?_, ?_⟩
  · have h4 := splice_take hs
    simp only [List.size_toArray, List.length_cons, List.length_nil] at h4
    rw [List.length_append, List.length_singleton, show (K.length + 1) * 2 = 0 + K.length * 2 + (0 + 1 + 1) from by omega, h4, Nat.zero_add, h.hd, encL_append]
    simp [encL, encS]
  · rw [splice_drop hs (by simp only [List.size_toArray, List.length_cons, List.length_nil]; omega)]
    exact h.tail hj
theorem DelSt.start {L : List Spn} {cap i : Nat} {cur : Array Value} (hs : cur.size = cap * 2) (hc : L.length ≤ cap) (hx : cur.toList.take (L.length * 2) = encL L) (hi : i < L.length) (hn : noneS (gS L i) = true) (hno : ∀ j, j < i → noneS (gS L j) = false) : DelSt L cap (i + 1) (L.take i) cur := by
  have hf : (L.take i).filter keepS = L.take i := by
    refine List.filter_eq_self.2 fun s hs => ?_
    obtain ⟨j, hj, rfl⟩ := List.getElem_of_mem hs
    simp only [List.length_take] at hj
    have := hno j (by omega)
    rw [gS_get (show j < L.length by omega)] at this
    simp [keepS, this]
  refine ⟨hi, by rw [take_filter hi, keepS, hn, hf]; simp, by simp; omega, hs, hc, ?_, ?_⟩
  · have : (cur.toList.take (L.length * 2)).take ((L.take i).length * 2) = (encL L).take ((L.take i).length * 2) := by rw [hx]
    rw [List.take_take, Nat.min_eq_left (by simp; omega)] at this
    rw [this]
    conv => lhs; rw [← List.take_append_drop i L, encL_append, List.take_append_of_le_length (by rw [encL_len, List.take_append_drop]; omega)]
    rw [List.take_of_length_le (by rw [encL_len, List.take_append_drop]; omega)]
  · have : (cur.toList.take (L.length * 2)).drop ((i + 1) * 2) = (encL L).drop ((i + 1) * 2) := by rw [hx]
    rw [List.drop_take] at this
    rw [show (L.length - (i + 1)) * 2 = L.length * 2 - (i + 1) * 2 from by omega, this]
    conv => lhs; rw [← List.take_append_drop (i + 1) L, encL_append, List.drop_append, List.drop_eq_nil_of_le (by rw [encL_len]; simp; omega), encL_len]
    rw [List.length_take, Nat.min_eq_left (by omega), Nat.sub_self]; rfl
theorem DelSt.row {w : World} {g : Nat} {T : TypeId} {L K : List Spn} {cap j : Nat} {cur : Array Value} (h : DelSt L cap j K cur) (hb : w.heap[g]? = some (.cells cur T (0, 0))) (hl : L.length ≤ 140737488355328) : RowAt w 2 (some ⟨g, 0, none⟩) L.length (cur.toList.take (L.length * 2)) := by
  have h1 := h.sz; have h2 := h.cap
  exact ⟨by simp; omega, hl, fun _ => ⟨g, 0, cur, T, (0, 0), rfl, hb, by simp⟩⟩
theorem findI_or (p : Nat → Bool) (n : Nat) : (findI p n 0 = -1 ∧ ∀ j, j < n → p j = false) ∨ ∃ i : Nat, i < n ∧ findI p n 0 = i ∧ p i = true ∧ ∀ j, j < i → p j = false := by
  have key : ∀ (m i : Nat), (findI p m i = -1 ∧ ∀ j, i ≤ j → j < i + m → p j = false) ∨ ∃ k : Nat, i ≤ k ∧ k < i + m ∧ findI p m i = k ∧ p k = true ∧ ∀ j, i ≤ j → j < k → p j = false := by
    intro m
    induction m with
    | zero => intro i; exact .inl ⟨rfl, fun j _ _ => by omega⟩
    | succ m ih =>
      intro i
      cases hp : p i with
      | true => exact .inr ⟨i, Nat.le_refl _, by omega, by simp [findI, hp], hp, fun j _ _ => by omega⟩
      | false =>
        rcases ih (i + 1) with ⟨h1, h2⟩ | ⟨k, h1, h2, h3, h4, h5⟩
        · refine .inl ⟨by simp [findI, hp, h1], fun j h3 h4 => ?_⟩
          rcases Nat.eq_or_lt_of_le h3 with rfl | h3
          · exact hp
          · exact h2 j h3 (by omega)
        · refine .inr ⟨k, by omega, by omega, by simp [findI, hp, h3], h4, fun j h6 h7 => ?_⟩
          rcases Nat.eq_or_lt_of_le h6 with rfl | h6
          · exact hp
          · exact h5 j h6 h7
  rcases key n 0 with ⟨h1, h2⟩ | ⟨k, -, h2, h3, h4, h5⟩
  · exact .inl ⟨h1, fun j hj => h2 j (Nat.zero_le _) (by omega)⟩
  · exact .inr ⟨k, by omega, h3, h4, fun j hj => h5 j (Nat.zero_le _) hj⟩
/-! ### the row that Norm makes: its last span stands at its list's head -/
abbrev hdS (O : List Spn) : Spn := O.headD (0, 0)
theorem row_last {O : List Spn} (h : 0 < O.length) (c : Nat) (hc : c < 2) : (encL O.reverse)[((O.length : Int) - 1).toNat * 2 + c]? = (encS (hdS O))[c]? := by
  cases O with
  | nil => simp at h
  | cons s r =>
    have := encL_get (L := (s :: r).reverse) (i := r.length) (c := c) (by simp) hc
    rw [show (((s :: r).length : Int) - 1).toNat = r.length from by simp, this]
    congr 2
    simp
theorem join_push {O : List Spn} {s : Spn} (h : ¬ (0 < O.length ∧ s.1 ≤ (hdS O).2)) : joinS O s = s :: O := by
  cases O with
  | nil => rfl
  | cons t r => exact if_neg (fun h2 => h ⟨by simp, h2⟩)
theorem join_set {O : List Spn} {s : Spn} (h : 0 < O.length) (h2 : s.1 ≤ (hdS O).2) : joinS O s = ((hdS O).1, max (hdS O).2 s.2) :: O.tail := by
  cases O with
  | nil => simp at h
  | cons t r => exact if_pos h2
theorem join_len {O : List Spn} {s : Spn} : (joinS O s).length ≤ O.length + 1 := by
  cases O with
  | nil => simp [joinS]
  | cons t r => show (if s.1 ≤ t.2 then _ else _ : List Spn).length ≤ _; split <;> simp
theorem own_last {w w' : World} {base g c : Nat} {T : TypeId} {O : List Spn} {x : Int} {cur : Array Value} (h : w.ownsRow base T 2 (.slice (some ⟨g, 0, none⟩) O.length c) O.length (encL O.reverse)) (hn : 0 < O.length) (hb : w.heap[g]? = some (.cells cur T (0, 0)))
    (hb' : w'.heap[g]? = some (.cells (splice cur (0 + ((O.length : Int) - 1).toNat * 2 + 1) #[.int .i64 x]) T (0, 0))) : w'.ownsRow base T 2 (.slice (some ⟨g, 0, none⟩) O.length c) O.length (encL (((hdS O).1, x) :: O.tail).reverse) := by
  cases O with
  | nil => simp at hn
  | cons t r =>
    rcases h.2 with ⟨h0, _⟩ | ⟨q, cap, cur0, hv, hq, hg, h3, h4, h5, h6⟩
    · cases h0
    · simp only [Value.slice.injEq, Option.some.injEq, Addr.mk.injEq, and_true, true_and] at hv
      obtain ⟨rfl, rfl⟩ := hv
      rw [hb] at hg
      simp only [Option.some.injEq, Obj.cells.injEq, and_true] at hg
      subst hg
      have ho : 0 + (((t :: r).length : Int) - 1).toNat * 2 + 1 = r.length * 2 + 1 := by simp
      rw [ho] at hb'
      simp only [List.length_cons] at h3 h6
      have hs : r.length * 2 + 1 + (#[Value.int .i64 x] : Array Value).size ≤ cur.size := by simp only [List.size_toArray, List.length_cons, List.length_nil]; omega
      refine ⟨by rw [encL_len]; simp, .inr ⟨g, c, _, rfl, hq, hb', h3, h4, by rw [size_splice hs]; exact h5, ?_⟩⟩
      have h7 := splice_take hs
      simp only [List.size_toArray, List.length_cons, List.length_nil] at h7
      rw [List.length_cons, show (r.length + 1) * 2 = r.length * 2 + 1 + (0 + 1) from by omega, h7]
      have h8 : (cur.toList.take ((r.length + 1) * 2)).take (r.length * 2 + 1) = (encL (t :: r).reverse).take (r.length * 2 + 1) := by rw [h6]
      rw [List.take_take, Nat.min_eq_left (by omega)] at h8
      rw [h8, List.reverse_cons, encL_append, List.reverse_cons, encL_append, List.take_append, encL_len, List.take_of_length_le (by rw [encL_len]; simp)]
      simp [encL, encS]
theorem own_push {w : World} {base : Nat} {T : TypeId} {v : Value} {O : List Spn} {s : Spn} (h : w.ownsRow base T 2 v (O.length + 1) (encL O.reverse ++ [.int .i64 s.1, .int .i64 s.2])) : w.ownsRow base T 2 v (s :: O).length (encL (s :: O).reverse) := by
  rw [List.reverse_cons, encL_append]
  exact h
theorem normR_step {M : List Spn} {k : Nat} (h : k < M.length) : (M.take (k + 1)).foldl joinS [] = joinS ((M.take k).foldl joinS []) (gS M k) := by
  rw [List.take_succ_eq_append_getElem h, List.foldl_append, gS_get h]; rfl
abbrev normO (M : List Spn) (k : Nat) : List Spn := (M.take k).foldl joinS []
theorem normR_len : ∀ (M O : List Spn), (M.foldl joinS O).length ≤ O.length + M.length
  | [], O => by simp
  | s :: M, O => by
    have h1 := normR_len M (joinS O s)
    have h2 := join_len (O := O) (s := s)
    simp only [List.foldl_cons, List.length_cons]
    omega
end Go.Proofs.Ytldlfhodboigeaa.K
