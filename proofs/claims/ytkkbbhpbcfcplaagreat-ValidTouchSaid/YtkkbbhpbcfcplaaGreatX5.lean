/- Plain laws, rules and walks of this claim's functions, laid together. -/
import Derived.Test.YtkkbbhpbcfcplaaGreatX4
import Derived.Shelf.SlSortCmp.NoneTotal
import Derived.WalkKit
import Derived.ProofKit
import Derived.OpenShut
import Derived.ChangeOld
import Derived.Carry
import Derived.SizedLaws
set_option linter.unusedVariables false
set_option linter.unusedSimpArgs false
set_option maxRecDepth 100000
namespace Go.Proofs.YtkkbbhpbcfcplaaGreat.K
open Go Go.RowKit
def cmpI (a b : Int) : Int := if a < b then -1 else if a > b then 1 else 0
def orS : List Int → Int
  | [] => 0
  | x :: r => if x ≠ 0 then x else orS r
def cfS (x y : Spn) : Int := orS [cmpI x.1 y.1, cmpI x.2 y.2]
theorem yZ5 (x y : Spn) : cfS x y < 0 ↔ x.1 < y.1 ∨ (x.1 = y.1 ∧ x.2 < y.2) := by
  unfold cfS orS orS orS cmpI
  by_cases h1 : x.1 < y.1
  · simp [h1]
  · by_cases h2 : x.1 > y.1
    · simp [h1, h2]; omega
    · by_cases h3 : x.2 < y.2
      · simp [h1, h2, h3]; omega
      · by_cases h4 : x.2 > y.2
        · simp [h1, h2, h3, h4]
        · simp [h1, h2, h3, h4]
theorem ltS (x y : Spn) : ltOf cfS x y = decide (x.1 < y.1 ∨ (x.1 = y.1 ∧ x.2 < y.2)) := by
  unfold ltOf
  exact decide_eq_decide.2 (yZ5 x y)
theorem swoS : Sort.SWO (ltOf cfS) where
  irrefl x := by rw [ltS]; simp
  trans x y z h1 h2 := by rw [ltS] at *; simp only [decide_eq_true_eq] at *; omega
  ntrans x y z h1 h2 := by rw [ltS] at *; simp only [decide_eq_false_iff_not] at *; omega
theorem yX0 {d d' : Array Spn} (h : Sort.PermIn 0 d.size d d') : d'.toList.Perm d.toList := by
  have h2 := h.2.2
  rw [show d'.extract 0 d.size = d' from by rw [← h.1]; simp, show d.extract 0 d.size = d from by simp] at h2
  exact h2
theorem yX1 {d d' : Array Spn} (hs : d'.size = d.size) (h : Sort.SortedIn (ltOf cfS) 0 d.size d') : d'.toList.Pairwise (fun a b => a.1 ≤ b.1) := by
  rw [List.pairwise_iff_getElem]
  intro i j hi hj hij
  simp only [Array.length_toList] at hi hj
  have := h i j (Nat.zero_le _) hij (by omega)
  rw [getElem!_pos d' j hj, getElem!_pos d' i hi, ltS] at this
  simp only [decide_eq_false_iff_not] at this
  simp only [Array.getElem_toList]
  omega
theorem yB3 (d : Array Spn) : (Sort.flatK encS 2 d).toList = encL d.toList := by
  refine List.ext_getElem? fun t => ?_
  rcases Nat.lt_or_ge t (d.size * 2) with ht | ht
  · have h1 := Sort.get_flatK encS 2 d t ht
    have hs : t < (Sort.flatK encS 2 d).size := by simpa using ht
    have hi : t / 2 < d.size := by omega
    have hc : t % 2 < 2 := by omega
    rw [Array.getElem?_toList, Array.getElem?_eq_getElem hs, ← getElem!_pos _ t hs, h1, getElem!_pos d _ hi]
    have h2 := qE9 (L := d.toList) (i := t / 2) (c := t % 2) (by simpa using hi) hc
    rw [show t / 2 * 2 + t % 2 = t from by omega] at h2
    rw [h2, Array.getElem_toList]
    have h3 : t % 2 < (encS d[t / 2]).length := hc
    rw [List.getElem?_eq_getElem h3, getElem!_pos (encS d[t / 2]) _ h3]
  · rw [List.getElem?_eq_none (by simpa using ht), List.getElem?_eq_none (by rw [zI6]; simpa using ht)]
theorem yF2 {w : World} {b : Nat} {T : TypeId} {cur : Array Value} {d : Array Spn} (hb : w.heap[b]? = some (.cells cur T (0, 0))) (h : cur.toList.take (d.size * 2) = encL d.toList) : Sort.HoldsK encS 2 w b 0 d := by
  intro j hj
  have hj' : j < d.size * 2 := by simpa using hj
  constructor
  · rw [Nat.zero_add, zU1 hb, getElem!_pos _ j hj]
    have h2 : (cur.toList.take (d.size * 2))[j]? = (encL d.toList)[j]? := by rw [h]
    rw [List.getElem?_take, if_pos hj', Array.getElem?_toList] at h2
    rw [h2, ← yB3, Array.getElem?_toList, Array.getElem?_eq_getElem hj]; rfl
  · simp [World.frozen?, hb]
theorem yF3 {w : World} {b n : Nat} {T : TypeId} {cur : Array Value} {d : Array Spn} {os : Array Obj} (hb : w.heap[b]? = some (.cells cur T (0, 0))) (hf : d.size * 2 ≤ cur.size) :
    ∃ cur' : Array Value, (sortWorldK encS 2 w b 0 n d os).heap[b]? = some (.cells cur' T (0, 0)) ∧ cur'.size = cur.size ∧ cur'.toList.take (d.size * 2) = encL d.toList ∧ Kp [b] w (sortWorldK encS 2 w b 0 n d os) := by
  have hlt := zB7 hb
  have hheap : ∀ k, k < w.heap.size → (sortWorldK encS 2 w b 0 n d os).heap[k]? = (w.heap.modify b (Sort.onCells (Sort.putCells id 0 (Sort.flatK encS 2 d))))[k]? := by
    intro k hk
    show ((w.heap.modify b (Sort.onCells (Sort.putCells id 0 (Sort.flatK encS 2 d)))) ++ os)[k]? = _
    rw [Array.getElem?_append_left (by simpa using hk)]
  refine ⟨Sort.putCells id 0 (Sort.flatK encS 2 d) cur, ?_, ?_, ?_, ⟨rfl, rfl, rfl, ?_, ?_⟩⟩
  · rw [hheap b hlt, Array.getElem?_modify, if_pos rfl, hb]; rfl
  · simp [Sort.putCells]
  · rw [← yB3]
    refine List.ext_getElem? fun t => ?_
    rw [List.getElem?_take]
    split
    · rename_i ht
      have hs : t < (Sort.flatK encS 2 d).size := by simpa using ht
      have hc : t < cur.size := by omega
      rw [Array.getElem?_toList, Array.getElem?_toList, Array.getElem?_eq_getElem hs]
      simp only [Sort.putCells, Array.getElem?_mapIdx, Array.getElem?_eq_getElem hc, Option.map_some]
      rw [if_pos ⟨Nat.zero_le _, by omega⟩, Nat.sub_zero, getElem!_pos _ t hs]; rfl
    · rename_i ht
      rw [List.getElem?_eq_none (by simp; omega)]
  · show w.heap.size ≤ ((w.heap.modify b (Sort.onCells (Sort.putCells id 0 (Sort.flatK encS 2 d)))) ++ os).size
    simp
  · intro k hk hne
    rw [hheap k hk, Array.getElem?_modify, if_neg (fun h => hne (by simp [h]))]
theorem qH4 {cs vs : Array Value} {o : Nat} (h : o + vs.size ≤ cs.size) : (zT7 cs o vs).toList.take (o + vs.size) = cs.toList.take o ++ vs.toList := by
  unfold zT7
  simp only []
  rw [List.take_append_of_le_length (by simp; omega), List.take_of_length_le (by simp; omega)]
theorem qX5 {cs vs : Array Value} {o m : Nat} (h : o + vs.size ≤ cs.size) (hm : o + vs.size ≤ m) : (zT7 cs o vs).toList.drop m = cs.toList.drop m := by
  unfold zT7
  simp only [List.drop_append, List.length_append, List.length_take, Array.length_toList, Nat.min_eq_left (show o ≤ cs.size by omega)]
  rw [List.drop_eq_nil_of_le (by simp; omega), List.drop_eq_nil_of_le (by simp; omega), List.nil_append, List.nil_append, List.drop_drop]
  congr 1; omega
abbrev keepS (s : Spn) : Bool := !zN6 s
structure DelSt (L : List Spn) (cap j : Nat) (K : List Spn) (cur : Array Value) : Prop where
  hj : j ≤ L.length
  hK : K = (L.take j).filter keepS
  lt : K.length < j
  sz : cur.size = cap * 2
  cap : L.length ≤ cap
  hd : cur.toList.take (K.length * 2) = encL K
  tl : (cur.toList.drop (j * 2)).take ((L.length - j) * 2) = encL (L.drop j)
theorem DelSt.load {L K : List Spn} {cap j : Nat} {cur : Array Value} (h : DelSt L cap j K cur) (hj : j < L.length) : ((cur.toList.take (L.length * 2)).drop (j * 2)).take 2 = [.int .i64 (gS L j).1, .int .i64 (gS L j).2] := by
  have h1 : ((cur.toList.drop (j * 2)).take ((L.length - j) * 2)).take 2 = (encL (L.drop j)).take 2 := by rw [h.tl]
  rw [List.take_take, Nat.min_eq_left (by omega), List.drop_eq_getElem_cons hj] at h1
  rw [List.drop_take, List.take_take, Nat.min_eq_left (by omega), h1, zM1 hj]
  rfl
theorem DelSt.tail {L K : List Spn} {cap j : Nat} {cur : Array Value} (h : DelSt L cap j K cur) (hj : j < L.length) : (cur.toList.drop ((j + 1) * 2)).take ((L.length - (j + 1)) * 2) = encL (L.drop (j + 1)) := by
  have h1 : ((cur.toList.drop (j * 2)).take ((L.length - j) * 2)).drop 2 = (encL (L.drop j)).drop 2 := by rw [h.tl]
  rw [List.drop_eq_getElem_cons hj, List.drop_take, List.drop_drop] at h1
  rw [show (j + 1) * 2 = j * 2 + 2 from by omega, show (L.length - (j + 1)) * 2 = (L.length - j) * 2 - 2 from by omega, h1]
  rfl
theorem zY7 {L : List Spn} {j : Nat} (hj : j < L.length) : (L.take (j + 1)).filter keepS = (L.take j).filter keepS ++ (if keepS (gS L j) then [gS L j] else []) := by
  rw [List.take_succ_eq_append_getElem hj, List.filter_append, zM1 hj]
  simp [List.filter_cons]
theorem DelSt.skip {L K : List Spn} {cap j : Nat} {cur : Array Value} (h : DelSt L cap j K cur) (hj : j < L.length) (hn : zN6 (gS L j) = true) : DelSt L cap (j + 1) K cur :=
  ⟨hj, by rw [zY7 hj, keepS, hn, h.hK]; simp, by have := h.lt; omega, h.sz, h.cap, h.hd, h.tail hj⟩
theorem DelSt.put {L K : List Spn} {cap j : Nat} {cur : Array Value} (h : DelSt L cap j K cur) (hj : j < L.length) (hn : zN6 (gS L j) = false) : DelSt L cap (j + 1) (K ++ [gS L j]) (zT7 cur (0 + K.length * 2) #[.int .i64 (gS L j).1, .int .i64 (gS L j).2]) := by
  have h1 := h.lt; have h2 := h.sz; have h3 := h.cap
  have hs : 0 + K.length * 2 + (#[Value.int .i64 (gS L j).1, .int .i64 (gS L j).2] : Array Value).size ≤ cur.size := by simp only [List.size_toArray, List.length_cons, List.length_nil]; omega
  refine ⟨hj, by rw [zY7 hj, keepS, hn, h.hK]; simp, by simp; omega, by rw [qF8 hs]; exact h.sz, h.cap, ?_, ?_⟩
  · have h4 := qH4 hs
    simp only [List.size_toArray, List.length_cons, List.length_nil] at h4
    rw [List.length_append, List.length_singleton, show (K.length + 1) * 2 = 0 + K.length * 2 + (0 + 1 + 1) from by omega, h4, Nat.zero_add, h.hd, zK5]
    simp [encL, encS]
  · rw [qX5 hs (by simp only [List.size_toArray, List.length_cons, List.length_nil]; omega)]
    exact h.tail hj
theorem DelSt.start {L : List Spn} {cap i : Nat} {cur : Array Value} (hs : cur.size = cap * 2) (hc : L.length ≤ cap) (hx : cur.toList.take (L.length * 2) = encL L) (hi : i < L.length) (hn : zN6 (gS L i) = true) (hno : ∀ j, j < i → zN6 (gS L j) = false) : DelSt L cap (i + 1) (L.take i) cur := by
  have hf : (L.take i).filter keepS = L.take i := by
    refine List.filter_eq_self.2 fun s hs => ?_
    obtain ⟨j, hj, rfl⟩ := List.getElem_of_mem hs
    simp only [List.length_take] at hj
    have := hno j (by omega)
    rw [zM1 (show j < L.length by omega)] at this
    simp [keepS, this]
  refine ⟨hi, by rw [zY7 hi, keepS, hn, hf]; simp, by simp; omega, hs, hc, ?_, ?_⟩
  · have : (cur.toList.take (L.length * 2)).take ((L.take i).length * 2) = (encL L).take ((L.take i).length * 2) := by rw [hx]
    rw [List.take_take, Nat.min_eq_left (by simp; omega)] at this
    rw [this]
    conv => lhs; rw [← List.take_append_drop i L, zK5, List.take_append_of_le_length (by rw [zI6, List.take_append_drop]; omega)]
    rw [List.take_of_length_le (by rw [zI6, List.take_append_drop]; omega)]
  · have : (cur.toList.take (L.length * 2)).drop ((i + 1) * 2) = (encL L).drop ((i + 1) * 2) := by rw [hx]
    rw [List.drop_take] at this
    rw [show (L.length - (i + 1)) * 2 = L.length * 2 - (i + 1) * 2 from by omega, this]
    conv => lhs; rw [← List.take_append_drop (i + 1) L, zK5, List.drop_append, List.drop_eq_nil_of_le (by rw [zI6]; simp; omega), zI6]
    rw [List.length_take, Nat.min_eq_left (by omega), Nat.sub_self]; rfl
theorem DelSt.row {w : World} {g : Nat} {T : TypeId} {L K : List Spn} {cap j : Nat} {cur : Array Value} (h : DelSt L cap j K cur) (hb : w.heap[g]? = some (.cells cur T (0, 0))) (hl : L.length ≤ 140737488355328) : RowAt w 2 (some ⟨g, 0, none⟩) L.length (cur.toList.take (L.length * 2)) := by
  have h1 := h.sz; have h2 := h.cap
  exact ⟨by simp; omega, hl, fun _ => ⟨g, 0, cur, T, (0, 0), rfl, hb, by simp⟩⟩
theorem yR8 (p : Nat → Bool) (n : Nat) : (zR6 p n 0 = -1 ∧ ∀ j, j < n → p j = false) ∨ ∃ i : Nat, i < n ∧ zR6 p n 0 = i ∧ p i = true ∧ ∀ j, j < i → p j = false := by
  have key : ∀ (m i : Nat), (zR6 p m i = -1 ∧ ∀ j, i ≤ j → j < i + m → p j = false) ∨ ∃ k : Nat, i ≤ k ∧ k < i + m ∧ zR6 p m i = k ∧ p k = true ∧ ∀ j, i ≤ j → j < k → p j = false := by
    intro m
    induction m with
    | zero => intro i; exact .inl ⟨rfl, fun j _ _ => by omega⟩
    | succ m ih =>
      intro i
      cases hp : p i with
      | true => exact .inr ⟨i, Nat.le_refl _, by omega, by simp [zR6, hp], hp, fun j _ _ => by omega⟩
      | false =>
        rcases ih (i + 1) with ⟨h1, h2⟩ | ⟨k, h1, h2, h3, h4, h5⟩
        · refine .inl ⟨by simp [zR6, hp, h1], fun j h3 h4 => ?_⟩
          rcases Nat.eq_or_lt_of_le h3 with rfl | h3
          · exact hp
          · exact h2 j h3 (by omega)
        · refine .inr ⟨k, by omega, by omega, by simp [zR6, hp, h3], h4, fun j h6 h7 => ?_⟩
          rcases Nat.eq_or_lt_of_le h6 with rfl | h6
          · exact hp
          · exact h5 j h6 h7
  rcases key n 0 with ⟨h1, h2⟩ | ⟨k, -, h2, h3, h4, h5⟩
  · exact .inl ⟨h1, fun j hj => h2 j (Nat.zero_le _) (by omega)⟩
  · exact .inr ⟨k, by omega, h3, h4, fun j hj => h5 j (Nat.zero_le _) hj⟩
/-! ### the row that Norm makes: its last span stands at its list's head -/
abbrev hdS (O : List Spn) : Spn := O.headD (0, 0)
theorem yB4 {O : List Spn} (h : 0 < O.length) (c : Nat) (hc : c < 2) : (encL O.reverse)[((O.length : Int) - 1).toNat * 2 + c]? = (encS (hdS O))[c]? := by
  cases O with
  | nil => simp at h
  | cons s r =>
    have := qE9 (L := (s :: r).reverse) (i := r.length) (c := c) (by simp) hc
    rw [show (((s :: r).length : Int) - 1).toNat = r.length from by simp, this]
    congr 2
    simp
theorem yM8 {O : List Spn} {s : Spn} (h : ¬ (0 < O.length ∧ s.1 ≤ (hdS O).2)) : zO0 O s = s :: O := by
  cases O with
  | nil => rfl
  | cons t r => exact if_neg (fun h2 => h ⟨by simp, h2⟩)
theorem yB5 {O : List Spn} {s : Spn} (h : 0 < O.length) (h2 : s.1 ≤ (hdS O).2) : zO0 O s = ((hdS O).1, max (hdS O).2 s.2) :: O.tail := by
  cases O with
  | nil => simp at h
  | cons t r => exact if_pos h2
theorem yR9 {O : List Spn} {s : Spn} : (zO0 O s).length ≤ O.length + 1 := by
  cases O with
  | nil => simp [zO0]
  | cons t r => show (if s.1 ≤ t.2 then _ else _ : List Spn).length ≤ _; split <;> simp
theorem yS0 {w w' : World} {base g c : Nat} {T : TypeId} {O : List Spn} {x : Int} {cur : Array Value} (h : w.ownsRow base T 2 (.slice (some ⟨g, 0, none⟩) O.length c) O.length (encL O.reverse)) (hn : 0 < O.length) (hb : w.heap[g]? = some (.cells cur T (0, 0)))
    (hb' : w'.heap[g]? = some (.cells (zT7 cur (0 + ((O.length : Int) - 1).toNat * 2 + 1) #[.int .i64 x]) T (0, 0))) : w'.ownsRow base T 2 (.slice (some ⟨g, 0, none⟩) O.length c) O.length (encL (((hdS O).1, x) :: O.tail).reverse) := by
  cases O with
  | nil => simp at hn
  | cons t r =>
    rcases h.2 with ⟨h0, _⟩ | ⟨q, cap, cur0, hv, hq, hg, h3, h4, h5, h6⟩
    · cases h0
    · simp only [Value.slice.injEq, Option.some.injEq, Addr.mk.injEq, and_true, true_and] at hv
      obtain ⟨rfl, rfl⟩ := hv
      rw [hb] at hg
      simp only [Option.some.injEq, Obj.cells.injEq, and_true] at hg
      subst hg
      have ho : 0 + (((t :: r).length : Int) - 1).toNat * 2 + 1 = r.length * 2 + 1 := by simp
      rw [ho] at hb'
      simp only [List.length_cons] at h3 h6
      have hs : r.length * 2 + 1 + (#[Value.int .i64 x] : Array Value).size ≤ cur.size := by simp only [List.size_toArray, List.length_cons, List.length_nil]; omega
      refine ⟨by rw [zI6]; simp, .inr ⟨g, c, _, rfl, hq, hb', h3, h4, by rw [qF8 hs]; exact h5, ?_⟩⟩
      have h7 := qH4 hs
      simp only [List.size_toArray, List.length_cons, List.length_nil] at h7
      rw [List.length_cons, show (r.length + 1) * 2 = r.length * 2 + 1 + (0 + 1) from by omega, h7]
      have h8 : (cur.toList.take ((r.length + 1) * 2)).take (r.length * 2 + 1) = (encL (t :: r).reverse).take (r.length * 2 + 1) := by rw [h6]
      rw [List.take_take, Nat.min_eq_left (by omega)] at h8
      rw [h8, List.reverse_cons, zK5, List.reverse_cons, zK5, List.take_append, zI6, List.take_of_length_le (by rw [zI6]; simp)]
      simp [encL, encS]
theorem yS1 {w : World} {base : Nat} {T : TypeId} {v : Value} {O : List Spn} {s : Spn} (h : w.ownsRow base T 2 v (O.length + 1) (encL O.reverse ++ [.int .i64 s.1, .int .i64 s.2])) : w.ownsRow base T 2 v (s :: O).length (encL (s :: O).reverse) := by
  rw [List.reverse_cons, zK5]
  exact h
theorem qC7 {M : List Spn} {k : Nat} (h : k < M.length) : (M.take (k + 1)).foldl zO0 [] = zO0 ((M.take k).foldl zO0 []) (gS M k) := by
  rw [List.take_succ_eq_append_getElem h, List.foldl_append, zM1 h]; rfl
abbrev normO (M : List Spn) (k : Nat) : List Spn := (M.take k).foldl zO0 []
theorem qH5 : ∀ (M O : List Spn), (M.foldl zO0 O).length ≤ O.length + M.length
  | [], O => by simp
  | s :: M, O => by
    have h1 := qH5 M (zO0 O s)
    have h2 := yR9 (O := O) (s := s)
    simp only [List.foldl_cons, List.length_cons]
    omega
end Go.Proofs.YtkkbbhpbcfcplaaGreat.K
namespace Go.Proofs.YtkkbbhpbcfcplaaGreat.K
open Go Go.RowKit Go.Proofs
attribute [local irreducible] Run1 OpG WL W AO zB3
theorem qK6 (w : World) (a b : Int) : zB3 Tryz.prog 59 #[.agg #[.int .i64 a, .int .i64 b]] w (.bool (zN6 (a, b))) := by
 have G := Grow.rfl' w
 refine zA7 Tryz.func59 Tryz.ntmps59 Tryz.results59 rfl rfl ?_
 refine qZ 2 ?_
 refine stp ?_
 refine qC ?_
 intro b1 w2 hb3 hc4 g5
 have hge6 := Nat.le_trans G.size hb3
 replace G := G.tr g5
 clear g5 hb3
 refine qZ 8 ?_
 refine stp (zR5 rfl rfl ?_)
 refine qZ 3 ?_
 refine ret1 (zA1 (v := .bool (decide (b ≤ a))) rfl) ⟨?_, G⟩
 rfl
theorem qH6 (w : World) (a : Int) : Calls Tryz.prog 97 #[.int .i64 a] w (Ret fun v w' => v = .bool false ∧ w' = w) := by
 refine zC1 Tryz.func97 Tryz.ntmps97 Tryz.results97 rfl rfl ?_
 refine qZ 8 ?_
 refine stp (qT6 rfl rfl (by simp) ?_)
 refine qZ 3 ?_
 refine ret1 (zA1 (v := .bool false) rfl) ⟨rfl, rfl⟩
theorem qB3 (w : World) (a b : Int) : Calls Tryz.prog 63 #[.int .i64 a, .int .i64 b] w (Ret fun v w' => v = .int .i64 (cmpI a b) ∧ w' = w) := by
 refine zC1 Tryz.func63 Tryz.ntmps63 Tryz.results63 rfl rfl ?_
 refine qZ 7 ?_
 refine stp ?_
 refine zD8 rfl (qH6 _ _) ?_
 rintro _ _ ⟨rfl, rfl⟩
 refine qZ 5 ?_
 refine stp ?_
 refine zD8 rfl (qH6 _ _) ?_
 rintro _ _ ⟨rfl, rfl⟩
 refine qZ 7 ?_
 refine zL1 rfl ?_
 refine qZ 6 ?_
 refine zL1 rfl ?_
 refine qZ 6 ?_
 refine stp (zF0 rfl rfl ?_)
 refine zA6 ?_
 refine zA2 (b := (decide (a < b))) rfl (fun h1 => ?_) (fun h1 => ?_)
 ·
  replace h1 := qT h1
  refine qZ 5 ?_
  refine ret1 (zA1 (v := .int .i64 (-1)) rfl) ⟨?_, rfl⟩
  unfold cmpI; (try simp only [gt_iff_lt] at *); simp [*]
 ·
  replace h1 := qF h1
  refine qZ 6 ?_
  refine stp (zN1 rfl rfl ?_)
  refine zA6 ?_
  refine zA2 (b := (decide (a > b))) rfl (fun h2 => ?_) (fun h2 => ?_)
  ·
   replace h2 := qT h2
   refine qZ 5 ?_
   refine ret1 (zA1 (v := .int .i64 1) rfl) ⟨?_, rfl⟩
   unfold cmpI; (try simp only [gt_iff_lt] at *); simp [*]
  ·
   replace h2 := qF h2
   refine qZ 6 ?_
   refine ret1 (zA1 (v := .int .i64 0) rfl) ⟨?_, rfl⟩
   unfold cmpI; (try simp only [gt_iff_lt] at *); simp [*]
theorem yS2 (w : World) {ad : Option Addr} {n c : Nat} {xs : List Int} (R : RowAt w 1 ad n (xs.map (.int .i64))) : Calls Tryz.prog 62 #[.slice ad n c] w (Ret fun v w' => v = .int .i64 (orS xs) ∧ w' = w) := by
 have ln := R.len
 have lm := R.lim
 simp only [List.length_map, Nat.mul_one] at ln
 refine zC1 Tryz.func62 Tryz.ntmps62 Tryz.results62 rfl rfl ?_
 refine qZ 16 ?_
 have hw : w = w := rfl
 refine zE7 (fun m_ e_ w_ => ∃ (k : Nat), m_ = n - k ∧ Fr [(3, .int .i64 0), (6, .slice ad n c), (7, .int .i64 (n : Int)), (8, .int .i64 (k : Int))] e_ ∧ (k ≤ n) ∧ (orS xs = orS (xs.drop k)) ∧ (RowAt w_ 1 ad n (xs.map (.int .i64))) ∧ (w_ = w)) _ ⟨0, rfl, zC7 ⟨rfl, rfl, rfl, rfl, trivial⟩, by omega, by simp, R, hw⟩ ?_
 clear R hw
 rintro m_ e_ w1 ⟨k, rfl, ⟨e2, rfl⟩, hk, hor, R, hw⟩
 refine qZ 2 ?_
 refine stp (zF0 rfl rfl ?_)
 refine qZ 2 ?_
 refine zA2 (b := (decide ((k : Int) < (n : Int)))) rfl (fun hlt => ?_) (fun hlt => ?_)
 ·
  replace hlt := qT hlt
  refine qZ 5 ?_
  refine stp (zD7 R rfl rfl ?_ ?_); omega
  refine stp (zD4 (v := .int .i64 (xs.getD k 0)) (m := 0) R rfl (zH8 0 (by omega)) ?_)
  refine qZ 6 ?_
  refine stp (zG4 rfl rfl ?_)
  refine zA6 ?_
  refine zA2 (b := (decide ((xs.getD k 0) ≠ 0))) rfl (fun hx => ?_) (fun hx => ?_)
  ·
   replace hx := qT hx
   refine qZ 6 ?_
   refine ret1 (zA1 (v := .int .i64 (xs.getD k 0)) rfl) ⟨?_, hw⟩
   rw [hor, List.drop_eq_getElem_cons (show k < xs.length by omega), orS, if_pos (by rw [List.getD_eq_getElem?_getD, List.getElem?_eq_getElem (by omega)] at hx; exact hx)]
   simp [List.getD_eq_getElem?_getD, List.getElem?_eq_getElem (show k < xs.length by omega)]
  ·
   replace hx := qF hx
   refine qZ 2 ?_
   refine stp (zB6 rfl rfl ?_ ?_); constructor <;> omega
   refine qZ 2 ?_
   refine ⟨_, ?_, k + 1, rfl, zC7 ⟨rfl, rfl, rfl, rfl, trivial⟩, by omega, by rw [hor, List.drop_eq_getElem_cons (show k < xs.length by omega), orS, if_neg (by rw [List.getD_eq_getElem?_getD, List.getElem?_eq_getElem (by omega)] at hx; exact hx)], R, hw⟩
   omega
 ·
  replace hlt := qF hlt
  have hk2 : xs.drop k = [] := by rw [List.drop_eq_nil_iff]; omega
  refine qZ 7 ?_
  refine ret1 (zA1 (v := .int .i64 0) rfl) ⟨?_, hw⟩
  rw [hor, hk2]; rfl
theorem qS3 (w : World) {ad : Option Addr} {c n fid : Nat} {fst cap : Array Value} {kc : List Value} [FuncI Tryz.prog fid] (R : RowAt w 2 ad n kc) (p : Nat → Bool) (hf : ∀ i, i < n → ∀ w', Grow w w' → zB3 Tryz.prog fid (fst.toList ++ ([Value.agg ((kc.drop (i * 2)).take 2).toArray] ++ cap.toList)).toArray w' (.bool (p i))) : zB3 Tryz.prog 94 #[.slice ad n c, .func (.func fid) fst cap] w (.int .i64 (zR6 p n 0)) := by
 have ln := R.lim
 have G := Grow.rfl' w
 refine zA7 Tryz.func94 Tryz.ntmps94 Tryz.results94 rfl rfl ?_
 refine qZ 12 ?_
 refine zE7 (fun m_ e_ w_ => ∃ (k : Nat), m_ = n - k ∧ Fr [(0, .slice ad n c), (1, .func (.func fid) fst cap), (7, .int .i64 (n : Int)), (8, .int .i64 (k : Int))] e_ ∧ (k ≤ n) ∧ (∀ j, j < k → p j = false) ∧ Grow w w_) _ ⟨0, rfl, zC7 ⟨rfl, rfl, rfl, rfl, trivial⟩, by omega, fun j hj => by omega, G⟩ ?_
 clear G
 rintro m_ e_ w1 ⟨k, rfl, ⟨e2, rfl⟩, hk, hno, G⟩
 refine qZ 2 ?_
 refine stp (zF0 rfl rfl ?_)
 refine qZ 2 ?_
 refine zA2 (b := (decide ((k : Int) < (n : Int)))) rfl (fun hlt => ?_) (fun hlt => ?_)
 ·
  replace hlt := qT hlt
  refine qZ 13 ?_
  refine stp (zD7 (R.grow G) rfl rfl ?_ ?_); omega
  refine stp (zO3 (R.grow G) rfl (by decide) (by rw [R.len]; omega) rfl ?_)
  refine stp (zA4 (v := .bool (p k)) rfl (hf k (by omega) _ G) ?_)
  intro w3 g4
  replace G := G.tr g4
  clear g4
  refine zA6 ?_
  refine zA2 (b := (p k)) rfl (fun hpk => ?_) (fun hpk => ?_)
  ·
   refine qZ 6 ?_
   refine ret1 (zA1 (v := .int .i64 (k : Int)) rfl) ⟨?_, G⟩
   rw [qC1 n 0 k (by omega) (by omega) hpk (fun j _ hj => hno j hj)]
  ·
   refine qZ 2 ?_
   refine stp (zB6 rfl rfl ?_ ?_); constructor <;> omega
   refine qZ 2 ?_
   refine ⟨_, ?_, k + 1, rfl, zC7 ⟨rfl, rfl, rfl, rfl, trivial⟩, by omega, fun j hj => by rcases Nat.lt_succ_iff_lt_or_eq.1 hj with h | h; exact hno j h; subst h; exact hpk, G⟩
   omega
 ·
  replace hlt := qF hlt
  have hk2 : k = n := by omega
  subst hk2
  refine qZ 6 ?_
  refine ret1 (zA1 (v := .int .i64 (-1)) rfl) ⟨?_, G⟩
  rw [qC0 _ _ (fun j _ hj => hno j (by omega))]
theorem qX6 (w : World) (a b c d : Int) : Calls Tryz.prog 61 #[.agg #[.int .i64 a, .int .i64 b], .agg #[.int .i64 c, .int .i64 d]] w (Ret fun v w' => v = .int .i64 (cfS (a, b) (c, d)) ∧ Exa w w') := by
 refine zC1 Tryz.func61 Tryz.ntmps61 Tryz.results61 rfl rfl ?_
 have X := Exa.refl w
 refine qZ 2 ?_
 refine stp (yT2 rfl ?_)
 intro b1 wb1 hge1 hb1 gb1
 replace X := X.tr gb1
 refine stp (yT2 rfl ?_)
 intro b2 wb2 hge2 hb2 gb2
 replace X := X.tr gb2
 replace hb1 := gb2.grow.heap hb1
 refine qZ 3 ?_
 have kb_hb1 : ∀ w_, exQ.r wb2 w_ → w_.heap[b1]? = some (.cells #[.int .i64 a, .int .i64 b] 61 (0, 0)) := fun w_ k_ => (Exa.grow k_).heap hb1
 have kb_hb2 : ∀ w_, exQ.r wb2 w_ → w_.heap[b2]? = some (.cells #[.int .i64 c, .int .i64 d] 61 (0, 0)) := fun w_ k_ => (Exa.grow k_).heap hb2
 refine yZ4 10 [[], [0], [], [0], [3, 2, 1, 0], [], [0], [], [0], [8, 7, 6, 5, 4, 3, 2, 1, 0]] [] exQ (fun k_ w_ => match k_ with | _ => True) mixed (by kernel_rfl) (by kernel_rfl) (by kernel_rfl) (by kernel_rfl) (fun _ _ _ _ _ => trivial) (fun _ _ => trivial) ?_
 intro w1 g2
 replace kb_hb1 : ∀ w_, exQ.r w1 w_ → w_.heap[b1]? = some (.cells #[.int .i64 a, .int .i64 b] 61 (0, 0)) := fun w_ k_ => kb_hb1 w_ (exQ.tr (exQ.grow g2) k_)
 replace kb_hb2 : ∀ w_, exQ.r w1 w_ → w_.heap[b2]? = some (.cells #[.int .i64 c, .int .i64 d] 61 (0, 0)) := fun w_ k_ => kb_hb2 w_ (exQ.tr (exQ.grow g2) k_)
 have k0_ : exQ.r wb2 w1 := (exQ.grow g2)
 apply zX2 (hm := by rfl)
 ·intro w_ g_; refine og rfl ?_; refine zD0 rfl ?_; exact ⟨Exa.refl _, rfl⟩
 apply zX2 (hm := by rfl)
 ·intro w_ g_; refine og rfl ?_; refine zF9 (v := .int .i64 a) rfl (kb_hb1 _ g_) rfl ?_; exact ⟨Exa.refl _, rfl⟩
 apply zX2 (hm := by rfl)
 ·intro w_ g_; refine og rfl ?_; refine zD0 rfl ?_; exact ⟨Exa.refl _, rfl⟩
 apply zX2 (hm := by rfl)
 ·intro w_ g_; refine og rfl ?_; refine zF9 (v := .int .i64 c) rfl (kb_hb2 _ g_) rfl ?_; exact ⟨Exa.refl _, rfl⟩
 apply zX2 (hm := by rfl)
 ·intro w_ g_; refine og rfl ?_; refine zD8 rfl (qB3 _ _ _) ?_; rintro _ _ ⟨rfl, rfl⟩; exact ⟨Exa.refl _, rfl⟩
 apply zX2 (hm := by rfl)
 ·intro w_ g_; refine og rfl ?_; refine zD0 rfl ?_; exact ⟨Exa.refl _, rfl⟩
 apply zX2 (hm := by rfl)
 ·intro w_ g_; refine og rfl ?_; refine zF9 (v := .int .i64 b) rfl (kb_hb1 _ g_) rfl ?_; exact ⟨Exa.refl _, rfl⟩
 apply zX2 (hm := by rfl)
 ·intro w_ g_; refine og rfl ?_; refine zD0 rfl ?_; exact ⟨Exa.refl _, rfl⟩
 apply zX2 (hm := by rfl)
 ·intro w_ g_; refine og rfl ?_; refine zF9 (v := .int .i64 d) rfl (kb_hb2 _ g_) rfl ?_; exact ⟨Exa.refl _, rfl⟩
 apply zX2 (hm := by rfl)
 ·intro w_ g_; refine og rfl ?_; refine zD8 rfl (qB3 _ _ _) ?_; rintro _ _ ⟨rfl, rfl⟩; exact ⟨Exa.refl _, rfl⟩
 refine yW6 ?_
 intro w3 g4 S_
 replace k0_ := (exQ.tr k0_ g4)
 replace X := X.tr k0_
 replace hb1 := kb_hb1 _ g4
 clear kb_hb1
 replace hb2 := kb_hb2 _ g4
 clear kb_hb2
 refine stp (qN0 (cs := #[.int .i64 (cmpI a c), .int .i64 (cmpI b d)]) (el := 3) (fun w => by kernel_rfl) ?_)
 intro b3 wb3 hge3 hb3 gb3
 replace X := X.tr gb3
 refine stp ?_
 refine zD8 rfl (yS2 _ (xs := [cmpI a c, cmpI b d]) ?_) ?_
 ·obtain ⟨ad_, c_, he_, -, -, R_⟩ := Row.of_block (sz := 1) (n := 2) hb3 rfl rfl (by omega)
  simp only [Value.slice.injEq] at he_
  obtain ⟨rfl, -, rfl⟩ := he_
  exact R_
 rintro _ _ ⟨rfl, rfl⟩
 refine qZ 3 ?_
 refine ret1 (zA1 (v := .int .i64 (orS [cmpI a c, cmpI b d])) rfl) ⟨rfl, X⟩
end Go.Proofs.YtkkbbhpbcfcplaaGreat.K
namespace Go.Proofs.YtkkbbhpbcfcplaaGreat.K
open Go Go.RowKit Go.Proofs Go.Shelf
attribute [local irreducible] Run1 OpG WL W AO zB3
def yM9 : Go.Shelf.Ren := ⟨fun | 6 => 60 | 15 => 96 | 14 => 95 | 28 => 128 | 29 => 129 | 20 => 120 | 21 => 121 | 22 => 122 | 23 => 123 | 24 => 124 | 25 => 125 | 26 => 126 | 27 => 127 | 46 => 152 | 47 => 153 | 48 => 154 | 49 => 155 | 50 => 156 | 57 => 162 | n => n, fun | 22 => 32 | 24 => 61 | 25 => 128 | 3 => 3 | 39 => 96 | 0 => 0 | 53 => 194 | 55 => 23 | 4 => 4 | 46 => 188 | 45 => 187 | 50 => 151 | 5 => 5 | 9 => 9 | 66 => 208 | 70 => 212 | 76 => 223 | 77 => 167 | n => n, fun | n => n⟩
theorem yZ6 : Go.Proofs.SlLaysF0.n6 Tryz.prog yM9 := {
  mixed := by kernel_rfl
  f6 := ⟨Tryz.f60.name, by decide, Tryz.func60.trans (congrArg some (by kernel_rfl))⟩
  f14 := ⟨Tryz.f95.name, by decide, Tryz.func95.trans (congrArg some (by kernel_rfl))⟩
  f15 := Tryz.func96.trans (congrArg some (by kernel_rfl))
  f20 := ⟨Tryz.f120.name, by decide, Tryz.func120.trans (congrArg some (by kernel_rfl))⟩
  f21 := ⟨Tryz.f121.name, by decide, Tryz.func121.trans (congrArg some (by kernel_rfl))⟩
  f22 := ⟨Tryz.f122.name, by decide, Tryz.func122.trans (congrArg some (by kernel_rfl))⟩
  f23 := ⟨Tryz.f123.name, by decide, Tryz.func123.trans (congrArg some (by kernel_rfl))⟩
  f24 := ⟨Tryz.f124.name, by decide, Tryz.func124.trans (congrArg some (by kernel_rfl))⟩
  f25 := ⟨Tryz.f125.name, by decide, Tryz.func125.trans (congrArg some (by kernel_rfl))⟩
  f26 := ⟨Tryz.f126.name, by decide, Tryz.func126.trans (congrArg some (by kernel_rfl))⟩
  f27 := ⟨Tryz.f127.name, by decide, Tryz.func127.trans (congrArg some (by kernel_rfl))⟩
  f28 := Tryz.func128.trans (congrArg some (by kernel_rfl))
  f29 := Tryz.func129.trans (congrArg some (by kernel_rfl))
  f46 := ⟨Tryz.f152.name, by decide, Tryz.func152.trans (congrArg some (by kernel_rfl))⟩
  f47 := Tryz.func153.trans (congrArg some (by kernel_rfl))
  f48 := Tryz.func154.trans (congrArg some (by kernel_rfl))
  f49 := ⟨Tryz.f155.name, by decide, Tryz.func155.trans (congrArg some (by kernel_rfl))⟩
  f50 := ⟨Tryz.f156.name, by decide, Tryz.func156.trans (congrArg some (by kernel_rfl))⟩
  f57 := ⟨Tryz.f162.name, by decide, Tryz.func162.trans (congrArg some (by kernel_rfl))⟩
  t0 := Tryz.underlying0
  a0 := Tryz.isAgg0
  z0 := Tryz.sizeOf0
  v0 := Tryz.zeroValue0
  t3 := Tryz.underlying3
  a3 := Tryz.isAgg3
  z3 := Tryz.sizeOf3
  v3 := Tryz.zeroValue3
  t4 := Tryz.underlying4
  a4 := Tryz.isAgg4
  z4 := Tryz.sizeOf4
  v4 := Tryz.zeroValue4
  t5 := Tryz.underlying5
  a5 := Tryz.isAgg5
  z5 := Tryz.sizeOf5
  v5 := Tryz.zeroValue5
  t9 := Tryz.underlying9
  a9 := Tryz.isAgg9
  z9 := Tryz.sizeOf9
  v9 := Tryz.zeroValue9
  t22 := Tryz.underlying32
  a22 := Tryz.isAgg32
  z22 := Tryz.sizeOf32
  v22 := Tryz.zeroValue32
  t25 := Tryz.underlying128
  a25 := Tryz.isAgg128
  z25 := Tryz.sizeOf128
  v25 := Tryz.zeroValue128
  t39 := Tryz.underlying96
  a39 := Tryz.isAgg96
  z39 := Tryz.sizeOf96
  v39 := Tryz.zeroValue96
  t45 := Tryz.underlying187
  a45 := Tryz.isAgg187
  z45 := Tryz.sizeOf187
  v45 := Tryz.zeroValue187
  t46 := Tryz.underlying188
  a46 := Tryz.isAgg188
  z46 := Tryz.sizeOf188
  v46 := Tryz.zeroValue188
  t50 := Tryz.underlying151
  a50 := Tryz.isAgg151
  z50 := Tryz.sizeOf151
  v50 := Tryz.zeroValue151
  t53 := Tryz.underlying194
  a53 := Tryz.isAgg194
  z53 := Tryz.sizeOf194
  v53 := Tryz.zeroValue194
  t55 := Tryz.underlying23
  a55 := Tryz.isAgg23
  z55 := Tryz.sizeOf23
  v55 := Tryz.zeroValue23
  t66 := Tryz.underlying208
  a66 := Tryz.isAgg208
  z66 := Tryz.sizeOf208
  v66 := Tryz.zeroValue208
  t70 := Tryz.underlying212
  a70 := Tryz.isAgg212
  z70 := Tryz.sizeOf212
  v70 := Tryz.zeroValue212
  t76 := Tryz.underlying223
  a76 := Tryz.isAgg223
  z76 := Tryz.sizeOf223
  v76 := Tryz.zeroValue223
  t77 := Tryz.underlying167
  a77 := Tryz.isAgg167
  z77 := Tryz.sizeOf167
  v77 := Tryz.zeroValue167 }
theorem yF4 (w : World) {g cap : Nat} {cur : Array Value} {L : List Spn} (hb : w.heap[g]? = some (.cells cur 61 (0, 0))) (hx : cur.toList.take (L.length * 2) = encL L) (hf : L.length * 2 ≤ cur.size) (hl : L.length ≤ 140737488355328) :
    Calls Tryz.prog 60 #[.slice (some ⟨g, 0, none⟩) L.length cap, .func (.func 61) #[] #[]] w (Ret fun v w' => ∃ (M : List Spn) (cur' : Array Value), M.Perm L ∧ M.Pairwise (fun a b => a.1 ≤ b.1) ∧ w'.heap[g]? = some (.cells cur' 61 (0, 0)) ∧ cur'.size = cur.size ∧ cur'.toList.take (L.length * 2) = encL M ∧ Kp [g] w w') := by
  have eg : ∀ args w, (callFunc 61 args).run Tryz.prog w = .ok (.enter 61 args) w := enters_of Tryz.func61 (by kernel_rfl) rfl
  have hc : CmpLays Tryz.prog 61 #[] encS 2 cfS g 0 L.toArray.size w := fun m os dk hs x y => by
    refine (qX6 _ x.1 x.2 y.1 y.2).mono ?_
    rintro e w' ⟨v, rfl, rfl, q, os', hq⟩
    exact ⟨rfl, q, os', hq⟩
  have hH : Sort.HoldsK encS 2 w g 0 L.toArray := yF2 hb (by simpa using hx)
  have h := AnyQ.slices_SortFunc yZ6 2 (fun w => by kernel_rfl) (fun w => by kernel_rfl) encS (fun _ => rfl) (fun x v hv => by simp [encS] at hv; rcases hv with rfl | rfl <;> rfl) cfS swoS 61 #[] g 0 cap L.toArray w eg hc hH (zB7 hb) (by simp; omega)
  change Calls Tryz.prog 60 _ _ _ at h
  refine Calls.mono h ?_
  rintro e w' ⟨rfl, d', n, os, hp, hs, rfl⟩
  have hsz : d'.size = L.length := by have := hp.1; simpa using this
  obtain ⟨cur', h1, h2, h3, h4⟩ := yF3 (n := n) (d := d') (os := os) hb (by omega)
  exact ⟨_, rfl, d'.toList, cur', by simpa using yX0 hp, yX1 hp.1 hs, h1, h2, by rw [← hsz]; exact h3, h4⟩
theorem qN1 (w : World) (p : Option Addr) (cap : Nat) (fv : Value) : Calls Tryz.prog 60 #[.slice p 0 cap, fv] w (Ret fun v w' => w' = w) := by
  have h := AnyF.slices_SortFunc_none { yZ6 with } p cap fv w
  change Calls Tryz.prog 60 _ _ _ at h
  refine Calls.mono h ?_
  rintro e w' ⟨rfl, rfl⟩
  exact ⟨_, rfl, rfl⟩
theorem qX7 (w : World) {base c : Nat} {ad : Option Addr} {L : List Spn} (own : w.ownsRow base 61 2 (.slice ad L.length c) L.length (encL L)) (hbase : base ≤ w.heap.size) (hl : L.length ≤ 140737488355328) :
    Calls Tryz.prog 60 #[.slice ad L.length c, .func (.func 61) #[] #[]] w (Ret fun v w' => ∃ M : List Spn, M.Perm L ∧ M.Pairwise (fun a b => a.1 ≤ b.1) ∧ w'.ownsRow base 61 2 (.slice ad L.length c) L.length (encL M) ∧ Below base w w') := by
  rcases Nat.eq_zero_or_pos L.length with h0 | h0
  · have hn := List.eq_nil_of_length_eq_zero h0
    subst hn
    refine Calls.mono (qN1 w ad c _) ?_
    rintro e w' ⟨v, rfl, rfl⟩
    exact ⟨_, rfl, [], List.Perm.refl _, List.Pairwise.nil, own, Below.refl _ _⟩
  · obtain ⟨q, cap, cur, hv, hq, hgc, hn1, hn2, hcs, hct⟩ := qC2 own h0
    simp only [Value.slice.injEq, true_and] at hv
    obtain ⟨rfl, rfl⟩ := hv
    refine Calls.mono (yF4 w hgc hct (by omega) hl) ?_
    rintro e w' ⟨v, rfl, M, cur', hp, hs, hg', hz, hx, hk⟩
    exact ⟨_, rfl, M, hp, hs, ⟨by rw [zI6, hp.length_eq], .inr ⟨q, c, cur', rfl, hq, hg', hn1, hn2, by rw [hz, hcs], hx⟩⟩, hk.below (fun x hx => by simp at hx; omega) hbase⟩
theorem qS4 (w : World) {b : Addr} {n c : Nat} {xs : List Value} (hc : n ≤ c) (hc2 : c ≤ maxLen) (R : RowAt w 2 (some b) n xs) (h1 : ∀ q ∈ xs, q.oneCell' = true) (hb : n ≤ 8796093022208) : Calls Tryz.prog 58 #[.slice (some b) n c] w (Ret fun v w' => w'.ownsRow w.heap.size 61 2 v n xs ∧ Grow w w') := by
 have G := Grow.rfl' w
 refine zC1 Tryz.func58 Tryz.ntmps58 Tryz.results58 rfl rfl ?_
 refine qZ 8 ?_
 refine stp (qZ4 rfl rfl ?_)
 refine zA6 ?_
 refine zL1 rfl ?_
 refine qZ 3 ?_
 refine stp (zC4 (cs := #[]) (el := 61) (fun w => by kernel_rfl) ?_)
 intro bs_ w5_ hbs_ hcs_ g5_
 replace G := G.tr g5_
 clear g5_
 have own0 := yO5 (base := w.heap.size) (sz := 2) hcs_ (by have := G.size; omega)
 refine qZ 1 ?_
 refine stp (zG2 rfl rfl rfl rfl own0 ⟨_, c, rfl, hc, hc2, R.grow G⟩ h1 (by simp only [maxLen]; omega) (by omega) G.size ?_)
 intro v6 w6 own6 gr6
 have G6 := G.grown gr6 (zI3 own0)
 rw [Nat.zero_add, List.nil_append] at own6
 refine stp (zJ5 (v := v6) rfl ?_)
 refine qZ 2 ?_
 exact ret1 (zA1 rfl) ⟨own6, G6⟩
theorem qS5 (w : World) {c : Nat} : Calls Tryz.prog 58 #[.slice none 0 c] w (Ret fun v w' => v = .slice none 0 0 ∧ Grow w w') := by
 have G := Grow.rfl' w
 refine zC1 Tryz.func58 Tryz.ntmps58 Tryz.results58 rfl rfl ?_
 refine qZ 8 ?_
 refine stp (qZ4 rfl rfl ?_)
 refine zA6 ?_
 refine zT8 rfl ?_
 refine qZ 5 ?_
 refine ret1 (zA1 (v := .slice none 0 0) rfl) ⟨rfl, G⟩
theorem qS6 (w : World) {ad : Option Addr} {n c : Nat} {L : List Spn} (hc : n ≤ c) (hc2 : c ≤ maxLen) (R : RowAt w 2 ad n (encL L)) (hb : n ≤ 8796093022208) : Calls Tryz.prog 58 #[.slice ad n c] w (Ret fun v w' => w'.ownsRow w.heap.size 61 2 v n (encL L) ∧ Grow w w') := by
  cases ad with
  | some b => exact qS4 w hc hc2 R yQ8 hb
  | none =>
    have hn : n = 0 := by
      rcases Nat.eq_zero_or_pos n with h | h
      · exact h
      · obtain ⟨b, o, cs, T, fr, h1, _⟩ := R.at_ h; cases h1
    subst hn
    have hl := qF0 R
    have := List.eq_nil_of_length_eq_zero hl
    subst this
    refine Calls.mono (qS5 w) ?_
    rintro e w' ⟨v, rfl, rfl, G⟩
    exact ⟨_, rfl, World.ownsRow_nil _ _ _ _, G⟩
end Go.Proofs.YtkkbbhpbcfcplaaGreat.K
namespace Go.Proofs.YtkkbbhpbcfcplaaGreat.K
open Go Go.RowKit Go.Proofs
attribute [local irreducible] Run1 OpG WL W AO zB3
theorem qS7 (w : World) {base c : Nat} {ad : Option Addr} {L : List Spn} (own : w.ownsRow base 61 2 (.slice ad L.length c) L.length (encL L)) (hbase : base ≤ w.heap.size) (hl : L.length ≤ 8796093022208) : Calls Tryz.prog 57 #[.slice ad L.length c, .func (.func 59) #[] #[]] w (Ret fun v w' => w'.ownsRow base 61 2 v (L.filter keepS).length (encL (L.filter keepS)) ∧ Below base w w') := by
 refine zC1 Tryz.func57 Tryz.ntmps57 Tryz.results57 rfl rfl ?_
 have hB := Below.refl base w
 have hsz := hbase
 obtain ⟨ad', c', he, hc1, hc2, R⟩ := zI1 own (by omega)
 simp only [Value.slice.injEq, true_and] at he
 obtain ⟨rfl, rfl⟩ := he
 refine qZ 8 ?_
 refine stp (zA4 (v := .int .i64 (zR6 (fun i => zN6 (gS L i)) L.length 0)) rfl (qS3 _ R (fun i => zN6 (gS L i)) (fun i hi w' g' => by rw [yT0 R hi]; exact qK6 w' _ _)) ?_)
 intro w1 g2
 replace hB := Below.trans hB (Below.mono g2 hsz)
 replace hsz := Nat.le_trans hsz g2.size
 replace own := zC0 own g2
 clear g2
 refine qZ 6 ?_
 refine stp (zD6 rfl rfl ?_)
 refine zA6 ?_
 rcases yR8 (fun i => zN6 (gS L i)) L.length with ⟨hfi, hno⟩ | ⟨i, hi, hfi, hpi, hno⟩
 ·
  refine zT8 (show _ = Value.bool true from congrArg Value.bool (by rw [hfi]; rfl)) ?_
  refine qZ 6 ?_
  have hfl : L.filter keepS = L := List.filter_eq_self.2 fun s hs => by
   obtain ⟨j, hj, rfl⟩ := List.getElem_of_mem hs
   have := hno j hj
   rw [zM1 hj] at this
   simp [keepS, this]
  rw [hfl]
  refine ret1 (zA1 (v := .slice ad L.length c) rfl) ⟨own, hB⟩
 ·
  refine zL1 (show _ = Value.bool false from congrArg Value.bool (by rw [hfi]; exact decide_eq_false (by omega))) ?_
  obtain ⟨q, cap, cur, hv, hq, hgc, hn1, hn2, hcs, hct⟩ := qC2 own (by omega)
  simp only [Value.slice.injEq, true_and] at hv
  obtain ⟨rfl, rfl⟩ := hv
  clear own R
  have D0 := DelSt.start hcs hn1 hct hi hpi hno
  refine qZ 5 ?_
  refine stp (zB6 rfl rfl ?_ ?_); constructor <;> omega
  refine qZ 3 ?_
  refine zE7 (fun m_ e_ w_ => ∃ (j : Nat) (K : List Spn) (cur' : Array Value), m_ = L.length - j ∧ Fr [(0, .slice (some ⟨q, 0, none⟩) L.length c), (1, .func (.func 59) #[] #[]), (4, .slice none 0 0), (6, .int .i64 (j : Int)), (5, .int .i64 (K.length : Int))] e_ ∧ (DelSt L c j K cur') ∧ (Below base w w_) ∧ (base ≤ w_.heap.size) ∧ (w_.heap[q]? = some (.cells cur' 61 (0, 0)))) _ ⟨i + 1, L.take i, cur, rfl, zC7 ⟨rfl, rfl, rfl, congrArg (Value.int .i64) (by rw [hfi]; omega), congrArg (Value.int .i64) (by rw [hfi, List.length_take]; omega), trivial⟩, D0, hB, hsz, hgc⟩ ?_
  clear hB hsz hgc
  rintro m_ e_ w3 ⟨j, K, cur', rfl, ⟨e4, rfl⟩, D, hB, hsz, hgc⟩
  refine qZ 6 ?_
  refine stp (zF0 rfl rfl ?_)
  refine zA6 ?_
  refine zA2 (b := (decide ((j : Int) < (L.length : Int)))) rfl (fun hlt => ?_) (fun hlt => ?_)
  ·
   replace hlt := qT hlt
   have hj : j < L.length := by omega
   have RC := D.row hgc (by omega)
   have hld := D.load hj
   have hlt1 := D.lt
   refine qZ 7 ?_
   refine stp (zD7 RC rfl rfl ?_ ?_); omega
   refine stp (zO3 RC rfl (by decide) (by rw [RC.len]; omega) hld ?_)
   refine stp (zA9 ?_)
   intro b5 w6 hb7 hc8 g9
   refine stn (qS hc8 ?_)
   intro w10 hc11 u12
   have g13 := g9.upd u12 hb7
   replace hB := Below.trans hB (Below.mono g13 hsz)
   replace hsz := Nat.le_trans hsz g13.size
   replace hgc := g13.heap hgc
   replace RC := RC.grow g13
   clear u12 g9 hb7 hc8
   refine qZ 5 ?_
   refine stp (zA4 (v := .bool (zN6 (gS L j))) rfl (qK6 _ _ _) ?_)
   intro w14 g15
   replace hB := Below.trans hB (Below.mono g15 hsz)
   replace hsz := Nat.le_trans hsz g15.size
   replace hgc := g15.heap hgc
   replace RC := RC.grow g15
   replace hc11 := g15.heap hc11
   clear g15
   refine stp (zN9 rfl ?_)
   refine zA6 ?_
   refine zA2 (b := (!(zN6 (gS L j)))) rfl (fun hk => ?_) (fun hk => ?_)
   ·
    simp only [sb] at hk
    have hkp : zN6 (gS L j) = false := by simpa using hk
    refine qZ 5 ?_
    refine stp (zI5 (b := q) (o := 0) (i := (K.length : Int)) rfl rfl ?_ ?_ ?_); omega; omega
    refine stn (zX5 (b := q) (o := 0 + K.length * 2) (n := 2) rfl rfl rfl hgc rfl (Nat.ble_eq_true_of_le (by have := D.sz; have := D.cap; omega)) rfl rfl ?_)
    intro w16 hgc2 u2
    replace hB := Below.trans hB (u2.below hq)
    replace hsz : base ≤ w16.heap.size := by rw [u2.size]; exact hsz
    clear RC
    refine qZ 3 ?_
    refine stp (zB6 rfl rfl ?_ ?_); constructor <;> omega
    refine qZ 4 ?_
    refine stp (zB6 rfl rfl ?_ ?_); constructor <;> omega
    refine qZ 2 ?_
    refine ⟨_, ?_, j + 1, K ++ [gS L j], _, rfl, zC7 ⟨rfl, rfl, rfl, rfl, by simp; rfl, trivial⟩, D.put hj hkp, hB, hsz, hgc2⟩
    omega
   ·
    simp only [sb] at hk
    have hkp : zN6 (gS L j) = true := by simpa using hk
    refine qZ 3 ?_
    refine stp (zB6 rfl rfl ?_ ?_); constructor <;> omega
    refine qZ 2 ?_
    refine ⟨_, ?_, j + 1, K, cur', rfl, zC7 ⟨rfl, rfl, rfl, rfl, rfl, trivial⟩, D.skip hj hkp, hB, hsz, hgc⟩
    omega
  ·
   replace hlt := qF hlt
   have hj9 : j = L.length := by have := D.hj; omega
   have hlt1 := D.lt
   have hK9 : K = L.filter keepS := by rw [D.hK, hj9, List.take_length]
   refine qZ 5 ?_
   refine stp (qZ2 rfl rfl ?_ ?_ ?_); omega; omega
   refine stn (yW9 (b := q) (o := K.length * 2) (T := 61) (sz := 2) (z := .agg #[.int .i64 0, .int .i64 0]) (n := L.length - (K.length : Int).toNat) rfl rfl rfl ?_ hgc ?_ rfl ?_ ?_)
   ·intro _
    rw [if_neg (by omega), Int.toNat_natCast]
    simp [add_lit]
   ·rw [Int.toNat_natCast]; have := D.sz; have := D.cap; omega
   ·intro q_ hq_
    have hq2_ : q_ = .int .i64 0 := by simpa [Value.cells] using hq_
    rw [hq2_]; rfl
   intro w17 cs9 hgc9 hs9 ht9 u9
   replace hB := Below.trans hB (u9.below hq)
   refine qZ 5 ?_
   refine stp (qE5 rfl rfl ?_ ?_ ?_); omega; omega
   refine qZ 3 ?_
   have hsl : (Value.slice (if c = 0 then some ⟨q, 0, none⟩ else (some (⟨q, 0, none⟩ : Addr)).map (·.add (0 * 2))) (K.length : Int).toNat c) = .slice (some ⟨q, 0, none⟩) K.length c := by rw [if_neg (by omega), Int.toNat_natCast]; simp [add_lit]
   rw [← hK9]
   refine ret1 (zA1 (v := .slice (if c = 0 then some ⟨q, 0, none⟩ else (some (⟨q, 0, none⟩ : Addr)).map (·.add (0 * 2))) (K.length : Int).toNat c) rfl) ⟨by rw [hsl]; exact ⟨zI6 _, .inr ⟨q, c, cs9, rfl, hq, hgc9, by omega, hn2, by rw [hs9, D.sz], by rw [ht9, D.hd]⟩⟩, hB⟩
end Go.Proofs.YtkkbbhpbcfcplaaGreat.K
namespace Go.Proofs.YtkkbbhpbcfcplaaGreat.K
open Go Go.RowKit
def nrm4 (L : List Spn) : List Spn := qW7 ((L.filter keepS).mergeSort fun a b => decide (a.1 ≤ b.1))
theorem yN0 (L : List Spn) : NormOf L (nrm4 L) := by
  refine yM2 (List.mergeSort_perm _ _) ?_
  have := List.pairwise_mergeSort (le := fun a b : Spn => decide (a.1 ≤ b.1)) (fun a b c h1 h2 => by simp only [decide_eq_true_eq] at *; omega) (fun a b => by simp only [Bool.or_eq_true, decide_eq_true_eq]; omega) (L.filter keepS)
  exact this.imp fun h => by simpa using h
theorem NormOf.eq {L N : List Spn} (h : NormOf L N) : N = nrm4 L := h.same (yN0 L) fun _ => Iff.rfl
def sumS : List Spn → Int
  | [] => 0
  | s :: L => (s.2 - s.1) + sumS L
/-! ### right? -/
def zL8 : List Spn → Bool
  | [] => true
  | s :: L => !zN6 s && (match L with | [] => true | t :: _ => decide (s.2 < t.1)) && zL8 L
theorem qS8 : ∀ {L : List Spn}, zL7 L → zL8 L = true
  | [], _ => rfl
  | [s], h => by
    have := h.1
    simp [zL8, zN6]; omega
  | s :: t :: L, h => by
    rw [zL8]
    have h1 := h.1
    have h2 := h.2.1 t (by simp)
    have ih := qS8 h.2.2
    simp only [zN6, Bool.and_eq_true, Bool.not_eq_true', decide_eq_false_iff_not, decide_eq_true_eq]
    exact ⟨⟨by omega, h2⟩, ih⟩
def badS (L : List Spn) (i : Nat) : Bool := zN6 (gS L i) || (decide ((i : Int) > 0) && decide ((gS L i).1 ≤ (gS L (i - 1)).2))
theorem qN2 (s : Spn) (L : List Spn) (i : Nat) : gS (s :: L) (i + 1) = gS L i := rfl
theorem qE1 : ∀ {L : List Spn}, (∀ i, i < L.length → badS L i = false) → zL8 L = true
  | [], _ => rfl
  | [s], h => by
    have := h 0 (by simp)
    simp only [badS, gS, List.getD_cons_zero, Bool.or_eq_false_iff] at this
    simp [zL8, this.1]
  | s :: t :: L, h => by
    have h0 := h 0 (by simp)
    have h1 := h 1 (by simp)
    have ih := qE1 (L := t :: L) fun i hi => by
      have := h (i + 1) (by simpa using hi)
      unfold badS at this ⊢
      rw [qN2] at this
      simp only [Bool.or_eq_false_iff, Bool.and_eq_false_iff] at this ⊢
      refine ⟨this.1, ?_⟩
      rcases Nat.eq_zero_or_pos i with h0 | h0
      · subst h0; exact .inl rfl
      · right
        rcases this.2 with h2 | h2
        · exact absurd h2 (by simp)
        · rw [show i + 1 - 1 = (i - 1) + 1 from by omega, qN2] at h2
          exact h2
    rw [zL8]
    unfold badS at h0 h1
    simp only [gS, List.getD_cons_zero, Bool.or_eq_false_iff, Bool.and_eq_false_iff, List.getD_cons_succ] at h0 h1
    simp only [Bool.and_eq_true, Bool.not_eq_true', decide_eq_true_eq]
    refine ⟨⟨h0.1, ?_⟩, ih⟩
    rcases h1.2 with h2 | h2
    · exact absurd h2 (by decide)
    · have := qF h2
      simp only [Nat.sub_self, List.getD_cons_zero] at this
      omega
theorem qE2 : ∀ {L : List Spn}, zL8 L = true → ∀ i, i < L.length → badS L i = false
  | [], _, i, hi => by simp at hi
  | s :: L, h, 0, _ => by
    have h1 : zN6 s = false := by
      cases L with
      | nil => simpa [zL8] using h
      | cons t L => rw [zL8] at h; simp only [Bool.and_eq_true, Bool.not_eq_true'] at h; exact h.1.1
    simp [badS, gS, h1]
  | [s], h, i + 1, hi => by simp at hi
  | s :: t :: L, h, i + 1, hi => by
    rw [zL8] at h
    simp only [Bool.and_eq_true, Bool.not_eq_true', decide_eq_true_eq] at h
    have ih := qE2 h.2 i (by simpa using hi)
    unfold badS at ih ⊢
    rw [qN2]
    simp only [Bool.or_eq_false_iff, Bool.and_eq_false_iff] at ih ⊢
    refine ⟨ih.1, .inr ?_⟩
    rcases Nat.eq_zero_or_pos i with h0 | h0
    · subst h0
      have := h.1.2
      simp only [gS, List.getD_cons_zero, Nat.zero_add, Nat.sub_self]
      exact decide_eq_false (by omega)
    · rcases ih.2 with h2 | h2
      · exact absurd (qF h2) (by omega)
      · rw [show i + 1 - 1 = (i - 1) + 1 from by omega, qN2]
        exact h2
theorem yN1 {L : List Spn} {k : Nat} (hk : k < L.length) (h : badS L k = true) : zL8 L = false := by
  cases hr : zL8 L with
  | false => rfl
  | true => rw [qE2 hr k hk] at h; cases h
/-! ### the document's answers -/
/-! ### what is kept while a row grows behind a box -/
end Go.Proofs.YtkkbbhpbcfcplaaGreat.K
namespace Go.Proofs.YtkkbbhpbcfcplaaGreat.K
open Go Go.RowKit Go.Proofs
attribute [local irreducible] Run1 OpG WL W AO zB3
theorem yF5 (w : World) {ad : Option Addr} {c n : Nat} {L : List Spn} (hc : n ≤ c) (hc2 : c ≤ maxLen) (R : RowAt w 2 ad n (encL L)) (hb : n ≤ 8796093022208) : Calls Tryz.prog 33 #[.slice ad n c] w (Ret fun v w' => w'.ownsRow w.heap.size 61 2 v (nrm4 L).length (encL (nrm4 L)) ∧ Grow w w') := by
 refine zC1 Tryz.func33 Tryz.ntmps33 Tryz.results33 rfl rfl ?_
 have hLn := qF0 R
 refine qZ 7 ?_
 refine stp ?_
 refine zD8 rfl (qS6 w hc hc2 R hb) ?_
 rintro v1 w1 ⟨own1, G1⟩
 obtain ⟨ad1, n1, c1, rfl⟩ := zE0 own1
 have hn1 := qB2 own1
 rw [← hLn] at hn1 own1
 subst hn1
 refine stp ?_
 refine zD8 rfl (qS7 w1 own1 G1.size (by omega)) ?_
 rintro v2 w2 ⟨own2, B2⟩
 obtain ⟨ad2, n2, c2, rfl⟩ := zE0 own2
 have hn2 := qB2 own2
 subst hn2
 have G2 : Grow w w2 := Below.trans G1 B2
 refine qZ 5 ?_
 refine stp ?_
 have hfl : (L.filter keepS).length ≤ L.length := List.length_filter_le _ _
 refine zD8 rfl (qX7 w2 own2 G2.size (by omega)) ?_
 rintro v3 w3 ⟨M, hperm, hpair, own3, B3⟩
 have G3 : Grow w w3 := Below.trans G2 B3
 have hML := hperm.length_eq
 obtain ⟨ad3, c3, he3, -, -, R3⟩ := zI1 own3 (by omega)
 simp only [Value.slice.injEq, true_and] at he3
 obtain ⟨rfl, rfl⟩ := he3
 have G0 := Grow.rfl' w3
 have ownO : w3.ownsRow w3.heap.size 61 2 (.slice none 0 0) 0 (encL ([] : List Spn).reverse) := World.ownsRow_nil _ _ _ _
 refine qZ 13 ?_
 refine zE7 (fun m_ e_ w_ => ∃ (k : Nat) (ado : Option Addr) (co : Nat), m_ = (L.filter keepS).length - k ∧ Fr [(2, .slice none 0 0), (14, .slice ad2 ((L.filter keepS).length) c2), (15, .int .i64 ((L.filter keepS).length : Int)), (16, .int .i64 (k : Int)), (4, .slice ado ((normO M k).length) co)] e_ ∧ (k ≤ (L.filter keepS).length) ∧ (Grow w3 w_) ∧ (w_.ownsRow w3.heap.size 61 2 (.slice ado (normO M k).length co) (normO M k).length (encL (normO M k).reverse))) _ ⟨0, _, _, rfl, zC7 ⟨rfl, rfl, rfl, rfl, rfl, trivial⟩, by omega, G0, ownO⟩ ?_
 clear G0 ownO
 rintro m_ e_ w1 ⟨k, ado, co, rfl, ⟨e2, rfl⟩, hk, G0, ownO⟩
 refine qZ 2 ?_
 refine stp (zF0 rfl rfl ?_)
 refine qZ 2 ?_
 refine zA2 (b := (decide ((k : Int) < ((L.filter keepS).length : Int)))) rfl (fun hlt => ?_) (fun hlt => ?_)
 ·
  replace hlt := qT hlt
  have hkM : k < M.length := by omega
  have hlen := qH5 (M.take k) []
  rw [List.length_take] at hlen
  have hln : (normO M k).length ≤ k := by unfold normO; simp only [List.length_nil] at hlen; omega
  obtain ⟨ado', co', heo, -, -, RO⟩ := zI1 ownO (by omega)
  simp only [Value.slice.injEq, true_and] at heo
  obtain ⟨rfl, rfl⟩ := heo
  refine qZ 5 ?_
  refine stp (zD7 (R3.grow G0) rfl rfl ?_ ?_); omega
  refine stp (zO3 (R3.grow G0) rfl (by decide) (by rw [R3.len]; omega) (yT0 R3 (by omega)) ?_)
  refine stp (zA9 ?_)
  intro b3 w4 hb5 hc6 g7
  refine stn (qS hc6 ?_)
  intro w8 hc9 u10
  have g11 := g7.upd u10 hb5
  replace G0 := G0.tr g11
  replace ownO := zC0 ownO g11
  replace RO := RO.grow g11
  clear u10 g7 hb5 hc6
  refine qZ 9 ?_
  refine zO1 13 [[], [0], [1, 0], [2, 1, 0], [3, 2, 1, 0], [4, 3, 2], [5, 4, 3], [6, 5, 4, 0], [7, 6, 5, 2, 1, 0], [8, 7, 6, 3, 2, 1, 0], [9, 8, 7, 4, 3, 2, 1, 0], [10, 9, 8, 7, 6, 5, 4, 3, 2, 1, 0], [11, 10, 9, 8, 7, 6, 5, 4, 3, 2, 1, 0]] mixed (by kernel_rfl) (by kernel_rfl) (by kernel_rfl) ?_
  intro w12 g13
  replace G0 := G0.tr g13
  replace ownO := zC0 ownO g13
  replace RO := RO.grow g13
  replace hc9 := g13.heap hc9
  clear g13
  refine qA 1 ?_
  apply zB5
  ·intro w_ g_; exact og rfl (zN1 rfl rfl qX)
  refine qA 1 ?_
  apply zB5
  ·intro w_ g_; 
   refine zB0 (s := .bool _) (v := .pointer (some ⟨b3, 0, none⟩)) rfl (zE2 _) (fun hc14 => ?_) ?_
   ·
    have hc14_ := qT hc14
    refine zD0 rfl ?_
    exact ⟨rfl, rfl⟩
   exact qX
  apply zB5
  ·intro w_ g_; 
   refine zB0 (s := .bool _) (v := .int .i64 ((gS M k).1)) rfl (zE2 _) (fun hc15 => ?_) ?_
   ·
    have hc15_ := qT hc15
    refine zF9 (v := .int .i64 ((gS M k).1)) (gvt hc15) (g_.heap hc9) rfl ?_
    exact ⟨rfl, rfl⟩
   exact qX
  apply zB5
  ·intro w_ g_; 
   refine zB0 (s := .bool _) (v := .slice ado ((normO M k).length) co) rfl (zE2 _) (fun hc16 => ?_) ?_
   ·
    have hc16_ := qT hc16
    refine zG3 rfl ?_
    exact ⟨rfl, rfl⟩
   exact qX
  apply zB5
  ·intro w_ g_; 
   refine zB0 (s := .bool _) (v := .int .i64 ((normO M k).length : Int)) rfl (zE2 _) (fun hc17 => ?_) ?_
   ·
    have hc17_ := qT hc17
    refine zC2 rfl ?_
    exact ⟨rfl, rfl⟩
   exact qX
  apply zB5
  ·intro w_ g_; 
   refine zB0 (s := .bool _) (v := .int .i64 (((normO M k).length : Int) - 1)) rfl (zE2 _) (fun hc18 => ?_) ?_
   ·
    have hc18_ := qT hc18
    refine zL9 (gvt hc18) rfl ?_ ?_; constructor <;> omega
    exact ⟨rfl, rfl⟩
   exact qX
  apply zB5
  ·intro w_ g_; 
   refine zB0 (s := .bool _) (v := .pointer (some (eadr ado ((((normO M k).length : Int) - 1).toNat * 2)))) rfl (zE2 _) (fun hc19 => ?_) ?_
   ·
    have hc19_ := qT hc19
    refine zG7 (RO.grow g_) (gvt hc19) (gvt hc19) ?_ ?_ ?_; omega; omega
    exact ⟨rfl, rfl⟩
   exact qX
  apply zB5
  ·intro w_ g_; 
   refine zB0 (s := .bool _) (v := .pointer (some (eadr ado ((((normO M k).length : Int) - 1).toNat * 2 + 1)))) rfl (zE2 _) (fun hc20 => ?_) ?_
   ·
    have hc20_ := qT hc20
    refine zK0 (gvt hc20) ?_
    exact ⟨rfl, rfl⟩
   exact qX
  apply zB5
  ·intro w_ g_; 
   refine zB0 (s := .bool _) (v := .int .i64 ((hdS (normO M k)).2)) rfl (zE2 _) (fun hc21 => ?_) ?_
   ·
    have hc21_ := qT hc21
    refine zD4 (v := .int .i64 ((hdS (normO M k)).2)) (m := 0) (RO.grow g_) (gvt hc21) (yB4 (by omega) 1 (by omega)) ?_
    exact ⟨rfl, rfl⟩
   exact qX
  apply zB5
  ·intro w_ g_; 
   refine zB0 (s := .bool _) (v := .bool (decide (((gS M k).1) ≤ ((hdS (normO M k)).2)))) rfl (zE2 _) (fun hc22 => ?_) ?_
   ·
    have hc22_ := qT hc22
    refine zR5 (gvt hc22) (gvt hc22) ?_
    exact ⟨rfl, rfl⟩
   exact qX
  apply zB5
  ·intro w_ g_; exact og rfl (zG1 rfl rfl rfl qX)
  refine zI9 ?_
  intro w23 g24
  replace G0 := G0.tr g24
  replace ownO := zC0 ownO g24
  replace RO := RO.grow g24
  replace hc9 := g24.heap hc9
  clear g24
  refine zA6 ?_
  refine zA2 (b := ((decide (((normO M k).length : Int) > 0)) && (decide (((gS M k).1) ≤ ((hdS (normO M k)).2))))) rfl (fun hj => ?_) (fun hj => ?_)
  ·
   simp only [sb] at hj
   have hpos : 0 < (normO M k).length := by omega
   have hle : (gS M k).1 ≤ (hdS (normO M k)).2 := hj.2
   obtain ⟨q, cap, cur, hv, hq, hgc, hn1, hn2, hcs, hct⟩ := qC2 ownO hpos
   simp only [Value.slice.injEq, true_and] at hv
   obtain ⟨rfl, rfl⟩ := hv
   have hjl : (normO M (k + 1)).length = (normO M k).length := by rw [show normO M (k + 1) = zO0 (normO M k) (gS M k) from qC7 hkM, yB5 hpos hle]; simp; omega
   refine qZ 4 ?_
   refine stp (zL9 rfl rfl ?_ ?_); constructor <;> omega
   refine stp (zG7 RO rfl rfl ?_ ?_ ?_); omega; omega
   refine qZ 3 ?_
   refine zO1 10 [[], [], [0], [1, 0], [2, 1, 0], [], [0], [5, 4, 3, 2, 1, 0], [7, 6, 5, 4, 3, 2, 1, 0], [8, 7, 6, 5, 4, 3, 2, 1, 0]] mixed (by kernel_rfl) (by kernel_rfl) (by kernel_rfl) ?_
   intro w25 g26
   replace G0 := G0.tr g26
   replace ownO := zC0 ownO g26
   replace RO := RO.grow g26
   replace hc9 := g26.heap hc9
   replace hgc := g26.heap hgc
   clear g26
   refine qA 3 ?_
   apply zB5
   ·intro w_ g_; exact og rfl (zK0 rfl qX)
   apply zB5
   ·intro w_ g_; exact og rfl (zD4 (v := .int .i64 ((hdS (normO M k)).2)) (m := 0) (RO.grow g_) rfl (yB4 (by omega) 1 (by omega)) qX)
   refine qA 2 ?_
   apply zB5
   ·intro w_ g_; exact og rfl (qO0 rfl rfl rfl qX)
   refine qA 1 ?_
   apply zB5
   ·intro w_ g_; exact og rfl (zK0 rfl qX)
   refine zI9 ?_
   intro w27 g28
   replace G0 := G0.tr g28
   replace ownO := zC0 ownO g28
   replace RO := RO.grow g28
   replace hc9 := g28.heap hc9
   replace hgc := g28.heap hgc
   clear g28
   refine stn (zX5 (b := q) (o := 0 + (((normO M k).length : Int) - 1).toNat * 2 + 1) (n := 1) (v := .int .i64 (max (hdS (normO M k)).2 (gS M k).2)) rfl (congrArg (Value.int .i64) (by simp only [Int.max_def]; split <;> split <;> omega)) rfl hgc rfl (Nat.ble_eq_true_of_le (by omega)) rfl rfl ?_)
   intro w29 hgc2 u2
   have own9 := yS0 ownO hpos hgc hgc2
   rw [← yB5 hpos hle, show zO0 (normO M k) (gS M k) = normO M (k + 1) from (qC7 hkM).symm] at own9
   have G9 := G0.upd u2 hq
   refine qZ 3 ?_
   refine stp (zB6 rfl rfl ?_ ?_); constructor <;> omega
   refine qZ 2 ?_
   rw [← hjl] at own9
   refine ⟨_, ?_, k + 1, _, _, rfl, zC7 ⟨rfl, rfl, rfl, congrArg (Value.int .i64) (by omega), by rw [hjl]; rfl, trivial⟩, by omega, G9, own9⟩
   omega
  ·
   simp only [sb] at hj
   have hnj : ¬ (0 < (normO M k).length ∧ (gS M k).1 ≤ (hdS (normO M k)).2) := by rintro ⟨h1, h2⟩; rcases hj with hj | hj <;> omega
   refine qZ 4 ?_
   refine stp (zC4 (cs := #[.int .i64 ((gS M k).1), .int .i64 ((gS M k).2)]) (el := 61) (fun w => by kernel_rfl) ?_)
   intro bs30 w31 hb32 hc33 g34
   replace G0 := G0.tr g34
   replace ownO := zC0 ownO g34
   replace RO := RO.grow g34
   replace hc9 := g34.heap hc9
   clear g34
   refine stp (zG2 rfl rfl rfl rfl ownO (Row.of_block (n := 1) hc33 rfl rfl (by omega)) (fun q_ hq_ => by simp at hq_; rcases hq_ with rfl | rfl <;> rfl) (by simp only [maxLen]; omega) (by omega) G0.size ?_)
   intro v9 w9 own9 gr9
   have G9 := G0.grown gr9 (zI3 ownO)
   replace own9 := yS1 own9
   rw [← yM8 hnj, show zO0 (normO M k) (gS M k) = normO M (k + 1) from (qC7 hkM).symm] at own9
   obtain ⟨ad9, n9, c9, rfl⟩ := zE0 own9
   have hn9 := qB2 own9
   subst hn9
   refine qZ 3 ?_
   refine stp (zB6 rfl rfl ?_ ?_); constructor <;> omega
   refine qZ 2 ?_
   refine ⟨_, ?_, k + 1, _, _, rfl, zC7 ⟨rfl, rfl, rfl, congrArg (Value.int .i64) (by omega), rfl, trivial⟩, by omega, G9, own9⟩
   omega
 ·
  replace hlt := qF hlt
  have hk9 : k = M.length := by omega
  have hO : normO M k = yM0 M := by unfold normO yM0; rw [hk9, List.take_length]
  have hlen := qH5 M []
  refine qZ 7 ?_
  rw [hO] at ownO
  refine ret1 (zA1 (v := .slice ado ((normO M k).length) co) rfl) ⟨?_, Below.trans G3 (Below.mono G0 G3.size)⟩
  rw [← (yM2 hperm hpair).eq]
  unfold qW7
  rw [List.length_reverse, hO]
  exact qE6 ownO G3.size
theorem yX2 (L : List Spn) : nrm4 L = nrm L := (yN0 L).same (qK5 L) (fun _ => Iff.rfl)
theorem zR2 (w : World) {u : Value} {A : List (List Int)} (hA : zF2 w u A) (hr : zD5 A = true) (hx : AllU A) {ad : Option Addr} {c : Nat} {ks : List Int} {a : Int} (R : RowAt w 1 ad ks.length (ks.map (.int .i64))) (ha : inR .i64 a) : Calls Tryz.prog 12 #[u, .agg #[.slice ad ks.length c, .int .i64 a]] w (Ret fun v w' => ∃ adn n cn, v = .tuple #[.slice adn n cn, .int .u16 (zE5 (zB8 A) ks a 8192).2] ∧ ((zE5 (zB8 A) ks a 8192).2 = 0 → n = (nrm (zJ4 A ks a)).length ∧ n ≤ cn ∧ cn ≤ maxLen ∧ RowAt w' 2 adn (nrm (zJ4 A ks a)).length (encL (nrm (zJ4 A ks a)))) ∧ ((zE5 (zB8 A) ks a 8192).2 ≠ 0 → n = 0) ∧ Grow w w') := by
 obtain ⟨hlen16, -⟩ := zO8 hr
 have G := Grow.rfl' w
 refine zC1 Tryz.func12 Tryz.ntmps12 Tryz.results12 rfl rfl ?_
 refine qZ 2 ?_
 refine stp ?_
 refine qC ?_
 intro b1 w2 hb3 hc4 g5
 have hge6 := Nat.le_trans G.size hb3
 replace G := G.tr g5
 clear g5 hb3
 refine qZ 6 ?_
 refine stp (zH1 (v := u) rfl ?_)
 refine stp (zA4 (v := .bool true) rfl (zJ9 (qD9 _ (hA.grow G) (by omega)) (y := .bool true) (by rw [hr])) ?_)
 intro w7 g8
 replace hc4 := g8.heap hc4
 replace G := G.tr g8
 clear g8
 refine stp (qT8 rfl rfl ?_)
 refine zA6 ?_
 refine zL1 rfl ?_
 refine qZ 3 ?_
 refine stp (zH1 (v := u) rfl ?_)
 refine stp (zA4 (v := .iface 110 (.agg #[u])) rfl (by obtain ⟨adu_, nu_, cu_, rfl⟩ := hA.slice; exact qG7 _) ?_)
 intro w9 g10
 replace hc4 := g10.heap hc4
 replace G := G.tr g10
 clear g10
 refine stp (zA8 (v := .agg #[.iface 110 (.agg #[u]), .slice none 0 0]) (fun w => by kernel_rfl) ?_)
 refine stp ?_
 refine qC ?_
 intro b11 w12 hb13 hc14 g15
 have hge16 := Nat.le_trans G.size hb13
 replace hc4 := g15.heap hc4
 replace G := G.tr g15
 clear g15 hb13
 refine qZ 2 ?_
 have hbn : w.heap.size ≤ b11 := hge16
 have st0 : NtS 110 79 61 w.heap.size w12 u b11 [] := ⟨none, 0, hc14, World.ownsRow_nil _ _ _ _⟩
 refine qZ 4 ?_
 refine stp (qF9 (v := .pointer (some ⟨b11, 0, none⟩)) rfl ?_)
 refine qZ 1 ?_
 refine stp ?_
 refine zD8 rfl (qX4 _ hA hr hx rfl G hbn st0 (L := []) (by simp) R ha (by simp [inR])) ?_
 rintro v_ w17 ⟨rfl, L2, he2, st2, rel_⟩
 replace hc4 := rel_.hpN st0 hc4 (by decide) (by decide)
 replace G := NkP.to_grow rel_ G (fun x_ hx_ => by simp only [List.mem_singleton] at hx_; subst hx_; exact hbn) (Nat.le_refl _)
 clear rel_ st0 hc14
 obtain ⟨ad1, c1, hcn1, own1⟩ := st2
 refine qZ 3 ?_
 refine stp (zA9 ?_)
 intro b18 w19 hb20 hc21 g22
 refine stn (qS hc21 ?_)
 intro w23 hc24 u25
 have g26 := g22.upd u25 hb20
 have hge27 := Nat.le_trans G.size hb20
 have ne28 := qN hc4 hb20
 have ne29 := qN hcn1 hb20
 replace hc4 := g26.heap hc4
 replace hcn1 := g26.heap hcn1
 replace own1 := zC0 own1 g26
 replace G := G.tr g26
 clear u25 g22 hb20 hc21
 refine qZ 5 ?_
 refine stp (zG4 rfl rfl ?_)
 refine zA6 ?_
 refine zA2 (b := (decide (((zE5 (zB8 A) ks a 8192).2) ≠ 0))) rfl (fun h1 => ?_) (fun h1 => ?_)
 ·
  replace h1 := qT h1
  refine qZ 7 ?_
  refine ret2 (zA1 (v := .slice none 0 0) rfl) (zA1 (v := .int .u16 ((zE5 (zB8 A) ks a 8192).2)) rfl) ⟨none, 0, 0, rfl, fun h_ => absurd h_ (by omega), fun _ => rfl, G⟩
 ·
  replace h1 := qF h1
  have hz0 : (zE5 (zB8 A) ks a 8192).2 = 0 := by omega
  have h9 := he2 hz0
  have h8 : L2 = (zJ4 A ks a) := h9
  have h7 := (qH0 hr ks a).2
  obtain ⟨hnn, hk32, -⟩ := jA2 hz0
  rw [← h8] at h7
  obtain ⟨_, _, hs9, hq1, hm1, R1⟩ := zI1 own1 (by omega)
  cases hs9
  clear own1
  refine qZ 7 ?_
  refine stp ?_
  have hcal := yF5 _ hq1 hm1 R1 (by omega)
  rw [yX2] at hcal
  refine zD8 rfl hcal ?_
  rintro v_ w30 ⟨ownN, g_⟩
  clear hcal
  rw [h8] at ownN
  replace hc4 := g_.heap hc4
  replace hcn1 := g_.heap hcn1
  replace hc24 := g_.heap hc24
  replace R1 := R1.grow g_
  replace G := G.tr g_
  clear g_
  have hnl := yM3 (zJ4 A ks a)
  obtain ⟨adn, n9, cn, rfl⟩ := zE0 ownN
  have hn9 := qB2 ownN
  subst hn9
  obtain ⟨_, _, hs9, hq2, hm2, R2⟩ := zI1 ownN (by rw [h8] at h7; omega)
  cases hs9
  refine qZ 4 ?_
  refine ret2 (zA1 (v := .slice adn ((nrm (zJ4 A ks a)).length) cn) rfl) (zA1 (v := .int .u16 0) rfl) ⟨adn, _, cn, by rw [hz0], fun _ => ⟨rfl, hq2, hm2, R2⟩, fun h_ => absurd hz0 h_, G⟩
theorem zT6 (w : World)  : zB3 Tryz.prog 9 #[] w (.bool true) := by
 have G := Grow.rfl' w
 refine zA7 Tryz.func9 Tryz.ntmps9 Tryz.results9 rfl rfl ?_
 refine qZ 6 ?_
 refine stp (zC4 (cs := #[.int .u64 7]) (el := 23) (fun w => by kernel_rfl) ?_)
 intro bs1 w2 hb3 hc4 g5
 have hge6 := Nat.le_trans G.size hb3
 replace G := G.tr g5
 clear g5
 refine stp (zA8 (v := .agg #[.int .i64 1, .int .i64 0, .slice (some ⟨bs1, 0, none⟩) 1 1, .slice none 0 0, .slice none 0 0]) (fun w => by kernel_rfl) ?_)
 refine stp ?_
 have hT : NodeR w2 [.int .i64 1, .int .i64 0, .slice (some ⟨bs1, 0, none⟩) 1 1, .slice none 0 0, .slice none 0 0] qG8 := .mk (by simp [inR]) (by simp [inR]) (Row.of_block (n := 1) hc4 rfl rfl (by decide)) (by simp [inR]) (Row.nil _ _) (by simp) (Row.nil _ _) .nil
 refine zD8 rfl (qD6 _ hT 9) ?_
 rw [show qG8.build 9 = (zS0, 0) from qP3]
 rintro v_ w7 ⟨so_, segs_, rfl, hO_, g_⟩
 replace hc4 := g_.heap hc4
 replace G := G.tr g_
 clear g_
 have hA : zF2 w7 so_ zS0 := hO_.arena (by decide) (by decide)
 obtain ⟨ad1, n1, c1, rfl⟩ := zE0 hO_.out
 clear hO_
 refine qZ 9 ?_
 refine stp (zA8 (v := .agg #[.slice none 0 0, .int .i64 0]) (fun w => by kernel_rfl) ?_)
 refine stp ?_
 refine zD8 rfl (zR2 _ hA qR9 qF1 (ks := []) (a := 0) (RowAt.empty _ _ _) (by simp [inR])) ?_
 rintro v_ w8 ⟨adt, nt, ct, rfl, ht_, -, g_⟩
 obtain ⟨hnt, -, -, Rt⟩ := ht_ qH2
 rw [qR8] at hnt Rt
 replace Rt : RowAt w8 2 adt 1 [.int .i64 0, .int .i64 2] := Rt
 replace hnt : nt = 1 := hnt
 subst hnt
 rw [qH2]
 replace hc4 := g_.heap hc4
 replace hA := hA.grow g_
 replace G := G.tr g_
 clear g_
 refine qZ 9 ?_
 refine stp (zS7 rfl rfl (by first | decide | rfl) ?_)
 refine qZ 3 ?_
 refine stp (zS7 rfl rfl (by first | decide | rfl) ?_)
 refine stp (zJ0 (v := .bool true) rfl rfl rfl ?_)
 refine qZ 2 ?_
 refine stp (zG7 Rt rfl rfl ?_ ?_ ?_); omega; omega
 refine stp (zO3 Rt rfl (by decide) (by decide) (by rfl) ?_)
 refine stp (zA8 (v := .agg #[.int .i64 0, .int .i64 2]) (fun w => by kernel_rfl) ?_)
 refine stp (r_eqlS' (r' := true) rfl rfl (by rfl) (by decide) ?_)
 refine stp (zJ0 (v := .bool true) rfl rfl rfl ?_)
 refine qZ 2 ?_
 refine stp (zA4 (v := .int .u16 0) rfl (zJ9 (qH3 _ hA (by decide) qF1) (y := .int .u16 0) (by rw [qH1])) ?_)
 intro w9 g10
 replace hc4 := g10.heap hc4
 replace hA := hA.grow g10
 replace Rt := Rt.grow g10
 replace G := G.tr g10
 clear g10
 refine stp (zS7 rfl rfl (by first | decide | rfl) ?_)
 refine stp (zJ0 (v := .bool true) rfl rfl rfl ?_)
 refine qZ 1 ?_
 refine stp (zA4 (v := .int .u16 1) rfl (zJ9 (qH3 _ (A := []) ⟨[], ⟨none, 0, rfl, by simp, by simp [maxLen], RowAt.empty _ _ _⟩, fun i s h => by simp at h⟩ (by decide) (by simp)) (y := .int .u16 1) (by rw [yR5])) ?_)
 intro w11 g12
 replace hc4 := g12.heap hc4
 replace hA := hA.grow g12
 replace Rt := Rt.grow g12
 replace G := G.tr g12
 clear g12
 refine stp (zS7 rfl rfl (by first | decide | rfl) ?_)
 refine stp (zJ0 (v := .bool true) rfl rfl rfl ?_)
 refine qZ 3 ?_
 refine stp (zA4 (v := .bool true) rfl (zJ9 (qX0 _ hA (by decide) qF1 hA (by decide) qF1) (y := .bool true) (by rw [yE9])) ?_)
 intro w13 g14
 replace hc4 := g14.heap hc4
 replace hA := hA.grow g14
 replace Rt := Rt.grow g14
 replace G := G.tr g14
 clear g14
 refine stp (zJ0 (v := .bool true) rfl rfl rfl ?_)
 refine qZ 3 ?_
 refine ret1 (zA1 (v := .bool true) rfl) ⟨?_, G⟩
 rfl
end Go.Proofs.YtkkbbhpbcfcplaaGreat.K
namespace Go.Proofs.YtkkbbhpbcfcplaaGreat.K
open Go Go.RowKit
def hasP (L : List Spn) (x : Int) : Bool := L.any fun s => decide (s.1 ≤ x) && decide (x < s.2)
theorem qF2 {L : List Spn} {x : Int} : hasP L x = true ↔ inS L x := by
  unfold hasP inS
  simp [List.any_eq_true]
theorem yX3 {L : List Spn} {k : Nat} {x : Int} (h : k < L.length) (h1 : (gS L k).1 ≤ x) (h2 : x < (gS L k).2) : hasP L x = true :=
  qF2.2 ⟨L[k], List.getElem_mem h, by rw [← zM1 h]; exact h1, by rw [← zM1 h]; exact h2⟩
theorem yX4 {L : List Spn} {x : Int} (h : ∀ k, k < L.length → ¬ ((gS L k).1 ≤ x ∧ x < (gS L k).2)) : hasP L x = false := by
  cases hp : hasP L x with
  | false => rfl
  | true =>
    obtain ⟨s, hs, h1, h2⟩ := qF2.1 hp
    obtain ⟨k, hk, rfl⟩ := List.getElem_of_mem hs
    exact absurd ⟨by rw [zM1 hk]; exact h1, by rw [zM1 hk]; exact h2⟩ (h k hk)
theorem yN2 {ys : List Int} {k : Nat} (h : k < ys.length) : ((ys.take k).map (· % 5)).map (Value.int .i64) ++ [Value.int .i64 (ys.getD k 0 % 5)] = ((ys.take (k + 1)).map (· % 5)).map (Value.int .i64) := by
  rw [List.take_succ_eq_append_getElem h, List.map_append, List.map_append]
  simp [List.getD_eq_getElem?_getD, h]
theorem yF6 {s : List Int} (h1 : 1 ≤ s.length) (h2 : s.length ≤ 4096) : zD5 [s] = true := by
  unfold zD5
  refine decide_eq_true ⟨by simp, by simp, ?_, ?_⟩
  · simpa [len2] using h1
  · simp only [zC3]; omega
end Go.Proofs.YtkkbbhpbcfcplaaGreat.K
namespace Go.Proofs.YtkkbbhpbcfcplaaGreat.K
open Go Go.RowKit Go.Proofs
attribute [local irreducible] Run1 OpG WL W AO zB3
theorem qH7 (w : World) {ad : Option Addr} {n c : Nat} {L : List Spn} {x : Int} (R : RowAt w 2 ad n (encL L)) : zB3 Tryz.prog 13 #[.slice ad n c, .int .i64 x] w (.bool (hasP L x)) := by
 have hLn := qF0 R
 have lR := R.lim
 have G := Grow.rfl' w
 refine zA7 Tryz.func13 Tryz.ntmps13 Tryz.results13 rfl rfl ?_
 refine qZ 10 ?_
 refine zE7 (fun m_ e_ w_ => ∃ (k : Nat), m_ = n - k ∧ Fr [(0, .slice ad n c), (1, .int .i64 x), (5, .int .i64 (k : Int))] e_ ∧ (k ≤ n) ∧ (∀ j, j < k → ¬ ((gS L j).1 ≤ x ∧ x < (gS L j).2)) ∧ Grow w w_) _ ⟨0, rfl, zC7 ⟨rfl, rfl, rfl, trivial⟩, by omega, fun j hj => by omega, G⟩ ?_
 clear G
 rintro m_ e_ w1 ⟨k, rfl, ⟨e2, rfl⟩, hk, hno, G⟩
 refine qZ 6 ?_
 refine stp (zF0 rfl rfl ?_)
 refine zA6 ?_
 refine zA2 (b := (decide ((k : Int) < (n : Int)))) rfl (fun hlt => ?_) (fun hlt => ?_)
 ·
  replace hlt := qT hlt
  refine qZ 8 ?_
  refine stp (zD7 (R.grow G) rfl rfl ?_ ?_); omega
  refine stp (zK0 rfl ?_)
  refine stp (zD4 (v := .int .i64 ((gS L k).1)) (m := 0) (R.grow G) rfl (qM6 R (by omega)) ?_)
  refine stp (zP6 rfl rfl ?_)
  refine qZ 1 ?_
  refine qG 3 ?_
  refine zA3 (zB0 (s := .bool _) (v := .pointer (some (eadr ad (k * 2)))) rfl (zE2 _) (fun hc6 => ?_) ?_)
  ·
   have hc6_ := qT hc6
   refine zD7 (R.grow G) (gvt hc6) (gvt hc6) ?_ ?_; omega
   exact ⟨rfl, rfl⟩
  refine zA3 (zB0 (s := .bool _) (v := .pointer (some (eadr ad (k * 2 + 1)))) rfl (zE2 _) (fun hc7 => ?_) ?_)
  ·
   have hc7_ := qT hc7
   refine zK0 (gvt hc7) ?_
   exact ⟨rfl, rfl⟩
  refine zA3 (zB0 (s := .bool _) (v := .int .i64 ((gS L k).2)) rfl (zE2 _) (fun hc8 => ?_) ?_)
  ·
   have hc8_ := qT hc8
   refine zD4 (v := .int .i64 ((gS L k).2)) (m := 0) (R.grow G) (gvt hc8) (qG9 R (by omega)) ?_
   exact ⟨rfl, rfl⟩
  refine zA3 (zB0 (s := .bool _) (v := .bool (decide (x < ((gS L k).2)))) rfl (zE2 _) (fun hc9 => ?_) ?_)
  ·
   have hc9_ := qT hc9
   refine zF0 (gvt hc9) (gvt hc9) ?_
   exact ⟨rfl, rfl⟩
  refine stp (zG1 rfl rfl rfl ?_)
  refine zA6 ?_
  refine zA2 (b := ((decide (x ≥ ((gS L k).1))) && (decide (x < ((gS L k).2))))) rfl (fun hx => ?_) (fun hx => ?_)
  ·
   simp only [sb] at hx
   have hin : (gS L k).1 ≤ x ∧ x < (gS L k).2 := by first | omega | simpa using hx
   refine qZ 5 ?_
   refine ret1 (zA1 (v := .bool true) rfl) ⟨?_, G⟩
   rw [yX3 (k := k) (by omega) hin.1 hin.2]
  ·
   simp only [sb] at hx
   have hout : ¬ ((gS L k).1 ≤ x ∧ x < (gS L k).2) := by first | omega | simpa using hx | (intro h_; simp only [ge_iff_le, h_.1, h_.2] at hx; simp at hx)
   refine qZ 3 ?_
   refine stp (zB6 rfl rfl ?_ ?_); constructor <;> omega
   refine qZ 2 ?_
   refine ⟨_, ?_, k + 1, rfl, zC7 ⟨rfl, rfl, rfl, trivial⟩, by omega, fun j hj => by rcases Nat.lt_succ_iff_lt_or_eq.1 hj with h | h; exact hno j h; subst h; exact hout, G⟩
   omega
 ·
  replace hlt := qF hlt
  refine qZ 6 ?_
  refine ret1 (zA1 (v := .bool false) rfl) ⟨?_, G⟩
  rw [yX4 (fun i hi => hno i (by omega))]
theorem qS9 (w : World) {ad : Option Addr} {c n : Nat} {L : List Spn} (hc : n ≤ c) (hc2 : c ≤ maxLen) (R : RowAt w 2 ad n (encL L)) (hb : n ≤ 274877906944) : zB3 Tryz.prog 22 #[.slice ad n c] w (.bool (zL8 L)) := by
 have G := Grow.rfl' w
 refine zA7 Tryz.func22 Tryz.ntmps22 Tryz.results22 rfl rfl ?_
 have hLn := qF0 R
 refine qZ 10 ?_
 refine zE7 (fun m_ e_ w_ => ∃ (k : Nat), m_ = n - k ∧ Fr [(0, .slice ad n c), (3, .int .i64 (k : Int))] e_ ∧ (k ≤ n) ∧ (∀ j, j < k → badS L j = false) ∧ Grow w w_) _ ⟨0, rfl, zC7 ⟨rfl, rfl, trivial⟩, by omega, fun j hj => by omega, G⟩ ?_
 clear G
 rintro m_ e_ w1 ⟨k, rfl, ⟨e2, rfl⟩, hk, hno, G⟩
 refine qZ 6 ?_
 refine stp (zF0 rfl rfl ?_)
 refine zA6 ?_
 refine zA2 (b := (decide ((k : Int) < (n : Int)))) rfl (fun hlt => ?_) (fun hlt => ?_)
 ·
  replace hlt := qT hlt
  refine qZ 4 ?_
  refine zO1 29 [[], [], [1, 0], [2, 1, 0], [3, 2, 1, 0], [], [], [1, 0], [2, 1, 0], [3, 2, 1, 0], [9, 8, 7, 6, 5, 4, 3, 2, 1, 0], [10, 9, 8, 7, 6, 5, 4, 3, 2, 1, 0], [11, 10, 9, 8, 7, 6, 5, 4, 3, 2, 1, 0], [12, 11, 10, 9, 8, 7, 6, 5, 4, 3, 2, 1, 0], [13, 12, 11, 10, 9, 8, 7, 6, 5, 4, 3, 2, 1, 0], [14, 13, 12, 11, 10, 9, 8, 7, 6, 5, 4, 3, 2, 1, 0], [15, 14, 13, 12, 11, 10, 9, 8, 7, 6, 5, 4, 3, 2, 1], [16, 15, 14, 13, 12, 11, 10, 9, 8, 7, 6, 5, 4, 3, 2, 1, 0], [17, 16, 15, 14, 13, 12, 11, 10, 9, 8, 7, 6, 5, 4, 3, 2, 1, 0], [18, 17, 16, 15, 14, 13, 12, 11, 10, 9, 8, 7, 6, 5, 4, 3, 2, 1, 0], [19, 18, 17, 16, 15, 14, 13, 12, 11, 10, 9, 8, 7, 6, 5], [20, 19, 18, 17, 16, 15, 14, 13, 12, 11, 10, 9, 8, 7, 6], [21, 20, 19, 18, 17, 16, 15, 14, 13, 12, 11, 10, 9, 8, 7, 0], [22, 21, 20, 19, 18, 17, 16, 15, 14, 13, 12, 11, 10, 9, 8, 2, 1, 0], [23, 22, 21, 20, 19, 18, 17, 16, 15, 14, 13, 12, 11, 10, 9, 3, 2, 1, 0], [24, 23, 22, 21, 20, 19, 18, 17, 16, 15, 14, 13, 12, 11, 10, 4, 3, 2, 1, 0], [25, 24, 23, 22, 21, 20, 19, 18, 17, 16, 15, 14, 13, 12, 11, 10, 9, 8, 7, 6, 5, 4, 3, 2, 1, 0], [26, 25, 24, 23, 22, 21, 20, 19, 18, 17, 16, 15, 14, 13, 12, 11, 10, 9, 8, 7, 6, 5, 4, 3, 2, 1, 0], [27, 26, 25, 24, 23, 22, 21, 20, 19, 18, 17, 16, 15, 14, 13, 12, 11, 10, 9, 8, 7, 6, 5, 4, 3, 2, 1, 0]] mixed (by kernel_rfl) (by kernel_rfl) (by kernel_rfl) ?_
  intro w3 g4
  replace G := G.tr g4
  clear g4
  refine qA 2 ?_
  apply zB5
  ·intro w_ g_; refine og rfl ?_; refine zD7 (R.grow (G.tr g_)) rfl rfl ?_ ?_; omega; exact qX
  apply zB5
  ·intro w_ g_; exact og rfl (zK0 rfl qX)
  apply zB5
  ·intro w_ g_; exact og rfl (zD4 (v := .int .i64 ((gS L k).2)) (m := 0) (R.grow (G.tr g_)) rfl (qG9 R (by omega)) qX)
  refine qA 2 ?_
  apply zB5
  ·intro w_ g_; refine og rfl ?_; refine zD7 (R.grow (G.tr g_)) rfl rfl ?_ ?_; omega; exact qX
  apply zB5
  ·intro w_ g_; exact og rfl (zK0 rfl qX)
  apply zB5
  ·intro w_ g_; exact og rfl (zD4 (v := .int .i64 ((gS L k).1)) (m := 0) (R.grow (G.tr g_)) rfl (qM6 R (by omega)) qX)
  apply zB5
  ·intro w_ g_; exact og rfl (zR5 rfl rfl qX)
  refine qA 1 ?_
  apply zB5
  ·intro w_ g_; 
   refine zB0 (s := .bool _) (v := .int .i64 (k : Int)) rfl (zD9 _) (fun hc5 => ?_) ?_
   ·
    have hc5_ := hc5
    try simp only [sb] at hc5_
    refine zC2 rfl ?_
    exact ⟨rfl, rfl⟩
   exact qX
  apply zB5
  ·intro w_ g_; 
   refine zB0 (s := .bool _) (v := .bool (decide ((k : Int) > 0))) rfl (zD9 _) (fun hc6 => ?_) ?_
   ·
    have hc6_ := hc6
    try simp only [sb] at hc6_
    refine zN1 (gvt hc6) rfl ?_
    exact ⟨rfl, rfl⟩
   exact qX
  apply zB5
  ·intro w_ g_; 
   refine zB0 (s := .bool _) (v := .bool (decide ((k : Int) > 0))) rfl (zD9 _) (fun hc7 => ?_) ?_
   ·
    have hc7_ := hc7
    try simp only [sb] at hc7_
    refine zH1 (v := .bool (decide ((k : Int) > 0))) (gvt hc7) ?_
    exact ⟨rfl, rfl⟩
   exact qX
  apply zB5
  ·intro w_ g_; 
   refine zB0 (s := gv (!(decide (((gS L k).2) ≤ ((gS L k).1)))) (.bool (decide ((k : Int) > 0)))) (b := true) (v := .slice ad n c) rfl (zG6 _ _) (fun hc8 => ?_) ?_
   ·
    obtain ⟨hc8a, hc8b⟩ := and_t hc8
    have hc8a_ := hc8a
    try simp only [sb] at hc8a_
    have hc8b_ := qT hc8b
    refine zG3 rfl ?_
    exact ⟨rfl, rfl⟩
   exact qX
  apply zB5
  ·intro w_ g_; 
   refine zB0 (s := gv (!(decide (((gS L k).2) ≤ ((gS L k).1)))) (.bool (decide ((k : Int) > 0)))) (b := true) (v := .int .i64 (k : Int)) rfl (zG6 _ _) (fun hc9 => ?_) ?_
   ·
    obtain ⟨hc9a, hc9b⟩ := and_t hc9
    have hc9a_ := hc9a
    try simp only [sb] at hc9a_
    have hc9b_ := qT hc9b
    refine zC2 rfl ?_
    exact ⟨rfl, rfl⟩
   exact qX
  apply zB5
  ·intro w_ g_; 
   refine zB0 (s := gv (!(decide (((gS L k).2) ≤ ((gS L k).1)))) (.bool (decide ((k : Int) > 0)))) (b := true) (v := .pointer (some (eadr ad (k * 2)))) rfl (zG6 _ _) (fun hc10 => ?_) ?_
   ·
    obtain ⟨hc10a, hc10b⟩ := and_t hc10
    have hc10a_ := hc10a
    try simp only [sb] at hc10a_
    have hc10b_ := qT hc10b
    refine zD7 (R.grow (G.tr g_)) (gvt hc10) (gvt hc10) ?_ ?_; omega
    exact ⟨rfl, rfl⟩
   exact qX
  apply zB5
  ·intro w_ g_; 
   refine zB0 (s := gv (!(decide (((gS L k).2) ≤ ((gS L k).1)))) (.bool (decide ((k : Int) > 0)))) (b := true) (v := .pointer (some (eadr ad (k * 2)))) rfl (zG6 _ _) (fun hc11 => ?_) ?_
   ·
    obtain ⟨hc11a, hc11b⟩ := and_t hc11
    have hc11a_ := hc11a
    try simp only [sb] at hc11a_
    have hc11b_ := qT hc11b
    refine zK0 (gvt hc11) ?_
    exact ⟨rfl, rfl⟩
   exact qX
  apply zB5
  ·intro w_ g_; 
   refine zB0 (s := gv (!(decide (((gS L k).2) ≤ ((gS L k).1)))) (.bool (decide ((k : Int) > 0)))) (b := true) (v := .int .i64 ((gS L k).1)) rfl (zG6 _ _) (fun hc12 => ?_) ?_
   ·
    obtain ⟨hc12a, hc12b⟩ := and_t hc12
    have hc12a_ := hc12a
    try simp only [sb] at hc12a_
    have hc12b_ := qT hc12b
    refine zD4 (v := .int .i64 ((gS L k).1)) (m := 0) (R.grow (G.tr g_)) (gvt hc12) (qM6 R (by omega)) ?_
    exact ⟨rfl, rfl⟩
   exact qX
  apply zB5
  ·intro w_ g_; 
   refine zB0 (s := gv (!(decide (((gS L k).2) ≤ ((gS L k).1)))) (.bool (decide ((k : Int) > 0)))) (b := true) (v := .slice ad n c) rfl (zG6 _ _) (fun hc13 => ?_) ?_
   ·
    obtain ⟨hc13a, hc13b⟩ := and_t hc13
    have hc13a_ := hc13a
    try simp only [sb] at hc13a_
    have hc13b_ := qT hc13b
    refine zG3 rfl ?_
    exact ⟨rfl, rfl⟩
   exact qX
  apply zB5
  ·intro w_ g_; 
   refine zB0 (s := gv (!(decide (((gS L k).2) ≤ ((gS L k).1)))) (.bool (decide ((k : Int) > 0)))) (b := true) (v := .int .i64 (k : Int)) rfl (zG6 _ _) (fun hc14 => ?_) ?_
   ·
    obtain ⟨hc14a, hc14b⟩ := and_t hc14
    have hc14a_ := hc14a
    try simp only [sb] at hc14a_
    have hc14b_ := qT hc14b
    refine zC2 rfl ?_
    exact ⟨rfl, rfl⟩
   exact qX
  apply zB5
  ·intro w_ g_; 
   refine zB0 (s := gv (!(decide (((gS L k).2) ≤ ((gS L k).1)))) (.bool (decide ((k : Int) > 0)))) (b := true) (v := .int .i64 ((k : Int) - 1)) rfl (zG6 _ _) (fun hc15 => ?_) ?_
   ·
    obtain ⟨hc15a, hc15b⟩ := and_t hc15
    have hc15a_ := hc15a
    try simp only [sb] at hc15a_
    have hc15b_ := qT hc15b
    refine zL9 (gvt hc15) rfl ?_ ?_; constructor <;> omega
    exact ⟨rfl, rfl⟩
   exact qX
  apply zB5
  ·intro w_ g_; 
   refine zB0 (s := gv (!(decide (((gS L k).2) ≤ ((gS L k).1)))) (.bool (decide ((k : Int) > 0)))) (b := true) (v := .pointer (some (eadr ad (((k : Int) - 1).toNat * 2)))) rfl (zG6 _ _) (fun hc16 => ?_) ?_
   ·
    obtain ⟨hc16a, hc16b⟩ := and_t hc16
    have hc16a_ := hc16a
    try simp only [sb] at hc16a_
    have hc16b_ := qT hc16b
    refine zG7 (R.grow (G.tr g_)) (gvt hc16) (gvt hc16) ?_ ?_ ?_; omega; omega
    exact ⟨rfl, rfl⟩
   exact qX
  apply zB5
  ·intro w_ g_; 
   refine zB0 (s := gv (!(decide (((gS L k).2) ≤ ((gS L k).1)))) (.bool (decide ((k : Int) > 0)))) (b := true) (v := .pointer (some (eadr ad (((k : Int) - 1).toNat * 2 + 1)))) rfl (zG6 _ _) (fun hc17 => ?_) ?_
   ·
    obtain ⟨hc17a, hc17b⟩ := and_t hc17
    have hc17a_ := hc17a
    try simp only [sb] at hc17a_
    have hc17b_ := qT hc17b
    refine zK0 (gvt hc17) ?_
    exact ⟨rfl, rfl⟩
   exact qX
  apply zB5
  ·intro w_ g_; 
   refine zB0 (s := gv (!(decide (((gS L k).2) ≤ ((gS L k).1)))) (.bool (decide ((k : Int) > 0)))) (b := true) (v := .int .i64 ((gS L (k - 1)).2)) rfl (zG6 _ _) (fun hc18 => ?_) ?_
   ·
    obtain ⟨hc18a, hc18b⟩ := and_t hc18
    have hc18a_ := hc18a
    try simp only [sb] at hc18a_
    have hc18b_ := qT hc18b
    refine zD4 (v := .int .i64 ((gS L (k - 1)).2)) (m := 0) (R.grow (G.tr g_)) (gvt hc18) (by rw [show ((k : Int) - 1).toNat = k - 1 from by omega]; exact qG9 R (by omega)) ?_
    exact ⟨rfl, rfl⟩
   exact qX
  apply zB5
  ·intro w_ g_; 
   refine zB0 (s := gv (!(decide (((gS L k).2) ≤ ((gS L k).1)))) (.bool (decide ((k : Int) > 0)))) (b := true) (v := .bool (decide (((gS L k).1) ≤ ((gS L (k - 1)).2)))) rfl (zG6 _ _) (fun hc19 => ?_) ?_
   ·
    obtain ⟨hc19a, hc19b⟩ := and_t hc19
    have hc19a_ := hc19a
    try simp only [sb] at hc19a_
    have hc19b_ := qT hc19b
    refine zR5 (gvt hc19) (gvt hc19) ?_
    exact ⟨rfl, rfl⟩
   exact qX
  apply zB5
  ·intro w_ g_; 
   refine zB0 (s := .bool _) (v := .bool ((decide ((k : Int) > 0)) && (decide (((gS L k).1) ≤ ((gS L (k - 1)).2))))) rfl (zD9 _) (fun hc20 => ?_) ?_
   ·
    have hc20_ := hc20
    try simp only [sb] at hc20_
    refine zX0 hc20 (gvt hc20) rfl rfl ?_
    exact ⟨rfl, rfl⟩
   exact qX
  apply zB5
  ·intro w_ g_; exact og rfl (zH4 rfl rfl rfl qX)
  refine zI9 ?_
  intro w21 g22
  replace G := G.tr g22
  clear g22
  refine zA6 ?_
  refine zA2 (b := ((decide (((gS L k).2) ≤ ((gS L k).1))) || ((decide ((k : Int) > 0)) && (decide (((gS L k).1) ≤ ((gS L (k - 1)).2)))))) rfl (fun hx => ?_) (fun hx => ?_)
  ·
   simp only [sb] at hx
   have hbd : badS L k = true := by unfold badS zN6; simpa using hx
   refine qZ 5 ?_
   refine ret1 (zA1 (v := .bool false) rfl) ⟨?_, G⟩
   rw [yN1 (by omega) hbd]
  ·
   simp only [sb] at hx
   have hbd : badS L k = false := by unfold badS zN6; cases hns : decide ((gS L k).2 ≤ (gS L k).1) <;> simp_all <;> omega
   refine qZ 3 ?_
   refine stp (zB6 rfl rfl ?_ ?_); constructor <;> omega
   refine qZ 2 ?_
   refine ⟨_, ?_, k + 1, rfl, zC7 ⟨rfl, rfl, trivial⟩, by omega, fun j hj => by rcases Nat.lt_succ_iff_lt_or_eq.1 hj with h | h; exact hno j h; subst h; exact hbd, G⟩
   omega
 ·
  replace hlt := qF hlt
  refine qZ 6 ?_
  refine ret1 (zA1 (v := .bool true) rfl) ⟨?_, G⟩
  rw [qE1 (fun i hi => hno i (by omega))]
end Go.Proofs.YtkkbbhpbcfcplaaGreat.K
namespace Go.Proofs.YtkkbbhpbcfcplaaGreat.K
open Go Go.RowKit
def stepO (s : Src) (o : Ob) (k : Int) : Ob × Int := (if (zE8 s o k).2 ≠ 0 then Ob0 else (zE8 s o k).1, (zE8 s o k).2)
theorem qH8 {s : Src} {p : Pt} {seg a : Int} (h : (zB2 s p seg a).2 ≠ 0) : (zB2 s p seg a).1 = Ob0 := by
  revert h; unfold zB2; (repeat' split) <;> simp
theorem yF7 {s : Src} {seg a : Int} (h : (zA0 s seg a).2 ≠ 0) : (zA0 s seg a).1 = Ob0 := by
  revert h; unfold zA0
  split
  · intro _; rfl
  · split
    · exact qH8
    · split
      · unfold zD3
        (repeat' split) <;> first | exact qH8 | (intro _; rfl)
      · unfold zC8
        (repeat' split) <;> first | exact qH8 | (intro _; rfl)
theorem yS3 (s : Src) (seg a : Int) : ((if (zA0 s seg a).2 ≠ 0 then Ob0 else (zA0 s seg a).1), (zA0 s seg a).2) = zA0 s seg a := by
  split
  · rename_i h; exact Prod.ext (yF7 h).symm rfl
  · rfl
theorem yN3 {s : Src} {o : Ob} {k seg a : Int} (h : zE8 s o k = zA0 s seg a) : stepO s o k = zA0 s seg a := by unfold stepO; rw [h]; exact yS3 s seg a
theorem qN3 {s : Src} {o x : Ob} {k e : Int} (h : zE8 s o k = (x, e)) (he : e ≠ 0 ∨ x = Ob0) : stepO s o k = (Ob0, e) := by
  unfold stepO; rw [h]
  rcases he with he | he
  · rw [if_pos he]
  · subst he; split <;> rfl
theorem SrcR.stepO_range {P : Program} {fw : FuncId} {w : World} {ua uh : Value} {b : Bool} {A : List (List Int)} {s : Src} (H : SrcR P fw w ua b uh A s) (o : Ob) (k : Int) : ObR (stepO s o k).1 := by
  unfold stepO
  split
  · exact zC6
  · rename_i h
    revert h
    unfold zE8
    (repeat' split) <;> first | (intro _; exact zC6) | (intro h; simp at h; done) | (intro _; exact H.follow_range _ _)
def qI4 (s : Src) (steps : List Int) (a cost : Int) (i : Nat) (o : Ob) (e paid : Int) : Vl × Int :=
  if e ≠ 0 then (Vl0, e) else if paid + (1 + zB9 o) > cost then (Vl0, 22) else zU4 s a (steps.drop i) o (cost - (paid + (1 + zB9 o)))
theorem yN4 {s : Src} {steps : List Int} {a cost : Int} {i : Nat} {o : Ob} {paid : Int} (hi : i < steps.length) (h : ¬ paid + (1 + zB9 o) > cost) :
    qI4 s steps a cost i o 0 paid = qI4 s steps a cost (i + 1) (stepO s o (steps.getD i 0)).1 (stepO s o (steps.getD i 0)).2 (paid + (1 + zB9 o)) := by
  unfold qI4
  rw [if_neg (by simp), if_neg h, show steps.drop i = steps.getD i 0 :: steps.drop (i + 1) from by rw [List.drop_eq_getElem_cons hi, zG9 hi], zU4]
  unfold stepO
  by_cases he : (zE8 s o (steps.getD i 0)).2 ≠ 0
  · rw [if_pos he, if_pos he]
  · rw [if_neg he, if_neg he]
    simp only [if_neg he]
    by_cases hc : cost - (paid + (1 + zB9 o)) - (1 + zB9 (zE8 s o (steps.getD i 0)).1) < 0
    · rw [if_pos hc, if_pos (by omega)]
    · rw [if_neg hc, if_neg (by omega), show cost - (paid + (1 + zB9 o)) - (1 + zB9 (zE8 s o (steps.getD i 0)).1) = cost - (paid + (1 + zB9 o) + (1 + zB9 (zE8 s o (steps.getD i 0)).1)) from by omega]
theorem yN5 {s : Src} {steps : List Int} {a cost : Int} (h1 : ¬ ∃ k ∈ steps, k < 0) (h2 : ¬ (steps.length : Int) > 32) (hc : 0 ≤ cost) : zE5 s steps a cost = qI4 s steps a cost 0 (zA0 s 0 0).1 (zA0 s 0 0).2 0 := by
  unfold zE5 qI4
  rw [if_neg h1, if_neg h2, show max cost (-1) = cost from by omega]
  by_cases h3 : (zA0 s 0 0).2 ≠ 0
  · rw [if_pos h3, if_pos h3]
  · rw [if_neg h3, if_neg h3]
    by_cases h4 : cost - (1 + zB9 (zA0 s 0 0).1) < 0
    · rw [if_pos h4, if_pos (by omega)]
    · rw [if_neg h4, if_neg (by omega), List.drop_zero, show cost - (0 + (1 + zB9 (zA0 s 0 0).1)) = cost - (1 + zB9 (zA0 s 0 0).1) from by omega]
theorem yS4 {s : Src} {steps : List Int} {a cost : Int} {o : Ob} {paid : Int} (h : ¬ paid + (1 + zB9 o) > cost) : qI4 s steps a cost steps.length o 0 paid = valS s o a := by
  unfold qI4
  rw [if_neg (by simp), if_neg h, List.drop_length, zU4]
end Go.Proofs.YtkkbbhpbcfcplaaGreat.K
namespace Go.Proofs.YtkkbbhpbcfcplaaGreat.K
open Go Go.RowKit Go.Proofs
attribute [local irreducible] Run1 OpG WL W AO zB3
theorem qT0 (w : World) {ua uh : Value} {b : Bool} {A : List (List Int)} {s : Src} (H : SrcR Tryz.prog 72 w ua b uh A s) (o : Ob) (ho : ObR o) (k : Int) (k0 : 0 ≤ k) : zB3 Tryz.prog 68 #[.agg #[ua, .bool b, uh], .agg #[.int .i64 o.kind, .int .i64 o.seg, .int .i64 o.at_, .int .i64 o.data, .int .i64 o.ptrs, .int .i64 o.size, .int .i64 o.count], .int .i64 k] w (.tuple #[.agg #[.int .i64 ((stepO s o k).1.kind), .int .i64 ((stepO s o k).1.seg), .int .i64 ((stepO s o k).1.at_), .int .i64 ((stepO s o k).1.data), .int .i64 ((stepO s o k).1.ptrs), .int .i64 ((stepO s o k).1.size), .int .i64 ((stepO s o k).1.count)], .int .i64 ((stepO s o k).2)]) := by
 obtain ⟨rk, rs, ra, rd, rp, rz, rc⟩ := ho
 have G := Grow.rfl' w
 refine zA7 Tryz.func68 Tryz.ntmps68 Tryz.results68 rfl rfl ?_
 refine qZ 2 ?_
 refine stp ?_
 refine qC ?_
 intro b1 w2 hb3 hc4 g5
 have hge6 := Nat.le_trans G.size hb3
 replace G := G.tr g5
 clear g5 hb3
 refine stp ?_
 refine qC ?_
 intro b7 w8 hb9 hc10 g11
 have hge12 := Nat.le_trans G.size hb9
 replace hc4 := g11.heap hc4
 replace G := G.tr g11
 clear g11 hb9
 refine stp (zA9 ?_)
 intro b13 w14 hb15 hc16 g17
 refine qZ 5 ?_
 have hge18 := Nat.le_trans G.size hb15
 have ne19 := qN hc4 hb15
 have ne20 := qN hc10 hb15
 replace hc4 := g17.heap hc4
 replace hc10 := g17.heap hc10
 replace G := G.tr g17
 clear g17 hb15
 refine qZ 2 ?_
 refine stp (zG0 rfl rfl ?_)
 obtain ⟨at9, hat9⟩ : ∃ x, x = IntKind.i64.wrap (o.at_ + k) := ⟨_, rfl⟩
 rw [← hat9]
 refine qZ 11 ?_
 refine stp (zD6 rfl rfl ?_)
 refine qZ 2 ?_
 refine zA2 (b := (decide (o.kind = 0))) rfl (fun h1 => ?_) (fun h1 => ?_)
 ·
  replace h1 := qT h1
  refine qZ 2 ?_
  refine stp (zA8 (v := .agg #[.int .i64 0, .int .i64 0, .int .i64 0, .int .i64 0, .int .i64 0, .int .i64 0, .int .i64 0]) (fun w => by kernel_rfl) ?_)
  refine stn (qS hc16 ?_)
  intro w21 hc22 u23
  replace hc4 := u23.heap hc4 ne19
  replace hc10 := u23.heap hc10 ne20
  replace G := G.upd u23 hge18
  clear u23 hc16
  refine qZ 3 ?_
  have h8 : zE8 s o k = (Ob0, 0) := by unfold zE8; rw [if_pos (.inl h1)]
  have h9 := qN3 h8 (by simp)
  refine ret2 (zA5 rfl hc22 (by rfl)) (zA1 (v := .int .i64 0) rfl) ⟨?_, G⟩
  rw [h9]; rfl
 ·
  replace h1 := qF h1
  refine qZ 2 ?_
  refine stp (zD6 rfl rfl ?_)
  refine qZ 2 ?_
  refine zA2 (b := (decide (o.kind = 1))) rfl (fun h2 => ?_) (fun h2 => ?_)
  ·
   replace h2 := qT h2
   refine qZ 6 ?_
   refine stp (zP6 rfl rfl ?_)
   refine zA6 ?_
   refine zA2 (b := (decide (k ≥ o.ptrs))) rfl (fun h3 => ?_) (fun h3 => ?_)
   ·
    replace h3 := qT h3
    refine qZ 2 ?_
    refine stp (zA8 (v := .agg #[.int .i64 0, .int .i64 0, .int .i64 0, .int .i64 0, .int .i64 0, .int .i64 0, .int .i64 0]) (fun w => by kernel_rfl) ?_)
    refine stn (qS hc16 ?_)
    intro w24 hc25 u26
    replace hc4 := u26.heap hc4 ne19
    replace hc10 := u26.heap hc10 ne20
    replace G := G.upd u26 hge18
    clear u26 hc16
    refine qZ 3 ?_
    have h8 : zE8 s o k = (Ob0, 0) := by unfold zE8; rw [if_pos (.inr ⟨h2, h3⟩)]
    have h9 := qN3 h8 (by simp)
    refine ret2 (zA5 rfl hc25 (by rfl)) (zA1 (v := .int .i64 0) rfl) ⟨?_, G⟩
    rw [h9]; rfl
   ·
    replace h3 := qF h3
    have hat8 : at9 = o.at_ + k := by rw [hat9]; exact zI8 (by simp only [inR]; omega)
    have h8 : zE8 s o k = (zA0 s o.seg (at9 + o.data)) := by unfold zE8; rw [if_neg (by omega), if_pos h2, hat8]
    have h9 := yN3 h8
    refine qZ 5 ?_
    refine stp (zB6 rfl rfl ?_ ?_); constructor <;> omega
    refine qZ 8 ?_
    refine stp (zA4 (v := .tuple #[.agg #[.int .i64 ((zA0 s o.seg (at9 + o.data)).1.kind), .int .i64 ((zA0 s o.seg (at9 + o.data)).1.seg), .int .i64 ((zA0 s o.seg (at9 + o.data)).1.at_), .int .i64 ((zA0 s o.seg (at9 + o.data)).1.data), .int .i64 ((zA0 s o.seg (at9 + o.data)).1.ptrs), .int .i64 ((zA0 s o.seg (at9 + o.data)).1.size), .int .i64 ((zA0 s o.seg (at9 + o.data)).1.count)], .int .i64 ((zA0 s o.seg (at9 + o.data)).2)]) rfl (zT3 _ (H.grow G) o.seg (at9 + o.data) (by simp only [inR]; omega) (by simp only [inR]; omega)) ?_)
    intro w27 g28
    replace hc4 := g28.heap hc4
    replace hc10 := g28.heap hc10
    replace hc16 := g28.heap hc16
    replace G := G.tr g28
    clear g28
    refine qZ 3 ?_
    refine stp (zA9 ?_)
    intro b29 w30 hb31 hc32 g33
    refine stn (qS hc32 ?_)
    intro w34 hc35 u36
    have g37 := g33.upd u36 hb31
    have hge38 := Nat.le_trans G.size hb31
    have ne39 := qN hc4 hb31
    have ne40 := qN hc10 hb31
    have ne41 := qN hc16 hb31
    replace hc4 := g37.heap hc4
    replace hc10 := g37.heap hc10
    replace hc16 := g37.heap hc16
    replace G := G.tr g37
    clear u36 g33 hb31 hc32
    refine qZ 6 ?_
    refine stn (qS hc16 ?_)
    intro w42 hc43 u44
    replace hc4 := u44.heap hc4 ne19
    replace hc10 := u44.heap hc10 ne20
    replace hc35 := u44.heap hc35 ne41.symm
    replace G := G.upd u44 hge18
    clear u44 hc16
    refine qZ 3 ?_
    refine ret2 (zA5 rfl hc43 (by rfl)) (zA1 (v := .int .i64 ((zA0 s o.seg (at9 + o.data)).2)) rfl) ⟨?_, G⟩
    rw [h9]
  ·
   replace h2 := qF h2
   refine qZ 5 ?_
   refine stp (zG4 rfl rfl ?_)
   refine zA6 ?_
   refine zA2 (b := (decide (o.size ≠ 6))) rfl (fun h3 => ?_) (fun h3 => ?_)
   ·
    replace h3 := qT h3
    refine qZ 2 ?_
    refine stp (zA8 (v := .agg #[.int .i64 0, .int .i64 0, .int .i64 0, .int .i64 0, .int .i64 0, .int .i64 0, .int .i64 0]) (fun w => by kernel_rfl) ?_)
    refine stn (qS hc16 ?_)
    intro w45 hc46 u47
    replace hc4 := u47.heap hc4 ne19
    replace hc10 := u47.heap hc10 ne20
    replace G := G.upd u47 hge18
    clear u47 hc16
    refine qZ 3 ?_
    have h8 : zE8 s o k = (o, 23) := by unfold zE8; rw [if_neg (by omega), if_neg h2, if_pos h3]
    have h9 := qN3 h8 (by simp)
    refine ret2 (zA5 rfl hc46 (by rfl)) (zA1 (v := .int .i64 23) rfl) ⟨?_, G⟩
    rw [h9]; rfl
   ·
    replace h3 := qF h3
    refine qZ 6 ?_
    refine stp (zP6 rfl rfl ?_)
    refine zA6 ?_
    refine zA2 (b := (decide (k ≥ o.count))) rfl (fun h4 => ?_) (fun h4 => ?_)
    ·
     replace h4 := qT h4
     refine qZ 2 ?_
     refine stp (zA8 (v := .agg #[.int .i64 0, .int .i64 0, .int .i64 0, .int .i64 0, .int .i64 0, .int .i64 0, .int .i64 0]) (fun w => by kernel_rfl) ?_)
     refine stn (qS hc16 ?_)
     intro w48 hc49 u50
     replace hc4 := u50.heap hc4 ne19
     replace hc10 := u50.heap hc10 ne20
     replace G := G.upd u50 hge18
     clear u50 hc16
     refine qZ 3 ?_
     have h8 : zE8 s o k = (o, 20) := by unfold zE8; rw [if_neg (by omega), if_neg h2, if_neg h3, if_pos h4]
     have h9 := qN3 h8 (by simp)
     refine ret2 (zA5 rfl hc49 (by rfl)) (zA1 (v := .int .i64 20) rfl) ⟨?_, G⟩
     rw [h9]; rfl
    ·
     replace h4 := qF h4
     have hat8 : at9 = o.at_ + k := by rw [hat9]; exact zI8 (by simp only [inR]; omega)
     have h8 : zE8 s o k = (zA0 s o.seg at9) := by unfold zE8; rw [if_neg (by omega), if_neg h2, if_neg h3, if_neg h4, hat8]
     have h9 := yN3 h8
     refine qZ 7 ?_
     refine stp (zA4 (v := .tuple #[.agg #[.int .i64 ((zA0 s o.seg at9).1.kind), .int .i64 ((zA0 s o.seg at9).1.seg), .int .i64 ((zA0 s o.seg at9).1.at_), .int .i64 ((zA0 s o.seg at9).1.data), .int .i64 ((zA0 s o.seg at9).1.ptrs), .int .i64 ((zA0 s o.seg at9).1.size), .int .i64 ((zA0 s o.seg at9).1.count)], .int .i64 ((zA0 s o.seg at9).2)]) rfl (zT3 _ (H.grow G) o.seg at9 (by simp only [inR]; omega) (by simp only [inR]; omega)) ?_)
     intro w51 g52
     replace hc4 := g52.heap hc4
     replace hc10 := g52.heap hc10
     replace hc16 := g52.heap hc16
     replace G := G.tr g52
     clear g52
     refine qZ 3 ?_
     refine stp (zA9 ?_)
     intro b53 w54 hb55 hc56 g57
     refine stn (qS hc56 ?_)
     intro w58 hc59 u60
     have g61 := g57.upd u60 hb55
     have hge62 := Nat.le_trans G.size hb55
     have ne63 := qN hc4 hb55
     have ne64 := qN hc10 hb55
     have ne65 := qN hc16 hb55
     replace hc4 := g61.heap hc4
     replace hc10 := g61.heap hc10
     replace hc16 := g61.heap hc16
     replace G := G.tr g61
     clear u60 g57 hb55 hc56
     refine qZ 6 ?_
     refine stn (qS hc16 ?_)
     intro w66 hc67 u68
     replace hc4 := u68.heap hc4 ne19
     replace hc10 := u68.heap hc10 ne20
     replace hc59 := u68.heap hc59 ne65.symm
     replace G := G.upd u68 hge18
     clear u68 hc16
     refine qZ 3 ?_
     refine ret2 (zA5 rfl hc67 (by rfl)) (zA1 (v := .int .i64 ((zA0 s o.seg at9).2)) rfl) ⟨?_, G⟩
     rw [h9]
theorem qT1 (w : World) {ua uh : Value} {b : Bool} {A : List (List Int)} {s : Src} (H : SrcR Tryz.prog 72 w ua b uh A s) (o : Ob) (ho : ObR o) (k : Int) (k0 : 0 ≤ k) (k1 : k ≤ 9223372036854775807) : zB3 Tryz.prog 104 #[.agg #[ua, .bool b, uh], .agg #[.int .i64 o.kind, .int .i64 o.seg, .int .i64 o.at_, .int .i64 o.data, .int .i64 o.ptrs, .int .i64 o.size, .int .i64 o.count], .int .i64 k] w (.tuple #[.int .u64 ((atS s o k).1), .int .i64 ((atS s o k).2)]) := by
 obtain ⟨rk, rs, ra, rd, rp, rz, rc⟩ := ho
 have G := Grow.rfl' w
 refine zA7 Tryz.func104 Tryz.ntmps104 Tryz.results104 rfl rfl ?_
 refine qZ 2 ?_
 refine stp ?_
 refine qC ?_
 intro b1 w2 hb3 hc4 g5
 have hge6 := Nat.le_trans G.size hb3
 replace G := G.tr g5
 clear g5 hb3
 refine stp ?_
 refine qC ?_
 intro b7 w8 hb9 hc10 g11
 have hge12 := Nat.le_trans G.size hb9
 replace hc4 := g11.heap hc4
 replace G := G.tr g11
 clear g11 hb9
 refine qZ 8 ?_
 refine stp (zD6 rfl rfl ?_)
 refine qZ 1 ?_
 refine qG 2 ?_
 refine zA3 (zB0 (s := .bool _) (v := .bool (decide (o.kind = 1))) rfl (zD9 _) (fun hc15 => ?_) ?_)
 ·
  have hc15_ := hc15
  try simp only [sb] at hc15_
  refine zD6 (gvt hc15) rfl ?_
  exact ⟨rfl, rfl⟩
 refine qG 1 ?_
 refine zA3 (zB0 (s := gv (!(decide (o.kind = 0))) (.bool (decide (o.kind = 1)))) (b := true) (v := .int .i64 k) rfl (zG6 _ _) (fun hc17 => ?_) ?_)
 ·
  obtain ⟨hc17a, hc17b⟩ := and_t hc17
  have hc17a_ := hc17a
  try simp only [sb] at hc17a_
  have hc17b_ := qT hc17b
  refine zC2 rfl ?_
  exact ⟨rfl, rfl⟩
 refine zA3 (zB0 (s := gv (!(decide (o.kind = 0))) (.bool (decide (o.kind = 1)))) (b := true) (v := .pointer (some ⟨b7, 3, none⟩)) rfl (zG6 _ _) (fun hc18 => ?_) ?_)
 ·
  obtain ⟨hc18a, hc18b⟩ := and_t hc18
  have hc18a_ := hc18a
  try simp only [sb] at hc18a_
  have hc18b_ := qT hc18b
  refine zD0 rfl ?_
  exact ⟨rfl, rfl⟩
 refine zA3 (zB0 (s := gv (!(decide (o.kind = 0))) (.bool (decide (o.kind = 1)))) (b := true) (v := .int .i64 o.data) rfl (zG6 _ _) (fun hc19 => ?_) ?_)
 ·
  obtain ⟨hc19a, hc19b⟩ := and_t hc19
  have hc19a_ := hc19a
  try simp only [sb] at hc19a_
  have hc19b_ := qT hc19b
  refine zF9 (v := .int .i64 o.data) (gvt hc19) hc10 rfl ?_
  exact ⟨rfl, rfl⟩
 refine zA3 (zB0 (s := gv (!(decide (o.kind = 0))) (.bool (decide (o.kind = 1)))) (b := true) (v := .bool (decide (k ≥ o.data))) rfl (zG6 _ _) (fun hc20 => ?_) ?_)
 ·
  obtain ⟨hc20a, hc20b⟩ := and_t hc20
  have hc20a_ := hc20a
  try simp only [sb] at hc20a_
  have hc20b_ := qT hc20b
  refine zP6 (gvt hc20) (gvt hc20) ?_
  exact ⟨rfl, rfl⟩
 refine zA3 (zB0 (s := .bool _) (v := .bool ((decide (o.kind = 1)) && (decide (k ≥ o.data)))) rfl (zD9 _) (fun hc21 => ?_) ?_)
 ·
  have hc21_ := hc21
  try simp only [sb] at hc21_
  refine zX0 hc21 (gvt hc21) rfl rfl ?_
  exact ⟨rfl, rfl⟩
 refine stp (zH4 rfl rfl rfl ?_)
 refine zA6 ?_
 refine zA2 (b := ((decide (o.kind = 0)) || ((decide (o.kind = 1)) && (decide (k ≥ o.data))))) rfl (fun h1 => ?_) (fun h1 => ?_)
 ·
  simp only [sb] at h1
  refine qZ 6 ?_
  refine ret2 (zA1 (v := .int .u64 0) rfl) (zA1 (v := .int .i64 0) rfl) ⟨?_, G⟩
  have h9 : atS s o k = (0, 0) := by unfold atS; rw [if_pos (by omega)]
  rw [h9]
 ·
  simp only [sb] at h1
  have h1n : ¬ (o.kind = 0 ∨ o.kind = 1 ∧ k ≥ o.data) := by omega
  refine qZ 6 ?_
  refine stp (zD6 rfl rfl ?_)
  refine zA6 ?_
  refine zA2 (b := (decide (o.kind = 1))) rfl (fun h3 => ?_) (fun h3 => ?_)
  ·
   replace h3 := qT h3
   refine qZ 8 ?_
   refine stp (zB6 rfl rfl ?_ ?_); constructor <;> omega
   refine stp (zA4 (v := .tuple #[.int .u64 ((s.word o.seg (o.at_ + k)).1), .int .i64 ((s.word o.seg (o.at_ + k)).2)]) rfl (H.word _ G o.seg (o.at_ + k) (by simp only [inR]; omega) (by simp only [inR]; omega)) ?_)
   intro w22 g23
   replace hc4 := g23.heap hc4
   replace hc10 := g23.heap hc10
   replace G := G.tr g23
   clear g23
   refine qZ 14 ?_
   refine ret2 (zA1 (v := .int .u64 ((s.word o.seg (o.at_ + k)).1)) rfl) (zA1 (v := .int .i64 ((s.word o.seg (o.at_ + k)).2)) rfl) ⟨?_, G⟩
   have h9 : atS s o k = s.word o.seg (o.at_ + k) := by unfold atS; rw [if_neg h1n, if_pos h3]
   rw [h9]
  ·
   replace h3 := qF h3
   refine qZ 6 ?_
   refine stp (zD6 rfl rfl ?_)
   refine zA6 ?_
   refine zA2 (b := (decide (o.size = 6))) rfl (fun h4 => ?_) (fun h4 => ?_)
   ·
    replace h4 := qT h4
    refine qZ 6 ?_
    refine ret2 (zA1 (v := .int .u64 0) rfl) (zA1 (v := .int .i64 23) rfl) ⟨?_, G⟩
    have h9 : atS s o k = (0, 23) := by unfold atS; rw [if_neg h1n, if_neg h3, if_pos h4]
    rw [h9]
   ·
    replace h4 := qF h4
    refine qZ 7 ?_
    refine stp (zP6 rfl rfl ?_)
    refine zA6 ?_
    refine zA2 (b := (decide (k ≥ o.count))) rfl (fun h5 => ?_) (fun h5 => ?_)
    ·
     replace h5 := qT h5
     refine qZ 6 ?_
     refine ret2 (zA1 (v := .int .u64 0) rfl) (zA1 (v := .int .i64 20) rfl) ⟨?_, G⟩
     have h9 : atS s o k = (0, 20) := by unfold atS; rw [if_neg h1n, if_neg h3, if_neg h4, if_pos h5]
     rw [h9]
    ·
     replace h5 := qF h5
     refine qZ 6 ?_
     refine stp (zD6 rfl rfl ?_)
     refine zA6 ?_
     refine zA2 (b := (decide (o.size = 5))) rfl (fun h6 => ?_) (fun h6 => ?_)
     ·
      replace h6 := qT h6
      refine qZ 8 ?_
      refine stp (zB6 rfl rfl ?_ ?_); constructor <;> omega
      refine stp (zA4 (v := .tuple #[.int .u64 ((s.word o.seg (o.at_ + k)).1), .int .i64 ((s.word o.seg (o.at_ + k)).2)]) rfl (H.word _ G o.seg (o.at_ + k) (by simp only [inR]; omega) (by simp only [inR]; omega)) ?_)
      intro w24 g25
      replace hc4 := g25.heap hc4
      replace hc10 := g25.heap hc10
      replace G := G.tr g25
      clear g25
      refine qZ 14 ?_
      refine ret2 (zA1 (v := .int .u64 ((s.word o.seg (o.at_ + k)).1)) rfl) (zA1 (v := .int .i64 ((s.word o.seg (o.at_ + k)).2)) rfl) ⟨?_, G⟩
      have h9 : atS s o k = s.word o.seg (o.at_ + k) := by unfold atS; rw [if_neg h1n, if_neg h3, if_neg h4, if_neg h5, if_pos h6]
      rw [h9]
     ·
      replace h6 := qF h6
      obtain ⟨n1, n2, -, -⟩ := H.num o.seg (o.at_ + k / 8)
      refine qZ 9 ?_
      refine stp (qF7 rfl rfl ?_ ?_ ?_ ?_); omega; omega; (constructor <;> omega)
      refine stp (zB6 rfl rfl ?_ ?_); constructor <;> omega
      refine stp (zA4 (v := .tuple #[.int .u64 ((s.word o.seg (o.at_ + (k / 8))).1), .int .i64 ((s.word o.seg (o.at_ + (k / 8))).2)]) rfl (H.word _ G o.seg (o.at_ + (k / 8)) (by simp only [inR]; omega) (by simp only [inR]; omega)) ?_)
      intro w26 g27
      replace hc4 := g27.heap hc4
      replace hc10 := g27.heap hc10
      replace G := G.tr g27
      clear g27
      refine qZ 12 ?_
      refine zE7 (fun m_ e_ w_ => ∃ (j : Nat), m_ = 8 - j ∧ Fr [(2, .int .i64 k), (6, .int .u64 0), (7, .int .i64 0), (13, .int .i64 ((s.word o.seg (o.at_ + (k / 8))).2)), (12, .int .u64 ((s.word o.seg (o.at_ + k / 8)).1 / 2 ^ (8 * j))), (14, .int .i64 (j : Int))] e_ ∧ ((j : Int) ≤ k % 8) ∧ (w_.heap[b1]? = some (.cells #[ua, .bool b, uh] 86 (0, 0))) ∧ (w_.heap[b7]? = some (.cells #[.int .i64 o.kind, .int .i64 o.seg, .int .i64 o.at_, .int .i64 o.data, .int .i64 o.ptrs, .int .i64 o.size, .int .i64 o.count] 112 (0, 0))) ∧ Grow w w_) _ ⟨0, rfl, zC7 ⟨rfl, rfl, rfl, rfl, congrArg (Value.int .u64) (by simp), rfl, trivial⟩, by omega, hc4, hc10, G⟩ ?_
      clear hc4 hc10
      clear G
      rintro m_ e_ w28 ⟨j, rfl, ⟨e29, rfl⟩, hj, hc4, hc10, G⟩
      have hsr := yK9 (s.word o.seg (o.at_ + k / 8)).1 j n1 n2
      refine qZ 5 ?_
      refine stp (qB5 rfl rfl ?_ ?_ ?_); omega; omega
      refine stp (zF0 rfl rfl ?_)
      refine zA6 ?_
      refine zA2 (b := (decide ((j : Int) < (k % 8)))) rfl (fun hlt => ?_) (fun hlt => ?_)
      ·
       replace hlt := qT hlt
       refine qZ 5 ?_
       refine stp (qF7 rfl rfl ?_ ?_ ?_ ?_); omega; omega; (constructor <;> omega)
       refine qZ 4 ?_
       refine stp (zB6 rfl rfl ?_ ?_); constructor <;> omega
       refine qZ 2 ?_
       refine ⟨_, ?_, j + 1, rfl, zC7 ⟨rfl, rfl, rfl, rfl, congrArg (Value.int .u64) (yQ1 _ _), congrArg (Value.int .i64) (by omega), trivial⟩, by omega, hc4, hc10, G⟩
       omega
      ·
       replace hlt := qF hlt
       have hj9 : 8 * j = (k % 8 * 8).toNat := by omega
       rw [hj9] at hsr
       have h9 : atS s o k = ((s.word o.seg (o.at_ + k / 8)).1 / 2 ^ (8 * j) % 256, (s.word o.seg (o.at_ + k / 8)).2) := by rw [hj9]; unfold atS; rw [if_neg h1n, if_neg h3, if_neg h4, if_neg h5, if_neg h6]
       rw [← hj9] at hsr
       refine qZ 4 ?_
       refine stp (qB5 rfl rfl ?_ ?_ ?_); omega; omega
       refine qZ 5 ?_
       refine ret2 (zA1 (v := .int .u64 (((s.word o.seg (o.at_ + k / 8)).1 / 2 ^ (8 * j)) % 256)) rfl) (zA1 (v := .int .i64 ((s.word o.seg (o.at_ + (k / 8))).2)) rfl) ⟨?_, G⟩
       rw [h9]
theorem qN4 (w : World) {ua uh : Value} {b : Bool} {A : List (List Int)} {s : Src} (H : SrcR Tryz.prog 72 w ua b uh A s) (o : Ob) (ho : ObR o) (k : Int) (k1 : inR .i64 k) : zB3 Tryz.prog 69 #[.agg #[ua, .bool b, uh], .agg #[.int .i64 o.kind, .int .i64 o.seg, .int .i64 o.at_, .int .i64 o.data, .int .i64 o.ptrs, .int .i64 o.size, .int .i64 o.count], .int .i64 k] w (.tuple #[.agg #[.int .i64 ((valS s o k).1.kind), .int .i64 ((valS s o k).1.size), .int .i64 ((valS s o k).1.words), .int .i64 ((valS s o k).1.kids), .int .u64 ((valS s o k).1.word)], .int .i64 ((valS s o k).2)]) := by
 simp only [inR] at k1
 have G := Grow.rfl' w
 refine zA7 Tryz.func69 Tryz.ntmps69 Tryz.results69 rfl rfl ?_
 refine qZ 2 ?_
 refine stp ?_
 refine qC ?_
 intro b1 w2 hb3 hc4 g5
 have hge6 := Nat.le_trans G.size hb3
 replace G := G.tr g5
 clear g5 hb3
 refine stp ?_
 refine qC ?_
 intro b7 w8 hb9 hc10 g11
 have hge12 := Nat.le_trans G.size hb9
 replace hc4 := g11.heap hc4
 replace G := G.tr g11
 clear g11 hb9
 refine stp (zA9 ?_)
 intro b13 w14 hb15 hc16 g17
 refine qZ 6 ?_
 refine stp (zP6 rfl rfl ?_)
 refine zA6 ?_
 have hge18 := Nat.le_trans G.size hb15
 have ne19 := qN hc4 hb15
 have ne20 := qN hc10 hb15
 replace hc4 := g17.heap hc4
 replace hc10 := g17.heap hc10
 replace G := G.tr g17
 clear g17 hb15
 refine zA2 (b := (decide (k ≥ 0))) rfl (fun h1 => ?_) (fun h1 => ?_)
 ·
  replace h1 := qT h1
  refine qZ 5 ?_
  refine stp (zA4 (v := .tuple #[.int .u64 ((atS s o k).1), .int .i64 ((atS s o k).2)]) rfl (qT1 _ (H.grow G) o ho k (by omega) (by omega)) ?_)
  intro w21 g22
  replace hc4 := g22.heap hc4
  replace hc10 := g22.heap hc10
  replace hc16 := g22.heap hc16
  replace G := G.tr g22
  clear g22
  refine qZ 10 ?_
  refine stp (zG4 rfl rfl ?_)
  refine zA6 ?_
  refine zA2 (b := (decide (((atS s o k).2) ≠ 0))) rfl (fun h2 => ?_) (fun h2 => ?_)
  ·
   replace h2 := qT h2
   refine qZ 2 ?_
   refine stp (zA8 (v := .agg #[.int .i64 0, .int .i64 0, .int .i64 0, .int .i64 0, .int .u64 0]) (fun w => by kernel_rfl) ?_)
   refine qZ 1 ?_
   refine stn (qS hc16 ?_)
   intro w23 hc24 u25
   replace hc4 := u25.heap hc4 ne19
   replace hc10 := u25.heap hc10 ne20
   replace G := G.upd u25 hge18
   clear u25 hc16
   refine qZ 3 ?_
   have h9 : valS s o k = (Vl0, (atS s o k).2) := by unfold valS; rw [if_neg (by omega), if_pos h2]
   refine ret2 (zA5 rfl hc24 (by rfl)) (zA1 (v := .int .i64 ((atS s o k).2)) rfl) ⟨?_, G⟩
   rw [h9] <;> rfl
  ·
   replace h2 := qF h2
   refine qZ 6 ?_
   refine stp (zA8 (v := .agg #[.int .i64 o.kind, .int .i64 0, .int .i64 0, .int .i64 0, .int .u64 ((atS s o k).1)]) (fun w => by kernel_rfl) ?_)
   refine stn (qS hc16 ?_)
   intro w26 hc27 u28
   replace hc4 := u28.heap hc4 ne19
   replace hc10 := u28.heap hc10 ne20
   replace G := G.upd u28 hge18
   clear u28 hc16
   refine qZ 3 ?_
   have h9 : valS s o k = (⟨o.kind, 0, 0, 0, (atS s o k).1⟩, 0) := by unfold valS; rw [if_neg (by omega), if_neg h2]
   refine ret2 (zA5 rfl hc27 (by rfl)) (zA1 (v := .int .i64 0) rfl) ⟨?_, G⟩
   rw [h9] <;> rfl
 ·
  replace h1 := qF h1
  refine qZ 11 ?_
  refine stp (zA8 (v := .agg #[.int .i64 o.kind, .int .i64 o.size, .int .i64 o.data, .int .i64 o.ptrs, .int .u64 0]) (fun w => by kernel_rfl) ?_)
  refine stp (zA9 ?_)
  intro b29 w30 hb31 hc32 g33
  refine stn (qS hc32 ?_)
  intro w34 hc35 u36
  have g37 := g33.upd u36 hb31
  have hge38 := Nat.le_trans G.size hb31
  have ne39 := qN hc4 hb31
  have ne40 := qN hc10 hb31
  have ne41 := qN hc16 hb31
  replace hc4 := g37.heap hc4
  replace hc10 := g37.heap hc10
  replace hc16 := g37.heap hc16
  replace G := G.tr g37
  clear u36 g33 hb31 hc32
  refine qZ 6 ?_
  refine stp (zD6 rfl rfl ?_)
  refine qZ 1 ?_
  refine qG 2 ?_
  refine zA3 (zB0 (s := .bool _) (v := .bool (decide (o.size = 6))) rfl (zE2 _) (fun hc44 => ?_) ?_)
  ·
   have hc44_ := qT hc44
   refine zD6 (gvt hc44) rfl ?_
   exact ⟨rfl, rfl⟩
  refine stp (zG1 rfl rfl rfl ?_)
  refine zA6 ?_
  refine zA2 (b := ((decide (o.kind = 2)) && (decide (o.size = 6)))) rfl (fun h2 => ?_) (fun h2 => ?_)
  ·
   simp only [sb] at h2
   refine qZ 4 ?_
   refine stn (zD1 (v := .int .i64 o.count) rfl rfl (by rfl) hc35 (by rfl) (by rfl) ?_)
   intro w45 hc46 u47
   replace hc4 := u47.heap hc4 ne39
   replace hc10 := u47.heap hc10 ne40
   replace hc16 := u47.heap hc16 ne41
   replace G := G.upd u47 hge38
   clear u47 hc35
   refine qZ 4 ?_
   refine stn (qS hc16 ?_)
   intro w48 hc49 u50
   replace hc4 := u50.heap hc4 ne19
   replace hc10 := u50.heap hc10 ne20
   replace hc46 := u50.heap hc46 ne41.symm
   replace G := G.upd u50 hge18
   clear u50 hc16
   refine qZ 3 ?_
   have h9 : valS s o k = (⟨o.kind, o.size, o.data, o.count, 0⟩, 0) := by unfold valS; rw [if_pos (by omega)]; unfold isS; rw [if_neg (by omega), if_pos (by omega)]
   refine ret2 (zA5 rfl hc49 (by rfl)) (zA1 (v := .int .i64 0) rfl) ⟨?_, G⟩
   rw [h9] <;> rfl
  ·
   simp only [sb] at h2
   refine qZ 4 ?_
   refine stp (zD6 rfl rfl ?_)
   refine zA6 ?_
   refine zA2 (b := (decide (o.kind = 2))) rfl (fun h3 => ?_) (fun h3 => ?_)
   ·
    replace h3 := qT h3
    refine qZ 4 ?_
    refine stn (zD1 (v := .int .i64 o.count) rfl rfl (by rfl) hc35 (by rfl) (by rfl) ?_)
    intro w51 hc52 u53
    replace hc4 := u53.heap hc4 ne39
    replace hc10 := u53.heap hc10 ne40
    replace hc16 := u53.heap hc16 ne41
    replace G := G.upd u53 hge38
    clear u53 hc35
    refine qZ 4 ?_
    refine stn (qS hc16 ?_)
    intro w54 hc55 u56
    replace hc4 := u56.heap hc4 ne19
    replace hc10 := u56.heap hc10 ne20
    replace hc52 := u56.heap hc52 ne41.symm
    replace G := G.upd u56 hge18
    clear u56 hc16
    refine qZ 3 ?_
    have h9 : valS s o k = (⟨o.kind, o.size, o.count, o.ptrs, 0⟩, 0) := by unfold valS; rw [if_pos (by omega)]; unfold isS; rw [if_pos (by omega), if_neg (by omega)]
    refine ret2 (zA5 rfl hc55 (by rfl)) (zA1 (v := .int .i64 0) rfl) ⟨?_, G⟩
    rw [h9] <;> rfl
   ·
    replace h3 := qF h3
    refine qZ 4 ?_
    refine stn (qS hc16 ?_)
    intro w57 hc58 u59
    replace hc4 := u59.heap hc4 ne19
    replace hc10 := u59.heap hc10 ne20
    replace hc35 := u59.heap hc35 ne41.symm
    replace G := G.upd u59 hge18
    clear u59 hc16
    refine qZ 3 ?_
    have h9 : valS s o k = (⟨o.kind, o.size, o.data, o.ptrs, 0⟩, 0) := by unfold valS; rw [if_pos (by omega)]; unfold isS; rw [if_neg (by omega), if_neg (by omega)]
    refine ret2 (zA5 rfl hc58 (by rfl)) (zA1 (v := .int .i64 0) rfl) ⟨?_, G⟩
    rw [h9] <;> rfl
theorem qT2 (w : World) {ua uh : Value} {b : Bool} {A : List (List Int)} {s : Src} (H : SrcR Tryz.prog 72 w ua b uh A s) {ad : Option Addr} {c : Nat} {steps : List Int} {a cost : Int} (R : RowAt w 1 ad steps.length (steps.map (.int .i64))) (ha : inR .i64 a) (hc : 0 ≤ cost ∧ cost ≤ 9000000000000000000) : zB3 Tryz.prog 35 #[.agg #[ua, .bool b, uh], .agg #[.slice ad steps.length c, .int .i64 a], .int .i64 cost] w (.tuple #[.agg #[.int .i64 ((zE5 s steps a cost).1.kind), .int .i64 ((zE5 s steps a cost).1.size), .int .i64 ((zE5 s steps a cost).1.words), .int .i64 ((zE5 s steps a cost).1.kids), .int .u64 ((zE5 s steps a cost).1.word)], .int .i64 ((zE5 s steps a cost).2)]) := by
 have ll := R.lim
 have G := Grow.rfl' w
 refine zA7 Tryz.func35 Tryz.ntmps35 Tryz.results35 rfl rfl ?_
 refine qZ 2 ?_
 refine stp ?_
 refine qC ?_
 intro b1 w2 hb3 hc4 g5
 have hge6 := Nat.le_trans G.size hb3
 replace G := G.tr g5
 clear g5 hb3
 refine stp ?_
 refine qC ?_
 intro b7 w8 hb9 hc10 g11
 have hge12 := Nat.le_trans G.size hb9
 replace hc4 := g11.heap hc4
 replace G := G.tr g11
 clear g11 hb9
 refine stp (zA9 ?_)
 intro b13 w14 hb15 hc16 g17
 refine qZ 8 ?_
 have hge18 := Nat.le_trans G.size hb15
 have ne19 := qN hc4 hb15
 have ne20 := qN hc10 hb15
 replace hc4 := g17.heap hc4
 replace hc10 := g17.heap hc10
 replace G := G.tr g17
 clear g17 hb15
 refine zE7 (fun m_ e_ w_ => ∃ (k : Nat), m_ = steps.length - k ∧ Fr [(2, .int .i64 cost), (3, .pointer (some ⟨b1, 0, none⟩)), (4, .pointer (some ⟨b7, 0, none⟩)), (6, .pointer (some ⟨b13, 0, none⟩)), (8, .int .i64 (k : Int))] e_ ∧ (k ≤ steps.length) ∧ (∀ j, j < k → 0 ≤ steps.getD j 0) ∧ (w_.heap[b1]? = some (.cells #[ua, .bool b, uh] 86 (0, 0))) ∧ (w_.heap[b7]? = some (.cells #[.slice ad steps.length c, .int .i64 a] 30 (0, 0))) ∧ (w_.heap[b13]? = some (.cells #[.int .i64 0, .int .i64 0, .int .i64 0, .int .i64 0, .int .u64 0] 40 (0, 0))) ∧ Grow w w_) _ ⟨0, rfl, zC7 ⟨rfl, rfl, rfl, rfl, rfl, trivial⟩, by omega, fun j hj => by omega, hc4, hc10, hc16, G⟩ ?_
 clear hc4 hc10 hc16
 clear G
 rintro m_ e_ w21 ⟨k, rfl, ⟨e22, rfl⟩, hk2, hnn, hc4, hc10, hc16, G⟩
 refine qZ 7 ?_
 refine stp (zF0 rfl rfl ?_)
 refine zA6 ?_
 refine zA2 (b := (decide ((k : Int) < (steps.length : Int)))) rfl (fun hlt1 => ?_) (fun hlt1 => ?_)
 ·
  replace hlt1 := qT hlt1
  have hi : k < steps.length := by omega
  refine qZ 8 ?_
  refine stp (zD7 (R.grow G) rfl rfl ?_ ?_); omega
  refine stp (zD4 (v := .int .i64 (steps.getD k 0)) (m := 0) (R.grow G) rfl (zH8 0 (by omega)) ?_)
  refine stp (zF0 rfl rfl ?_)
  refine zA6 ?_
  refine zA2 (b := (decide ((steps.getD k 0) < 0))) rfl (fun h2 => ?_) (fun h2 => ?_)
  ·
   replace h2 := qT h2
   refine qZ 2 ?_
   refine stp (zA8 (v := .agg #[.int .i64 0, .int .i64 0, .int .i64 0, .int .i64 0, .int .u64 0]) (fun w => by kernel_rfl) ?_)
   refine stn (qS hc16 ?_)
   intro w23 hc24 u25
   replace hc4 := u25.heap hc4 ne19
   replace hc10 := u25.heap hc10 ne20
   replace G := G.upd u25 hge18
   clear u25 hc16
   refine qZ 3 ?_
   have h9 : (zE5 s steps a cost) = (Vl0, 1) := by unfold zE5; rw [if_pos ⟨_, qA5 hi, h2⟩]
   refine ret2 (zA5 rfl hc24 (by rfl)) (zA1 (v := .int .i64 1) rfl) ⟨?_, G⟩
   rw [h9] <;> rfl
  ·
   replace h2 := qF h2
   refine qZ 3 ?_
   refine stp (zB6 rfl rfl ?_ ?_); constructor <;> omega
   refine qZ 2 ?_
   refine ⟨_, ?_, k + 1, rfl, zC7 ⟨rfl, rfl, rfl, rfl, rfl, trivial⟩, by omega, fun j hj => by rcases Nat.lt_succ_iff_lt_or_eq.1 hj with h_ | h_; exact hnn j h_; subst h_; omega, hc4, hc10, hc16, G⟩
   omega
 ·
  replace hlt1 := qF hlt1
  replace hnn : ∀ j, j < steps.length → 0 ≤ steps.getD j 0 := fun j hj => hnn j (by omega)
  have hno : ¬ ∃ k ∈ steps, k < 0 := fun ⟨x_, hx_, hlt_⟩ => by obtain ⟨j_, hj_, he_⟩ := List.getElem_of_mem hx_; have := hnn j_ hj_; rw [zG9 hj_] at this; omega
  refine qZ 7 ?_
  refine stp (zN1 rfl rfl ?_)
  refine zA6 ?_
  refine zA2 (b := (decide ((steps.length : Int) > 32))) rfl (fun h3 => ?_) (fun h3 => ?_)
  ·
   replace h3 := qT h3
   refine qZ 2 ?_
   refine stp (zA8 (v := .agg #[.int .i64 0, .int .i64 0, .int .i64 0, .int .i64 0, .int .u64 0]) (fun w => by kernel_rfl) ?_)
   refine stn (qS hc16 ?_)
   intro w26 hc27 u28
   replace hc4 := u28.heap hc4 ne19
   replace hc10 := u28.heap hc10 ne20
   replace G := G.upd u28 hge18
   clear u28 hc16
   refine qZ 3 ?_
   have h9 : (zE5 s steps a cost) = (Vl0, 3) := by unfold zE5; rw [if_neg hno, if_pos h3]
   refine ret2 (zA5 rfl hc27 (by rfl)) (zA1 (v := .int .i64 3) rfl) ⟨?_, G⟩
   rw [h9] <;> rfl
  ·
   replace h3 := qF h3
   have hw0 := yN5 (s := s) (a := a) hno h3 hc.1
   have ho0 := H.follow_range 0 0
   refine qZ 4 ?_
   refine stp (zA4 (v := .tuple #[.agg #[.int .i64 ((zA0 s 0 0).1.kind), .int .i64 ((zA0 s 0 0).1.seg), .int .i64 ((zA0 s 0 0).1.at_), .int .i64 ((zA0 s 0 0).1.data), .int .i64 ((zA0 s 0 0).1.ptrs), .int .i64 ((zA0 s 0 0).1.size), .int .i64 ((zA0 s 0 0).1.count)], .int .i64 ((zA0 s 0 0).2)]) rfl (zT3 _ (H.grow G) 0 0 (by simp [inR]) (by simp [inR])) ?_)
   intro w29 g30
   replace hc4 := g30.heap hc4
   replace hc10 := g30.heap hc10
   replace hc16 := g30.heap hc16
   replace G := G.tr g30
   clear g30
   refine qZ 3 ?_
   refine stp (zA9 ?_)
   intro b31 w32 hb33 hc34 g35
   refine stn (qS hc34 ?_)
   intro w36 hc37 u38
   have g39 := g35.upd u38 hb33
   have hge40 := Nat.le_trans G.size hb33
   have ne41 := qN hc4 hb33
   have ne42 := qN hc10 hb33
   have ne43 := qN hc16 hb33
   replace hc4 := g39.heap hc4
   replace hc10 := g39.heap hc10
   replace hc16 := g39.heap hc16
   replace G := G.tr g39
   clear u38 g35 hb33 hc34
   refine qZ 12 ?_
   refine zE7 (fun m_ e_ w_ => ∃ (i : Nat) (o : Ob) (e : Int) (paid : Int), m_ = steps.length + 1 - i ∧ Fr [(2, .int .i64 cost), (3, .pointer (some ⟨b1, 0, none⟩)), (4, .pointer (some ⟨b7, 0, none⟩)), (6, .pointer (some ⟨b13, 0, none⟩)), (9, .pointer (some ⟨b31, 0, none⟩)), (12, .int .i64 (i : Int)), (10, .int .i64 e), (11, .int .i64 paid)] e_ ∧ (i ≤ steps.length + 1) ∧ (ObR o) ∧ (0 ≤ paid ∧ paid ≤ 536870913 * (i : Int)) ∧ (i ≤ steps.length → (zE5 s steps a cost) = qI4 s steps a cost i o e paid) ∧ (i = steps.length + 1 → (zE5 s steps a cost) = valS s o a) ∧ (w_.heap[b1]? = some (.cells #[ua, .bool b, uh] 86 (0, 0))) ∧ (w_.heap[b7]? = some (.cells #[.slice ad steps.length c, .int .i64 a] 30 (0, 0))) ∧ (w_.heap[b13]? = some (.cells #[.int .i64 0, .int .i64 0, .int .i64 0, .int .i64 0, .int .u64 0] 40 (0, 0))) ∧ (w_.heap[b31]? = some (.cells #[.int .i64 o.kind, .int .i64 o.seg, .int .i64 o.at_, .int .i64 o.data, .int .i64 o.ptrs, .int .i64 o.size, .int .i64 o.count] 112 (0, 0))) ∧ Grow w w_) _ ⟨0, (zA0 s 0 0).1, (zA0 s 0 0).2, 0, rfl, zC7 ⟨rfl, rfl, rfl, rfl, rfl, rfl, rfl, rfl, trivial⟩, by omega, ho0, by omega, fun _ => hw0, fun h_ => by omega, hc4, hc10, hc16, hc37, G⟩ ?_
   clear hc4 hc10 hc16 hc37
   clear G
   rintro m_ e_ w44 ⟨i, o, e, paid, rfl, ⟨e45, rfl⟩, hi1, ho, hpd, hw, hv0, hc4, hc10, hc16, hc37, G⟩
   have hwo := zJ2 ho
   refine qZ 7 ?_
   refine stp (zR5 rfl rfl ?_)
   refine zA6 ?_
   refine zA2 (b := (decide ((i : Int) ≤ (steps.length : Int)))) rfl (fun hlt => ?_) (fun hlt => ?_)
   ·
    replace hlt := qT hlt
    have hil : i ≤ steps.length := by omega
    have hw1 := hw hil
    refine qZ 7 ?_
    refine stp (zG4 rfl rfl ?_)
    refine zA6 ?_
    refine zA2 (b := (decide (e ≠ 0))) rfl (fun he => ?_) (fun he => ?_)
    ·
     replace he := qT he
     refine qZ 2 ?_
     refine stp (zA8 (v := .agg #[.int .i64 0, .int .i64 0, .int .i64 0, .int .i64 0, .int .u64 0]) (fun w => by kernel_rfl) ?_)
     refine qZ 1 ?_
     refine stn (qS hc16 ?_)
     intro w46 hc47 u48
     replace hc4 := u48.heap hc4 ne19
     replace hc10 := u48.heap hc10 ne20
     replace hc37 := u48.heap hc37 ne43.symm
     replace G := G.upd u48 hge18
     clear u48 hc16
     refine qZ 3 ?_
     have h9 : (zE5 s steps a cost) = (Vl0, e) := by rw [hw1]; unfold qI4; rw [if_pos he]
     refine ret2 (zA5 rfl hc47 (by rfl)) (zA1 (v := .int .i64 e) rfl) ⟨?_, G⟩
     rw [h9] <;> rfl
    ·
     replace he := qF he
     have he9 : e = 0 := by omega
     subst he9
     refine qZ 5 ?_
     refine stp (zA4 (v := .int .i64 (zB9 o)) rfl (qM2 _ o) ?_)
     intro w49 g50
     replace hc4 := g50.heap hc4
     replace hc10 := g50.heap hc10
     replace hc16 := g50.heap hc16
     replace hc37 := g50.heap hc37
     replace G := G.tr g50
     clear g50
     refine stp (zB6 rfl rfl ?_ ?_); constructor <;> omega
     refine stp (zB6 rfl rfl ?_ ?_); constructor <;> omega
     refine qZ 7 ?_
     refine stp (zN1 rfl rfl ?_)
     refine zA6 ?_
     refine zA2 (b := (decide ((paid + (1 + (zB9 o))) > cost))) rfl (fun h7 => ?_) (fun h7 => ?_)
     ·
      replace h7 := qT h7
      refine qZ 2 ?_
      refine stp (zA8 (v := .agg #[.int .i64 0, .int .i64 0, .int .i64 0, .int .i64 0, .int .u64 0]) (fun w => by kernel_rfl) ?_)
      refine stn (qS hc16 ?_)
      intro w51 hc52 u53
      replace hc4 := u53.heap hc4 ne19
      replace hc10 := u53.heap hc10 ne20
      replace hc37 := u53.heap hc37 ne43.symm
      replace G := G.upd u53 hge18
      clear u53 hc16
      refine qZ 3 ?_
      have h9 : (zE5 s steps a cost) = (Vl0, 22) := by rw [hw1]; unfold qI4; rw [if_neg (by simp), if_pos (by omega)]
      refine ret2 (zA5 rfl hc52 (by rfl)) (zA1 (v := .int .i64 22) rfl) ⟨?_, G⟩
      rw [h9] <;> rfl
     ·
      replace h7 := qF h7
      have hnv : ¬ (paid + (1 + zB9 o)) > cost := by omega
      refine qZ 7 ?_
      refine stp (zF0 rfl rfl ?_)
      refine zA6 ?_
      refine zA2 (b := (decide ((i : Int) < (steps.length : Int)))) rfl (fun h8 => ?_) (fun h8 => ?_)
      ·
       replace h8 := qT h8
       have hi : i < steps.length := by omega
       have hkk := hnn i hi
       have hso := H.stepO_range o (steps.getD i 0)
       have hw2 := yN4 (s := s) (a := a) hi hnv
       have hsz54 : w49.heap.size ≤ w49.heap.size := Nat.le_refl _
       have ltf54_hc4 := zB7 hc4
       have ltf54_hc10 := zB7 hc10
       have ltf54_hc16 := zB7 hc16
       have ltf54_hc37 := zB7 hc37
       have hgz54 := G.size
       refine qF4 ?_
       have kb_hc4 : ∀ w_, (ktR 112 w49.heap.size).r w49 w_ → w_.heap[b1]? = some (.cells #[ua, .bool b, uh] 86 (0, 0)) := fun w_ k_ => (KtP.to_grow k_ (Grow.rfl' _)).heap hc4
       have kb_hc10 : ∀ w_, (ktR 112 w49.heap.size).r w49 w_ → w_.heap[b7]? = some (.cells #[.slice ad steps.length c, .int .i64 a] 30 (0, 0)) := fun w_ k_ => (KtP.to_grow k_ (Grow.rfl' _)).heap hc10
       have kb_hc16 : ∀ w_, (ktR 112 w49.heap.size).r w49 w_ → w_.heap[b13]? = some (.cells #[.int .i64 0, .int .i64 0, .int .i64 0, .int .i64 0, .int .u64 0] 40 (0, 0)) := fun w_ k_ => (KtP.to_grow k_ (Grow.rfl' _)).heap hc16
       have kb_hc37 : ∀ w_, (ktR 112 w49.heap.size).r w49 w_ → w_.heap[b31]? = some (.cells #[.int .i64 o.kind, .int .i64 o.seg, .int .i64 o.at_, .int .i64 o.data, .int .i64 o.ptrs, .int .i64 o.size, .int .i64 o.count] 112 (0, 0)) := fun w_ k_ => (KtP.to_grow k_ (Grow.rfl' _)).heap hc37
       have kb_hsz54 : ∀ w_, (ktR 112 w49.heap.size).r w49 w_ → w49.heap.size ≤ w_.heap.size := fun w_ k_ => Nat.le_trans hsz54 (KtP.to_grow k_ (Grow.rfl' _)).size
       have kb_G : ∀ w_, (ktR 112 w49.heap.size).r w49 w_ → Grow w w_ := fun w_ k_ => G.tr (KtP.to_grow k_ (Grow.rfl' _))
       refine yK7 13 [[], [], [], [0], [], [2, 1, 0], [3, 2, 1, 0], [6, 5, 4, 3, 2, 1, 0], [7, 6, 5, 4, 3, 2, 1, 0], [8, 7, 6, 5, 4, 3, 2, 1, 0], [9, 8, 7, 6, 5, 4, 3, 2, 1], [], [11, 10, 9, 8, 7, 6, 5, 4, 3, 2, 0]] [12] [13] (grQ (ktR 112 w49.heap.size)) (fun k_ e_ w_ => match k_ with | 0 => True | _ => ∃ b : Nat, e_ 13 = .pointer (some ⟨b, 0, none⟩) ∧ w49.heap.size ≤ b ∧ w_.heap[b]? = some (.cells #[.int .i64 ((stepO s o (steps.getD i 0)).1.kind), .int .i64 ((stepO s o (steps.getD i 0)).1.seg), .int .i64 ((stepO s o (steps.getD i 0)).1.at_), .int .i64 ((stepO s o (steps.getD i 0)).1.data), .int .i64 ((stepO s o (steps.getD i 0)).1.ptrs), .int .i64 ((stepO s o (steps.getD i 0)).1.size), .int .i64 ((stepO s o (steps.getD i 0)).1.count)] 112 (0, 0))) mixed (by kernel_rfl) (by kernel_rfl) (by kernel_rfl) (by kernel_rfl) (by kernel_rfl) (fun k_ _ _ _ g_ h_ => match k_, h_ with | 0, _ => trivial | _ + 1, ⟨b_, h1_, h2_, h3_⟩ => ⟨b_, h1_, h2_, g_.heap h3_⟩) (fun k_ _ _ _ hu_ h_ => match k_, h_ with | 0, _ => trivial | _ + 1, ⟨b_, h1_, h2_, h3_⟩ => ⟨b_, (hu_ _ (by simp)).symm.trans h1_, h2_, h3_⟩) (fun _ _ _ h_ => h_) (fun _ _ => trivial) ?_
       intro w55 g56
       replace kb_hc4 : ∀ w_, (ktR 112 w49.heap.size).r w55 w_ → w_.heap[b1]? = some (.cells #[ua, .bool b, uh] 86 (0, 0)) := fun w_ k_ => kb_hc4 w_ ((ktR 112 w49.heap.size).tr ((ktR 112 w49.heap.size).grow g56) k_)
       replace kb_hc10 : ∀ w_, (ktR 112 w49.heap.size).r w55 w_ → w_.heap[b7]? = some (.cells #[.slice ad steps.length c, .int .i64 a] 30 (0, 0)) := fun w_ k_ => kb_hc10 w_ ((ktR 112 w49.heap.size).tr ((ktR 112 w49.heap.size).grow g56) k_)
       replace kb_hc16 : ∀ w_, (ktR 112 w49.heap.size).r w55 w_ → w_.heap[b13]? = some (.cells #[.int .i64 0, .int .i64 0, .int .i64 0, .int .i64 0, .int .u64 0] 40 (0, 0)) := fun w_ k_ => kb_hc16 w_ ((ktR 112 w49.heap.size).tr ((ktR 112 w49.heap.size).grow g56) k_)
       replace kb_hc37 : ∀ w_, (ktR 112 w49.heap.size).r w55 w_ → w_.heap[b31]? = some (.cells #[.int .i64 o.kind, .int .i64 o.seg, .int .i64 o.at_, .int .i64 o.data, .int .i64 o.ptrs, .int .i64 o.size, .int .i64 o.count] 112 (0, 0)) := fun w_ k_ => kb_hc37 w_ ((ktR 112 w49.heap.size).tr ((ktR 112 w49.heap.size).grow g56) k_)
       replace kb_hsz54 : ∀ w_, (ktR 112 w49.heap.size).r w55 w_ → w49.heap.size ≤ w_.heap.size := fun w_ k_ => kb_hsz54 w_ ((ktR 112 w49.heap.size).tr ((ktR 112 w49.heap.size).grow g56) k_)
       replace kb_G : ∀ w_, (ktR 112 w49.heap.size).r w55 w_ → Grow w w_ := fun w_ k_ => kb_G w_ ((ktR 112 w49.heap.size).tr ((ktR 112 w49.heap.size).grow g56) k_)
       have k0_ : (ktR 112 w49.heap.size).r w49 w55 := ((ktR 112 w49.heap.size).grow g56)
       apply zF7 (hm := by rfl)
       ·intro w_ g_; exact og rfl (zD2 rfl (kb_hc4 _ g_) (by rfl) qX)
       apply zF7 (hm := by rfl)
       ·intro w_ g_; exact og rfl (zD2 rfl (kb_hc37 _ g_) (by rfl) qX)
       apply zF7 (hm := by rfl)
       ·intro w_ g_; exact og rfl (zD0 rfl qX)
       apply zF7 (hm := by rfl)
       ·intro w_ g_; exact og rfl (zF9 (v := .slice ad steps.length c) rfl (kb_hc10 _ g_) rfl qX)
       apply zF7 (hm := by rfl)
       ·intro w_ g_; exact og rfl (zC2 rfl qX)
       apply zF7 (hm := by rfl)
       ·intro w_ g_; refine og rfl ?_; refine zD7 (R.grow (kb_G _ g_)) rfl rfl ?_ ?_; omega; exact qX
       apply zF7 (hm := by rfl)
       ·intro w_ g_; exact og rfl (zD4 (v := .int .i64 (steps.getD i 0)) (m := 0) (R.grow (kb_G _ g_)) rfl (zH8 0 (by omega)) qX)
       apply zF7 (hm := by rfl)
       ·intro w_ g_; refine og rfl ?_; exact zA4 (v := .tuple #[.agg #[.int .i64 ((stepO s o (steps.getD i 0)).1.kind), .int .i64 ((stepO s o (steps.getD i 0)).1.seg), .int .i64 ((stepO s o (steps.getD i 0)).1.at_), .int .i64 ((stepO s o (steps.getD i 0)).1.data), .int .i64 ((stepO s o (steps.getD i 0)).1.ptrs), .int .i64 ((stepO s o (steps.getD i 0)).1.size), .int .i64 ((stepO s o (steps.getD i 0)).1.count)], .int .i64 ((stepO s o (steps.getD i 0)).2)]) rfl (qT0 _ (H.grow (kb_G _ g_)) o ho (steps.getD i 0) hkk) (fun w2_ g2_ => ⟨g2_, rfl⟩)
       apply zF7 (hm := by rfl)
       ·intro w_ g_; exact og rfl (zH1 (v := .tuple #[.agg #[.int .i64 ((stepO s o (steps.getD i 0)).1.kind), .int .i64 ((stepO s o (steps.getD i 0)).1.seg), .int .i64 ((stepO s o (steps.getD i 0)).1.at_), .int .i64 ((stepO s o (steps.getD i 0)).1.data), .int .i64 ((stepO s o (steps.getD i 0)).1.ptrs), .int .i64 ((stepO s o (steps.getD i 0)).1.size), .int .i64 ((stepO s o (steps.getD i 0)).1.count)], .int .i64 ((stepO s o (steps.getD i 0)).2)]) rfl qX)
       apply zF7 (hm := by rfl)
       ·intro w_ g_; exact og rfl (zC5 (v := .agg #[.int .i64 ((stepO s o (steps.getD i 0)).1.kind), .int .i64 ((stepO s o (steps.getD i 0)).1.seg), .int .i64 ((stepO s o (steps.getD i 0)).1.at_), .int .i64 ((stepO s o (steps.getD i 0)).1.data), .int .i64 ((stepO s o (steps.getD i 0)).1.ptrs), .int .i64 ((stepO s o (steps.getD i 0)).1.size), .int .i64 ((stepO s o (steps.getD i 0)).1.count)]) rfl rfl qX)
       apply zF7 (hm := by rfl)
       ·intro w_ g_; exact og rfl (zC5 (v := .int .i64 ((stepO s o (steps.getD i 0)).2)) rfl rfl qX)
       refine yK4 (fun w_ v_ => ∃ b cs, v_ = .pointer (some ⟨b, 0, none⟩) ∧ w49.heap.size ≤ b ∧ cs.size = 7 ∧ w_.heap[b]? = some (.cells cs 112 (0, 0))) (fun _ _ _ g_ ⟨b, cs, h1_, h2_, h3_, h4_⟩ => by obtain ⟨cs2, h5_, h6_⟩ := KtP.new g_ b cs h4_; exact ⟨b, cs2, h1_, h2_, h5_.trans h3_, h6_⟩) (by rfl) ?_ ?_
       ·intro w_ g_
        refine og rfl ?_
        refine zA9 ?_
        intro b_ w2_ hb_ hc_ g2_
        exact ⟨g2_, b_, _, rfl, Nat.le_trans (kb_hsz54 _ g_) hb_, rfl, hc_⟩
       apply qV9 0 (hm := by rfl)
       ·intro w_ g_
        intro v11_ hv11_
        intro s_
        show OpG _ _ _ _ _ _
        refine og rfl ?_
        obtain ⟨b_, cs_, rfl, hge_, hsz_, hb_⟩ := hv11_
        refine zW0 rfl rfl hb_ (by rfl) hsz_ (by rfl) ?_
        intro w2_ s2_ u_
        exact ⟨KtP.of_upd u_ hge_ hb_ s2_ hsz_.symm, ⟨b_, rfl, hge_, s2_⟩, rfl⟩
       refine qW0 ?_
       intro w57 g58
       replace k0_ := ((ktR 112 w49.heap.size).tr k0_ g58)
       replace hc4 := kb_hc4 _ g58
       clear kb_hc4
       replace hc10 := kb_hc10 _ g58
       clear kb_hc10
       replace hc16 := kb_hc16 _ g58
       clear kb_hc16
       replace hc37 := kb_hc37 _ g58
       clear kb_hc37
       replace hsz54 := kb_hsz54 _ g58
       clear kb_hsz54
       replace G := kb_G _ g58
       clear kb_G
       intro v_x54 hv_x54
       rintro ⟨bx54, hbe54, hge54, hc54⟩
       have hbv54 : v_x54 = .pointer (some ⟨bx54, 0, none⟩) := hbe54
       subst hbv54
       clear hv_x54 hbe54
       have hgx54 := Nat.le_trans hgz54 hge54
       refine qZ 5 ?_
       refine stn (qS hc37 ?_)
       intro w59 hc60 u61
       replace hc4 := u61.heap hc4 ne41
       replace hc10 := u61.heap hc10 ne42
       replace hc16 := u61.heap hc16 ne43
       replace hc54 := u61.heap hc54 (Nat.ne_of_lt (Nat.lt_of_lt_of_le ltf54_hc37 hge54)).symm
       replace G := G.upd u61 hge40
       clear u61 hc37
       refine qZ 7 ?_
       refine stp (zB6 rfl rfl ?_ ?_); constructor <;> omega
       refine qZ 2 ?_
       refine ⟨_, ?_, i + 1, (stepO s o (steps.getD i 0)).1, (stepO s o (steps.getD i 0)).2, (paid + (1 + zB9 o)), rfl, zC7 ⟨rfl, rfl, rfl, rfl, rfl, congrArg (Value.int .i64) (by omega), rfl, rfl, trivial⟩, by omega, hso, by omega, fun _ => by rw [hw1]; exact hw2, fun h_ => by omega, hc4, hc10, hc16, hc60, G⟩
       omega
      ·
       replace h8 := qF h8
       have hi9 : i = steps.length := by omega
       refine qZ 3 ?_
       refine stp (zB6 rfl rfl ?_ ?_); constructor <;> omega
       refine qZ 2 ?_
       refine ⟨_, ?_, i + 1, o, 0, (paid + (1 + zB9 o)), rfl, zC7 ⟨rfl, rfl, rfl, rfl, rfl, congrArg (Value.int .i64) (by omega), rfl, rfl, trivial⟩, by omega, ho, by omega, fun h_ => by omega, fun _ => by rw [hw1, hi9]; exact yS4 hnv, hc4, hc10, hc16, hc37, G⟩
       omega
   ·
    replace hlt := qF hlt
    have hv := hv0 (by omega)
    refine qZ 7 ?_
    refine stp (zA4 (v := .tuple #[.agg #[.int .i64 ((valS s o a).1.kind), .int .i64 ((valS s o a).1.size), .int .i64 ((valS s o a).1.words), .int .i64 ((valS s o a).1.kids), .int .u64 ((valS s o a).1.word)], .int .i64 ((valS s o a).2)]) rfl (qN4 _ (H.grow G) o ho a ha) ?_)
    intro w62 g63
    replace hc4 := g63.heap hc4
    replace hc10 := g63.heap hc10
    replace hc16 := g63.heap hc16
    replace hc37 := g63.heap hc37
    replace G := G.tr g63
    clear g63
    refine qZ 3 ?_
    refine stp (zA9 ?_)
    intro b64 w65 hb66 hc67 g68
    refine stn (qS hc67 ?_)
    intro w69 hc70 u71
    have g72 := g68.upd u71 hb66
    have hge73 := Nat.le_trans G.size hb66
    have ne74 := qN hc4 hb66
    have ne75 := qN hc10 hb66
    have ne76 := qN hc16 hb66
    have ne77 := qN hc37 hb66
    replace hc4 := g72.heap hc4
    replace hc10 := g72.heap hc10
    replace hc16 := g72.heap hc16
    replace hc37 := g72.heap hc37
    replace G := G.tr g72
    clear u71 g68 hb66 hc67
    refine qZ 6 ?_
    refine stn (qS hc16 ?_)
    intro w78 hc79 u80
    replace hc4 := u80.heap hc4 ne19
    replace hc10 := u80.heap hc10 ne20
    replace hc37 := u80.heap hc37 ne43.symm
    replace hc70 := u80.heap hc70 ne76.symm
    replace G := G.upd u80 hge18
    clear u80 hc16
    refine qZ 3 ?_
    refine ret2 (zA5 rfl hc79 (by rfl)) (zA1 (v := .int .i64 ((valS s o a).2)) rfl) ⟨?_, G⟩
    rw [hv]
theorem yF8 (w : World) {u : Value} {A : List (List Int)} (hA : zF2 w u A) (hr : zD5 A = true) (hx : AllU A) {ad : Option Addr} {c : Nat} {steps : List Int} {a cost : Int} (R : RowAt w 1 ad steps.length (steps.map (.int .i64))) (ha : inR .i64 a) (hc : 0 ≤ cost ∧ cost ≤ 9000000000000000000) : zB3 Tryz.prog 14 #[u, .agg #[.slice ad steps.length c, .int .i64 a], .int .i64 cost] w (.tuple #[.agg #[.int .i64 ((zE5 (zB8 A) steps a cost).1.kind), .int .i64 ((zE5 (zB8 A) steps a cost).1.size), .int .i64 ((zE5 (zB8 A) steps a cost).1.words), .int .i64 ((zE5 (zB8 A) steps a cost).1.kids), .int .u64 ((zE5 (zB8 A) steps a cost).1.word)], .int .i64 ((zE5 (zB8 A) steps a cost).2)]) := by
 have hA0 := hA
 obtain ⟨r1, r2, r3, r4⟩ := qT hr
 have hl : ∀ i, len2 A i ≤ 140737488355328 := fun i => by have := zN4 A i; omega
 obtain ⟨ada, ca, segs, sa, sc, rfl, hca, hca2, RA, hsf, hrf⟩ := hA.fn
 have G := Grow.rfl' w
 refine zA7 Tryz.func14 Tryz.ntmps14 Tryz.results14 rfl rfl ?_
 refine qZ 2 ?_
 refine stp ?_
 refine qC ?_
 intro b1 w2 hb3 hc4 g5
 have hge6 := Nat.le_trans G.size hb3
 replace G := G.tr g5
 clear g5 hb3
 refine stp (zA9 ?_)
 intro b7 w8 hb9 hc10 g11
 refine qZ 6 ?_
 have hge12 := Nat.le_trans G.size hb9
 have ne13 := qN hc4 hb9
 replace hc4 := g11.heap hc4
 replace G := G.tr g11
 clear g11 hb9
 refine stp (zA4 (v := .bool true) rfl (zJ9 (qM1 _ (hA0.grow G) (by omega)) (y := .bool true) (by rw [hr])) ?_)
 intro w14 g15
 replace hc4 := g15.heap hc4
 replace hc10 := g15.heap hc10
 replace G := G.tr g15
 clear g15
 refine stp (qT8 rfl rfl ?_)
 refine zA6 ?_
 refine zL1 rfl ?_
 refine qZ 4 ?_
 refine stp (zA8 (v := .agg #[.slice ada A.length ca, .bool false, .slice none 0 0]) (fun w => by kernel_rfl) ?_)
 refine qZ 2 ?_
 refine stp (zA4 (v := .tuple #[.agg #[.int .i64 ((zE5 (zB8 A) steps a cost).1.kind), .int .i64 ((zE5 (zB8 A) steps a cost).1.size), .int .i64 ((zE5 (zB8 A) steps a cost).1.words), .int .i64 ((zE5 (zB8 A) steps a cost).1.kids), .int .u64 ((zE5 (zB8 A) steps a cost).1.word)], .int .i64 ((zE5 (zB8 A) steps a cost).2)]) rfl (qT2 _ (yE4 (uh := .slice none 0 0) (hA0.grow G) (by omega) hx hl) (R.grow G) ha hc) ?_)
 intro w16 g17
 replace hc4 := g17.heap hc4
 replace hc10 := g17.heap hc10
 replace G := G.tr g17
 clear g17
 refine qZ 3 ?_
 refine stp (zA9 ?_)
 intro b18 w19 hb20 hc21 g22
 refine stn (qS hc21 ?_)
 intro w23 hc24 u25
 have g26 := g22.upd u25 hb20
 have hge27 := Nat.le_trans G.size hb20
 have ne28 := qN hc4 hb20
 have ne29 := qN hc10 hb20
 replace hc4 := g26.heap hc4
 replace hc10 := g26.heap hc10
 replace G := G.tr g26
 clear u25 g22 hb20 hc21
 refine qZ 6 ?_
 refine stn (qS hc10 ?_)
 intro w30 hc31 u32
 replace hc4 := u32.heap hc4 ne13
 replace hc24 := u32.heap hc24 ne29.symm
 replace G := G.upd u32 hge12
 clear u32 hc10
 refine qZ 3 ?_
 refine ret2 (zA5 rfl hc31 (by rfl)) (zA1 (v := .int .i64 ((zE5 (zB8 A) steps a cost).2)) rfl) ⟨?_, G⟩
 rfl
end Go.Proofs.YtkkbbhpbcfcplaaGreat.K
namespace Go.Proofs.YtkkbbhpbcfcplaaGreat.K
open Go Go.RowKit
def own1 (w b : List Int) : Nat := 1 + w.length + b.length
/-! ### the front of a path -/
theorem qX8 (A : List (List Int)) : ∀ (xs ys : List Int) (l : List Spn) (o : Ob), goT A (xs ++ ys) l o = goT A ys (goT A xs l o).1 (goT A xs l o).2
  | [], ys, l, o => rfl
  | x :: xs, ys, l, o => by
    rw [List.cons_append, goT, goT]
    split
    · exact qX8 A xs ys _ _
    · exact qX8 A xs ys _ _
theorem zV5 (A : List (List Int)) (l : List Spn) (seg a : Int) : ∀ x ∈ l, x ∈ zJ3 A l seg a := fun x hx => by
  unfold zJ3; split
  · exact hx
  · exact List.mem_append_left _ hx
theorem qH9 (A : List (List Int)) (l : List Spn) (seg a : Int) : (∀ x ∈ l, x ∈ zF8 A l seg a) ∧ ∀ x ∈ zJ3 A l seg a, x ∈ zF8 A l seg a := by
  have h : ∀ x ∈ zJ3 A l seg a, x ∈ zF8 A l seg a := fun x hx => by
    unfold zF8
    split
    · exact hx
    · split
      · exact zV5 _ _ _ _ _ (zV5 _ _ _ _ _ hx)
      · exact zV5 _ _ _ _ _ hx
  exact ⟨fun x hx => h x (zV5 _ _ _ _ _ hx), h⟩
theorem qN5 (A : List (List Int)) : ∀ (ks : List Int) (l : List Spn) (o : Ob), ∀ x ∈ l, x ∈ (goT A ks l o).1
  | [], l, o, x, hx => hx
  | k :: ks, l, o, x, hx => by
    rw [goT]
    split
    · exact qN5 A ks _ _ x hx
    · exact qN5 A ks _ _ x ((qH9 A l _ _).1 x hx)
theorem yB6 (A : List (List Int)) (l : List Spn) (o : Ob) (k : Int) : ∀ x ∈ l, x ∈ endT A l o k := fun x hx => by
  unfold endT; split
  · exact hx
  · exact zV5 _ _ _ _ _ hx
theorem qX9 (A : List (List Int)) (ks : List Int) (n : Nat) (a : Int) : ∀ x ∈ zJ4 A (ks.take n) (-1), x ∈ zJ4 A ks a := fun x hx => by
  unfold zJ4 at hx ⊢
  have h1 : ∀ l o, endT A l o (-1) = l := fun l o => by unfold endT; rw [if_pos (.inl (by decide))]
  rw [h1] at hx
  refine yB6 _ _ _ _ _ ?_
  rw [show goT A ks = goT A (ks.take n ++ ks.drop n) from by rw [List.take_append_drop], qX8]
  exact qN5 _ _ _ _ _ hx
theorem qK7 {s : Src} (a : Int) : ∀ (xs ys : List Int) (o : Ob) (left : Int), (zU4 s a (xs ++ ys) o left).2 = 0 → (zU4 s (-1) xs o left).2 = 0
  | [], ys, o, left, _ => by rw [zU4, valS, if_pos (by decide)]
  | x :: xs, ys, o, left, h => by
    rw [List.cons_append, zU4] at h
    rw [zU4]
    by_cases g1 : (zE8 s o x).2 ≠ 0
    · rw [if_pos g1] at h; exact absurd h g1
    · rw [if_neg g1] at h ⊢
      by_cases g2 : left - (1 + zB9 (zE8 s o x).1) < 0
      · rw [if_pos g2] at h; simp at h
      · rw [if_neg g2] at h ⊢
        exact qK7 a xs ys _ _ h
theorem yF9 {s : Src} {ks : List Int} {a c : Int} (n : Nat) (h : (zE5 s ks a c).2 = 0) : (zE5 s (ks.take n) (-1) c).2 = 0 := by
  unfold zE5 at h ⊢
  by_cases h1 : ∃ k ∈ ks, k < 0
  · rw [if_pos h1] at h; simp at h
  · rw [if_neg h1] at h
    rw [if_neg (fun ⟨k, hk, hlt⟩ => h1 ⟨k, List.mem_of_mem_take hk, hlt⟩)]
    by_cases h2 : (ks.length : Int) > 32
    · rw [if_pos h2] at h; simp at h
    · rw [if_neg h2] at h
      rw [if_neg (by rw [List.length_take]; omega)]
      by_cases h3 : (zA0 s 0 0).2 ≠ 0
      · rw [if_pos h3] at h; exact absurd h h3
      · rw [if_neg h3] at h ⊢
        by_cases h4 : max c (-1) - (1 + zB9 (zA0 s 0 0).1) < 0
        · rw [if_pos h4] at h; simp at h
        · rw [if_neg h4] at h ⊢
          exact qK7 a (ks.take n) (ks.drop n) _ _ (by rw [List.take_append_drop]; exact h)
theorem qY0 {A : List (List Int)} (h : zD5 A = true) : zG5 (zB4 A) 0 0 = 0 := by
  have hf : zL6 (zB4 A) = true := by rw [zW7]; exact h
  unfold zD5 at h
  obtain ⟨h1, -, h3, -⟩ := qT h
  have hz := zH7 A 0
  have hl := zF3 A
  unfold zG5
  rw [if_pos ⟨hf, by decide, by omega, by decide, by rw [show (0 : Int).toNat = 0 from rfl, hz]; omega⟩]
  rfl
theorem qY1 {A : List (List Int)} (h : zD5 A = true) (ks : List Int) (a : Int) : ((0 : Int), (1 : Int)) ∈ zJ4 A ks a := by
  unfold zJ4
  refine yB6 _ _ _ _ _ (qN5 _ _ _ _ _ ((qH9 A [] 0 0).2 _ ?_))
  unfold zJ3
  rw [qY0 h, if_neg (by decide)]
  simp
theorem qY2 {A : List (List Int)} (h : zD5 A = true) (ks : List Int) (n : Nat) (a : Int) :
    (∀ m, inS (nrm (zJ4 A (ks.take n) (-1))) m → inS (nrm (zJ4 A ks a)) m) ∧ inS (nrm (zJ4 A ks a)) 0 ∧ zL7 (nrm (zJ4 A ks a)) := by
  refine ⟨fun m hm => ?_, ((qK5 _).pts 0).2 ⟨_, qY1 h ks a, by decide, by decide⟩, (qK5 _).right⟩
  obtain ⟨s, hs, h1, h2⟩ := ((qK5 _).pts m).1 hm
  exact ((qK5 _).pts m).2 ⟨s, qX9 A ks n a s hs, h1, h2⟩
end Go.Proofs.YtkkbbhpbcfcplaaGreat.K
namespace Go.Proofs.YtkkbbhpbcfcplaaGreat.K
open Go Go.RowKit Go.Proofs
attribute [local irreducible] Run1 OpG WL W AO zB3
theorem yG1 (w : World) {n cp : Nat} {ad : Option Addr} {xs : List Int} (R : RowAt w 1 ad n (xs.map (.int .u8))) (hn : n = xs.length) (hx : isU8 xs) (hcp : n ≤ cp) (hcp2 : cp ≤ maxLen) {ae : Option Addr} {cq : Nat} {ys : List Int} (R2 : RowAt w 1 ae ys.length (ys.map (.int .u8))) (hy : ∀ x ∈ ys, inR .u8 x) {k j : Int} (k0 : 0 ≤ k) (k1 : k ≤ 255) (j0 : 0 ≤ j) (j1 : j ≤ 255) : zB3 Tryz.prog 6 #[.slice ad n cp, .slice ae ys.length cq, .int .u8 k, .int .u8 j] w (.bool true) := by
 have hri := qG2 6 xs 32 (by decide) hx
 have hnd := qG3 6 xs hx
 have hn0 := Nd.needs_nn (zE6 6 xs).1
 have lR2 := R2.lim
 have G := Grow.rfl' w
 refine zA7 Tryz.func6 Tryz.ntmps6 Tryz.results6 rfl rfl ?_
 refine qZ 9 ?_
 refine stp (zN1 rfl rfl ?_)
 refine zA6 ?_
 refine zA2 (b := (decide ((n : Int) > 100))) rfl (fun h1 => ?_) (fun h1 => ?_)
 ·
  replace h1 := qT h1
  refine qZ 2 ?_
  refine stp (zA4 (v := .bool true) rfl (zT6 _) ?_)
  intro w1 g2
  replace G := G.tr g2
  clear g2
  refine qZ 3 ?_
  refine ret1 (zA1 (v := .bool true) rfl) ⟨?_, G⟩
  rfl
 ·
  replace h1 := qF h1
  have hnd2 : (zE6 6 xs).1.needs ≤ 1400 := by omega
  refine qZ 4 ?_
  refine stp ?_
  refine zD8 rfl (yE6 _ _ R G hn hx hcp hcp2 (d := 6) (by decide) (Nat.le_refl _)) ?_
  rintro v_ w3 ⟨cells_, ad9, n9, c9, rfl, hT_, -, -, -, -, g_⟩
  have hT := hT_.sees (Sees.seen _ _)
  clear hT_
  replace G := G.tr g_
  clear g_
  obtain ⟨x0, x1, xa, xn, xc, pa, pn, pc, qa, qn, qc, rfl⟩ := hT.cells
  refine qZ 3 ?_
  refine stp (zA9 ?_)
  intro b4 w5 hb6 hc7 g8
  refine stn (qS hc7 ?_)
  intro w9 hc10 u11
  have g12 := g8.upd u11 hb6
  have hge13 := Nat.le_trans G.size hb6
  replace hT := hT.grow g12
  replace G := G.tr g12
  clear u11 g8 hb6 hc7
  refine qZ 2 ?_
  have hu8 := hT.u8
  have hu64 := hT.u64
  obtain ⟨s9, hs9, hl9⟩ := Nd.build_one (size := 4096) hri (by omega) (by decide)
  have hsm9 := Nd.build_sml (zE6 6 xs).1 4096
  have hus := yL9 (t := (zE6 6 xs).1) 4096 hu64 hu8
  rw [hs9] at hsm9 hus
  replace hus : AllU [s9] := hus
  have hr9 : zD5 [s9] = true := yF6 (by omega) (by omega)
  refine qZ 3 ?_
  refine stp ?_
  have hcal := qD6 _ hT 4096
  rw [hs9] at hcal
  refine zD8 rfl hcal ?_
  rintro v_ w ⟨so9, segs9, rfl, hO9, g_⟩
  clear hcal
  replace hT := hT.grow g_
  replace hc10 := g_.heap hc10
  replace G := G.tr g_
  clear g_
  have hA := hO9.arena (by simp) hsm9.all
  clear hO9
  replace hA : zF2 w so9 [s9] := hA
  obtain ⟨ada, ca, segs, sa, sc, rfl, hca, hca2, RA, hsf, hrf⟩ := hA.fn
  have hs0 := hsf 0 (by simp)
  obtain ⟨hc01, hc02, Rs⟩ := hrf 0 (by simp)
  clear hrf hsf hca hca2
  generalize sa 0 = a9 at hs0 Rs
  generalize sc 0 = c9 at hs0 hc01 hc02
  have hln : len2 [s9] 0 = s9.length := rfl
  rw [hln] at hs0 hc01 Rs
  replace Rs : RowAt w 1 a9 s9.length (zL4 s9) := Rs
  replace RA : RowAt w 1 ada 1 segs := RA
  replace hA : zF2 w (.slice ada 1 ca) [s9] := hA
  replace R2 := R2.grow G
  have G0 := G
  replace G : Grow w w := Grow.rfl' _
  refine qZ 10 ?_
  refine stp (qT6 rfl rfl (by omega) ?_)
  refine zA6 ?_
  refine zL1 rfl ?_
  refine qZ 11 ?_
  have own00 := World.ownsRow_nil w w.heap.size 3 1
  refine zE7 (fun m_ e_ w_ => ∃ (k_ : Nat) (ad3 : Option Addr) (n3 : Nat) (c3 : Nat), m_ = 5 - k_ ∧ Fr [(1, .slice ae ys.length cq), (2, .int .u8 k), (3, .int .u8 j), (8, .bool false), (11, .slice ada 1 ca), (13, .slice ad3 n3 c3), (14, .int .i64 (k_ : Int))] e_ ∧ (k_ ≤ ys.length ∧ k_ ≤ 5) ∧ (w_.heap[b4]? = some (.cells #[.int .i64 x0, .int .i64 x1, .slice xa xn xc, .slice pa pn pc, .slice qa qn qc] 48 (0, 0))) ∧ (w_.ownsRow w.heap.size 3 1 (.slice ad3 n3 c3) k_ (((ys.take k_).map (· % 5)).map (.int .i64))) ∧ Grow w w_) _ ⟨0, none, 0, 0, rfl, zC7 ⟨rfl, rfl, rfl, rfl, rfl, rfl, rfl, trivial⟩, by omega, hc10, own00, G⟩ ?_
  clear hc10
  clear G
  rintro m_ e_ w14 ⟨k_, ad3, n3, c3, rfl, ⟨e15, rfl⟩, hk, hc10, own, G⟩
  refine qZ 6 ?_
  refine stp (zF0 rfl rfl ?_)
  refine qZ 1 ?_
  refine qG 1 ?_
  refine zA3 (zB0 (s := .bool _) (v := .bool (decide ((k_ : Int) < 5))) rfl (zE2 _) (fun hc17 => ?_) ?_)
  ·
   have hc17_ := qT hc17
   refine zF0 (gvt hc17) rfl ?_
   exact ⟨rfl, rfl⟩
  refine stp (zG1 rfl rfl rfl ?_)
  refine zA6 ?_
  refine zA2 (b := ((decide ((k_ : Int) < (ys.length : Int))) && (decide ((k_ : Int) < 5)))) rfl (fun hlt => ?_) (fun hlt => ?_)
  ·
   simp only [sb] at hlt
   have hi : k_ < ys.length ∧ k_ < 5 := by omega
   have hy1 := hy _ (qA5 hi.1)
   simp only [inR] at hy1
   have hlo := yJ3 own
   refine qZ 7 ?_
   refine stp (zD7 (R2.grow G) rfl rfl ?_ ?_); omega
   refine stp (zD4 (v := .int .u8 (ys.getD k_ 0)) (m := 0) (R2.grow G) rfl (zH8 0 (by omega)) ?_)
   refine stp (qB5 rfl rfl ?_ ?_ ?_); omega; omega
   refine stp (zH2 rfl ?_ ?_); constructor <;> omega
   refine stp (zC4 (cs := #[.int .i64 ((ys.getD k_ 0) % 5)]) (el := 3) (fun w => by kernel_rfl) ?_)
   intro bs18 w19 hb20 hc21 g22
   have hge23 := Nat.le_trans G.size hb20
   have ne24 := qN hc10 hb20
   replace hc10 := g22.heap hc10
   replace own := zC0 own g22
   replace G := G.tr g22
   clear g22
   refine stp (zG2 rfl rfl rfl rfl own (Row.of_block (n := 1) hc21 rfl rfl (by omega)) (fun q_ hq_ => by simp at hq_; subst hq_; rfl) (by simp only [maxLen]; omega) (by omega) G.size ?_)
   intro v25 w26 own6 gr6
   replace G := G.grown gr6 (zI3 own)
   replace hc10 := zI2 gr6 hc10 (zF1 own hc10 (by decide))
   clear own gr6
   obtain ⟨ad4, n4, c4, rfl⟩ := zE0 own6
   refine qZ 4 ?_
   refine stp (zB6 rfl rfl ?_ ?_); constructor <;> omega
   refine qZ 2 ?_
   refine ⟨_, ?_, k_ + 1, ad4, n4, c4, rfl, zC7 ⟨rfl, rfl, rfl, rfl, rfl, rfl, congrArg (Value.int .i64) (by omega), trivial⟩, by omega, hc10, (by rw [yN2 hi.1] at own6; exact own6), G⟩
   omega
  ·
   simp only [sb] at hlt
   obtain ⟨SS, hSS⟩ : ∃ S_, S_ = (ys.take k_).map (· % 5) := ⟨_, rfl⟩
   rw [← hSS] at own
   have hlS : SS.length = k_ := by rw [hSS, List.length_map, List.length_take]; omega
   have hlo := yJ3 own
   subst hlo
   obtain ⟨_, _, hs8, hq1, hm1, RS⟩ := zI1 own (by omega)
   cases hs8
   clear own hSS
   subst hlS
   obtain ⟨m, hm⟩ : ∃ m : Nat, (m : Int) = k % ((SS.length : Int) + 1) := ⟨(k % ((SS.length : Int) + 1)).toNat, by have := Int.emod_nonneg k (show ((SS.length : Int) + 1) ≠ 0 by omega); omega⟩
   have hmS : m ≤ SS.length := by have := Int.emod_lt_of_pos k (show (0 : Int) < (SS.length : Int) + 1 by omega); omega
   obtain ⟨TT, hTT⟩ : ∃ T_, T_ = SS.take m := ⟨_, rfl⟩
   have hlT : TT.length = m := by rw [hTT, List.length_take]; omega
   obtain ⟨hsub, h0in, hRS⟩ := qY2 hr9 SS m (j - 1)
   have hrg1 := yM4 hr9 SS (j - 1)
   have hto := (qH0 hr9 SS (j - 1)).2
   have hnl1 := yM3 (zJ4 [s9] SS (j - 1))
   have hrg2 := yM4 hr9 TT (-1)
   have hfr := yF9 (s := zB8 [s9]) (ks := SS) (a := j - 1) (c := 8192) m
   rw [← hTT] at hsub hfr
   obtain ⟨V1, hV1⟩ : ∃ V_, V_ = zE5 (zB8 [s9]) SS (j - 1) 8192 := ⟨_, rfl⟩
   obtain ⟨L1, hL1⟩ : ∃ L_, L_ = nrm (zJ4 [s9] SS (j - 1)) := ⟨_, rfl⟩
   obtain ⟨V2, hV2⟩ : ∃ V_, V_ = zE5 (zB8 [s9]) TT (-1) 8192 := ⟨_, rfl⟩
   obtain ⟨L2, hL2⟩ : ∃ L_, L_ = nrm (zJ4 [s9] TT (-1)) := ⟨_, rfl⟩
   rw [← hL1] at hsub h0in hRS hrg1 hnl1
   rw [← hL2] at hsub hrg2
   rw [← hV1, ← hV2] at hfr
   have hfl : ([s9] : List (List Int)).flatten.length = s9.length := by simp
   rw [hfl] at hrg1 hrg2
   refine qZ 6 ?_
   refine stp (zH2 rfl ?_ ?_); constructor <;> omega
   refine stp (zL9 rfl rfl ?_ ?_); constructor <;> omega
   refine stp (zA8 (v := .agg #[.slice ad3 SS.length c3, .int .i64 (j - 1)]) (fun w => by kernel_rfl) ?_)
   refine stp ?_
   have hcal := zR2 _ (hA.grow G) hr9 hus (ks := SS) (a := (j - 1)) (c := c3) RS (by simp only [inR]; omega)
   rw [← hV1, ← hL1] at hcal
   refine zD8 rfl hcal ?_
   rintro v_ w27 ⟨adt1, nt1, ct1, rfl, ht1, hu1, g_⟩
   clear hcal
   replace hc10 := g_.heap hc10
   replace RS := RS.grow g_
   replace G := G.tr g_
   clear g_
   have hN1 := fun h_ => (ht1 h_).1
   have hR1 := fun h_ => (ht1 h_).2.2.2
   have hC1 := fun h_ => And.intro (ht1 h_).2.1 (ht1 h_).2.2.1
   clear ht1
   refine qZ 11 ?_
   refine stp (zH2 rfl ?_ ?_); constructor <;> omega
   refine qZ 2 ?_
   refine stp (zB6 rfl rfl ?_ ?_); constructor <;> omega
   refine stp ?_
   refine qB5 rfl rfl ?_ ?_ ?_; omega; omega
   rw [← hm]
   refine stp (qE5 rfl rfl (by omega) (by omega) ?_)
   have RT := RS.sliceH (c := c3) (m := m) hq1 hmS (by decide)
   rw [show m * 1 = m from Nat.mul_one _, ← List.map_take, ← hTT, ← hlT] at RT
   rw [Int.toNat_natCast, ← hlT]
   generalize (if c3 = 0 then ad3 else ad3.map (·.add (0 * 1))) = adT at RT ⊢
   refine stp (zA8 (v := .agg #[.slice adT TT.length c3, .int .i64 (-1)]) (fun w => by kernel_rfl) ?_)
   refine stp ?_
   have hcal := zR2 _ (hA.grow G) hr9 hus (ks := TT) (a := (-1)) (c := c3) RT (by simp [inR])
   rw [← hV2, ← hL2] at hcal
   refine zD8 rfl hcal ?_
   rintro v_ w28 ⟨adt2, nt2, ct2, rfl, ht2, hu2, g_⟩
   clear hcal
   replace hc10 := g_.heap hc10
   replace RS := RS.grow g_
   replace hR1 := fun h_ => (hR1 h_).grow g_
   replace RT := RT.grow g_
   replace G := G.tr g_
   clear g_
   have hN2 := fun h_ => (ht2 h_).1
   have hR2 := fun h_ => (ht2 h_).2.2.2
   have hC2 := fun h_ => And.intro (ht2 h_).2.1 (ht2 h_).2.2.1
   clear ht2
   refine qZ 10 ?_
   refine stp (zG4 rfl rfl ?_)
   refine zA6 ?_
   refine zA2 (b := (decide (V1.2 ≠ 0))) rfl (fun h3 => ?_) (fun h3 => ?_)
   ·
    replace h3 := qT h3
    have hnt : nt1 = 0 := hu1 h3
    subst hnt
    refine qZ 2 ?_
    refine stp (zA4 (v := .bool true) rfl (zT6 _) ?_)
    intro w29 g30
    replace hc10 := g30.heap hc10
    replace RS := RS.grow g30
    replace hR1 := fun h_ => (hR1 h_).grow g30
    replace RT := RT.grow g30
    replace hR2 := fun h_ => (hR2 h_).grow g30
    replace G := G.tr g30
    clear g30
    refine qZ 3 ?_
    refine stp (zS7 rfl rfl (rfl) ?_)
    refine stp (zJ0 (v := .bool true) rfl rfl rfl ?_)
    refine qZ 3 ?_
    refine ret1 (zA1 (v := .bool true) rfl) ⟨?_, G0.tr G⟩
    rfl
   ·
    replace h3 := qF h3
    have hz1 : V1.2 = 0 := by omega
    have hz2 := hfr hz1
    have hn1 := hN1 hz1
    have hn2 := hN2 hz2
    subst hn1 hn2
    obtain ⟨hc11, hc12⟩ := hC1 hz1
    clear hC1 hC2
    replace hR1 := hR1 hz1
    replace hR2 := hR2 hz2
    clear hN1 hN2 hu1 hu2 hfr
    have ll1 := hR1.lim
    have ll2 := hR2.lim
    have hl1 : 1 ≤ L1.length := by rcases L1 with _ | ⟨_, _⟩; exact absurd h0in (qM5 0); simp
    have hlast : (gS L1 (L1.length - 1)).2 ≤ (s9.length : Int) := by rw [zM1 (by omega)]; exact (hrg1 _ (List.getElem_mem _)).2
    have hg2 : ∀ i, i < L2.length → 0 ≤ (gS L2 i).1 ∧ (gS L2 i).2 ≤ (s9.length : Int) := fun i hi => by rw [zM1 hi]; exact hrg2 _ (List.getElem_mem hi)
    have hin2 : ∀ i (q : Int), i < L2.length → (gS L2 i).1 ≤ q → q < (gS L2 i).2 → hasP L1 q = true := fun i q hi h1_ h2_ => qF2.2 (hsub q ⟨L2[i], List.getElem_mem hi, by rw [← zM1 hi]; exact h1_, by rw [← zM1 hi]; exact h2_⟩)
    clear hrg1 hrg2 hsub
    refine qZ 7 ?_
    refine zE7 (fun m_ e_ w_ => ∃ (i : Nat), m_ = L2.length - i ∧ Fr [(3, .int .u8 j), (11, .slice ada 1 ca), (13, .slice ad3 SS.length c3), (15, .slice adt1 L1.length ct1), (17, .slice adt2 L2.length ct2), (18, .int .u16 V2.2), (19, .int .i64 (i : Int))] e_ ∧ (i ≤ L2.length) ∧ (w_.heap[b4]? = some (.cells #[.int .i64 x0, .int .i64 x1, .slice xa xn xc, .slice pa pn pc, .slice qa qn qc] 48 (0, 0))) ∧ (RowAt w_ 1 ad3 SS.length (SS.map (.int .i64))) ∧ (RowAt w_ 2 adt1 L1.length (encL L1)) ∧ (RowAt w_ 2 adt2 L2.length (encL L2)) ∧ Grow w w_) _ ⟨0, rfl, zC7 ⟨rfl, rfl, rfl, rfl, rfl, rfl, rfl, trivial⟩, by omega, hc10, RS, hR1, hR2, G⟩ ?_
    clear hc10 RS RT hR1 hR2
    clear G
    rintro m_ e_ w31 ⟨i, rfl, ⟨e32, rfl⟩, hi9, hc10, RS, hR1, hR2, G⟩
    refine qZ 6 ?_
    refine stp (zF0 rfl rfl ?_)
    refine zA6 ?_
    refine zA2 (b := (decide ((i : Int) < (L2.length : Int)))) rfl (fun hlt2 => ?_) (fun hlt2 => ?_)
    ·
     replace hlt2 := qT hlt2
     have hi2 : i < L2.length := by omega
     obtain ⟨hga, hgb⟩ := hg2 i hi2
     refine qZ 7 ?_
     refine stp (zD7 hR2 rfl rfl ?_ ?_); omega
     refine stp (zK0 rfl ?_)
     refine stp (zD4 (v := .int .i64 ((gS L2 i).1)) (m := 0) hR2 rfl (qM6 hR2 (by omega)) ?_)
     refine qZ 3 ?_
     refine zE7 (fun m_ e_ w_ => ∃ (q : Int), m_ = ((gS L2 i).2 - q).toNat ∧ Fr [(3, .int .u8 j), (11, .slice ada 1 ca), (13, .slice ad3 SS.length c3), (15, .slice adt1 L1.length ct1), (17, .slice adt2 L2.length ct2), (18, .int .u16 V2.2), (19, .int .i64 (i : Int)), (20, .int .i64 q)] e_ ∧ ((gS L2 i).1 ≤ q) ∧ (w_.heap[b4]? = some (.cells #[.int .i64 x0, .int .i64 x1, .slice xa xn xc, .slice pa pn pc, .slice qa qn qc] 48 (0, 0))) ∧ (RowAt w_ 1 ad3 SS.length (SS.map (.int .i64))) ∧ (RowAt w_ 2 adt1 L1.length (encL L1)) ∧ (RowAt w_ 2 adt2 L2.length (encL L2)) ∧ Grow w w_) _ ⟨(gS L2 i).1, rfl, zC7 ⟨rfl, rfl, rfl, rfl, rfl, rfl, rfl, rfl, trivial⟩, by omega, hc10, RS, hR1, hR2, G⟩ ?_
     clear hc10 RS hR1 hR2
     clear G
     rintro m_ e_ w33 ⟨q, rfl, ⟨e34, rfl⟩, hq0, hc10, RS, hR1, hR2, G⟩
     refine qZ 6 ?_
     refine stp (zD7 hR2 rfl rfl ?_ ?_); omega
     refine stp (zK0 rfl ?_)
     refine stp (zD4 (v := .int .i64 ((gS L2 i).2)) (m := 0) hR2 rfl (qG9 hR2 (by omega)) ?_)
     refine stp (zF0 rfl rfl ?_)
     refine zA6 ?_
     refine zA2 (b := (decide (q < ((gS L2 i).2)))) rfl (fun hlt3 => ?_) (fun hlt3 => ?_)
     ·
      replace hlt3 := qT hlt3
      refine qZ 7 ?_
      refine stp (zA4 (v := .bool true) rfl (zJ9 (qH7 _ hR1) (y := .bool true) (by rw [hin2 i q hi2 (by omega) (by omega)])) ?_)
      intro w35 g36
      replace hc10 := g36.heap hc10
      replace RS := RS.grow g36
      replace hR1 := hR1.grow g36
      replace hR2 := hR2.grow g36
      replace G := G.tr g36
      clear g36
      refine stp (qT8 rfl rfl ?_)
      refine zA6 ?_
      refine zL1 rfl ?_
      refine qZ 3 ?_
      refine stp (zB6 rfl rfl ?_ ?_); constructor <;> omega
      refine qZ 2 ?_
      refine ⟨_, ?_, q + 1, rfl, zC7 ⟨rfl, rfl, rfl, rfl, rfl, rfl, rfl, rfl, trivial⟩, by omega, hc10, RS, hR1, hR2, G⟩
      omega
     ·
      replace hlt3 := qF hlt3
      refine qZ 3 ?_
      refine stp (zB6 rfl rfl ?_ ?_); constructor <;> omega
      refine qZ 2 ?_
      refine ⟨_, ?_, i + 1, rfl, zC7 ⟨rfl, rfl, rfl, rfl, rfl, rfl, congrArg (Value.int .i64) (by omega), trivial⟩, by omega, hc10, RS, hR1, hR2, G⟩
      omega
    ·
     replace hlt2 := qF hlt2
     refine qZ 6 ?_
     refine stp (zH2 rfl ?_ ?_); constructor <;> omega
     refine stp (zL9 rfl rfl ?_ ?_); constructor <;> omega
     refine stp (zA8 (v := .agg #[.slice ad3 SS.length c3, .int .i64 (j - 1)]) (fun w => by kernel_rfl) ?_)
     refine stp (zA4 (v := .tuple #[.agg #[.int .i64 V1.1.kind, .int .i64 V1.1.size, .int .i64 V1.1.words, .int .i64 V1.1.kids, .int .u64 V1.1.word], .int .i64 V1.2]) rfl (zJ9 (yF8 _ (hA.grow G) hr9 hus RS (a := j - 1) (by simp only [inR]; omega) (by decide)) (y := .tuple #[.agg #[.int .i64 V1.1.kind, .int .i64 V1.1.size, .int .i64 V1.1.words, .int .i64 V1.1.kids, .int .u64 V1.1.word], .int .i64 V1.2]) (by rw [← hV1])) ?_)
     intro w37 g38
     replace hc10 := g38.heap hc10
     replace RS := RS.grow g38
     replace hR1 := hR1.grow g38
     replace hR2 := hR2.grow g38
     replace G := G.tr g38
     clear g38
     refine qZ 3 ?_
     refine stp (zA9 ?_)
     intro b39 w40 hb41 hc42 g43
     refine stn (qS hc42 ?_)
     intro w44 hc45 u46
     have g47 := g43.upd u46 hb41
     have hge48 := Nat.le_trans G.size hb41
     have ne49 := qN hc10 hb41
     replace hc10 := g47.heap hc10
     replace RS := RS.grow g47
     replace hR1 := hR1.grow g47
     replace hR2 := hR2.grow g47
     replace G := G.tr g47
     clear u46 g43 hb41 hc42
     refine qZ 3 ?_
     refine zO1 32 [[], [0], [1, 0], [2, 1, 0], [3, 2, 1, 0], [4, 3, 2, 1, 0], [5, 4, 3, 2, 1, 0], [6, 5, 4, 3, 2, 1, 0], [7, 6, 5, 4, 3, 2, 1, 0], [8, 7, 6, 5, 4, 3, 2, 1, 0], [9, 8, 7, 6, 5, 4, 3, 2, 1, 0], [10, 9, 8, 7, 6, 5, 4, 3, 2, 1, 0], [11, 10, 9, 8, 7, 6, 5, 4, 3, 2, 1, 0], [12, 11, 10, 9, 8, 7, 6, 5, 4, 3, 2, 1, 0], [13, 12, 11, 10, 9, 8, 7, 6, 5, 4, 3, 2, 1, 0], [14, 13, 12, 11, 10, 9, 8, 7, 6, 5, 4, 3, 2, 1, 0], [15, 14, 13, 12, 11, 10, 9, 8, 7, 6, 5, 4, 3, 2, 1, 0], [16, 15, 14, 13, 12, 11, 10, 9, 8, 7, 6, 5, 4, 3, 2, 1, 0], [17, 16, 15, 14, 13, 12, 11, 10, 9, 8, 7, 6, 5, 4, 3, 2, 1, 0], [18, 17, 16, 15, 14, 13, 12, 11, 10, 9, 8, 7, 6, 5, 4, 3, 2, 1], [19, 18, 17, 16, 15, 14, 13, 12, 11, 10, 9, 8, 7, 6, 5, 4, 3, 2, 0], [20, 19, 18, 17, 16, 15, 14, 13, 12, 11, 10, 9, 8, 7, 6, 5, 4, 3, 1, 0], [21, 20, 19, 18, 17, 16, 15, 14, 13, 12, 11, 10, 9, 8, 7, 6, 5, 4, 3, 2, 1, 0], [22, 21, 20, 19, 18, 17, 16, 15, 14, 13, 12, 11, 10, 9, 8, 7, 6, 5, 4, 3, 2, 1, 0], [23, 22, 21, 20, 19, 18, 17, 16, 15, 14, 13, 12, 11, 10, 9, 8, 7, 6, 5, 4, 3, 2, 1, 0], [24, 23, 22, 21, 20, 19, 18, 17, 16, 15, 14, 13, 12, 11, 10, 9, 8, 7], [25, 24, 23, 22, 21, 20, 19, 18, 17, 16, 15, 14, 13, 12, 11, 10, 9, 8, 0], [26, 25, 24, 23, 22, 21, 20, 19, 18, 17, 16, 15, 14, 13, 12, 11, 10, 9, 1, 0], [27, 26, 25, 24, 23, 22, 21, 20, 19, 18, 17, 16, 15, 14, 13, 12, 11, 10, 2, 1, 0], [28, 27, 26, 25, 24, 23, 22, 21, 20, 19, 18, 17, 16, 15, 14, 13, 12, 11, 10, 9, 8, 7, 6, 5, 4, 3, 2, 1, 0], [29, 28, 27, 26, 25, 24, 23, 22, 21, 20, 19, 18, 17, 16, 15, 14, 13, 12, 11, 10, 9, 8, 7, 6, 5, 4, 3, 2, 1, 0], [30, 29, 28, 27, 26, 25, 24, 23, 22, 21, 20, 19, 18, 17, 16, 15, 14, 13, 12, 11, 10, 9, 8, 7, 6, 5, 4, 3, 2, 1, 0]] mixed (by kernel_rfl) (by kernel_rfl) (by kernel_rfl) ?_
     intro w50 g51
     replace hc10 := g51.heap hc10
     replace RS := RS.grow g51
     replace hR1 := hR1.grow g51
     replace hR2 := hR2.grow g51
     replace hc45 := g51.heap hc45
     replace G := G.tr g51
     clear g51
     apply zB5
     ·intro w_ g_; refine og rfl ?_; exact zA4 (v := .bool true) rfl (zT6 _) (fun w2_ g2_ => ⟨g2_, rfl⟩)
     refine qA 2 ?_
     apply zB5
     ·intro w_ g_; exact og rfl (zS7 rfl rfl (hz2) qX)
     apply zB5
     ·intro w_ g_; exact og rfl (zJ0 (v := .bool true) rfl rfl rfl qX)
     refine qA 2 ?_
     apply zB5
     ·intro w_ g_; exact og rfl (zS7 rfl rfl (hz1) qX)
     apply zB5
     ·intro w_ g_; exact og rfl (zJ0 (v := .bool true) rfl rfl rfl qX)
     refine qA 2 ?_
     apply zB5
     ·intro w_ g_; refine og rfl ?_; exact zA4 (v := .bool true) rfl (zJ9 (qH7 _ (hR1.grow g_)) (y := .bool true) (by rw [qF2.2 h0in])) (fun w2_ g2_ => ⟨g2_, rfl⟩)
     apply zB5
     ·intro w_ g_; exact og rfl (zJ0 (v := .bool true) rfl rfl rfl qX)
     refine qA 2 ?_
     apply zB5
     ·intro w_ g_; refine og rfl ?_; exact zA4 (v := .bool true) rfl (zJ9 (qS9 _ hc11 hc12 (hR1.grow g_) (by omega)) (y := .bool true) (by rw [qS8 hRS])) (fun w2_ g2_ => ⟨g2_, rfl⟩)
     apply zB5
     ·intro w_ g_; exact og rfl (zJ0 (v := .bool true) rfl rfl rfl qX)
     refine qA 4 ?_
     apply zB5
     ·intro w_ g_; refine og rfl ?_; refine zL9 rfl rfl ?_ ?_; constructor <;> omega; exact qX
     apply zB5
     ·intro w_ g_; refine og rfl ?_; refine zG7 (hR1.grow g_) rfl rfl ?_ ?_ ?_; omega; omega; exact qX
     apply zB5
     ·intro w_ g_; exact og rfl (zK0 rfl qX)
     apply zB5
     ·intro w_ g_; refine og rfl ?_; refine zD4 (v := .int .i64 ((gS L1 (L1.length - 1)).2)) (m := 0) (hR1.grow g_) rfl (by rw [show ((L1.length : Int) - 1).toNat = L1.length - 1 from by omega]; exact qG9 hR1 (by omega)) ?_; exact qX
     refine qA 1 ?_
     apply zB5
     ·intro w_ g_; refine og rfl ?_; refine zG7 (RA.grow (G.tr g_)) rfl rfl ?_ ?_ ?_; omega; omega; exact qX
     apply zB5
     ·intro w_ g_; refine og rfl ?_; refine zD4 (v := .slice a9 s9.length c9) (m := 0) (RA.grow (G.tr g_)) rfl (by first | exact hs0 | (rw [Nat.mul_one]; exact hs0)) ?_; exact qX
     refine qA 1 ?_
     apply zB5
     ·intro w_ g_; exact og rfl (yH2 rfl rfl (hlast) qX)
     apply zB5
     ·intro w_ g_; exact og rfl (zJ0 (v := .bool true) rfl rfl rfl qX)
     refine qA 1 ?_
     refine zI9 ?_
     intro w52 g53
     replace hc10 := g53.heap hc10
     replace RS := RS.grow g53
     replace hR1 := hR1.grow g53
     replace hR2 := hR2.grow g53
     replace hc45 := g53.heap hc45
     replace G := G.tr g53
     clear g53
     refine qZ 2 ?_
     refine ret1 (zA1 (v := .bool true) rfl) ⟨?_, G0.tr G⟩
     rfl
end Go.Proofs.YtkkbbhpbcfcplaaGreat.K
namespace Go.Proofs.YtkkbbhpbcfcplaaGreat.K
open Go Go.RowKit Go.ChangeShapes Go.WideShapes
section
variable {H : Type} {enc : TypeId × Value → H} {P : Program} {w : World}
structure Told (enc : TypeId × Value → H) (P : Program) (w : World) (fuel : Nat) (t : TypeId) (cs : List Value) : Prop where
  h : ∃ d p, DataW.trod enc P w 0 (fun _ => true) true fuel t cs = some (d, p) ∧ ∀ n ∈ d.weights P t, n ≤ reachBytes
theorem jA5 {ts : List TypeId} {ds : List (DataW H)} {j : Nat} {t : TypeId} {d : DataW H} {v : Value} {p : List MemPlace} (h : DataW.Trod enc P w 0 (fun _ => true) true t v d p) (hz : (DataW.weightsEach P ts ds).all (· ≤ reachBytes) = true) (ht : ts[j]? = some t) (hd : ds[j]? = some d) : ∃ fuel, Told enc P w fuel t v.cells.toList := by
  obtain ⟨fuel, hf⟩ := h
  exact ⟨fuel, ⟨d, p, hf, fun n hn => by simpa using List.all_eq_true.1 hz n (DataW.weights_mem_each ht hd n hn)⟩⟩
theorem yN6 {α β : Type} {f : α → Option β} : ∀ {l : List α} {r : List β}, l.mapM f = some r → ∀ (i : Nat) (x : α), l[i]? = some x → ∃ y, f x = some y ∧ r[i]? = some y := by
  intro l r h i x hx
  have h1 := mapM_some_get h i x hx
  have hl := mapM_some_length h
  have hi : i < r.length := by rw [hl]; exact (List.getElem?_eq_some_iff.1 hx).1
  rw [List.getElem?_eq_getElem hi] at h1
  exact ⟨_, h1, List.getElem?_eq_getElem hi⟩
theorem zX3 {e : TypeId} : ∀ {ds : List (DataW H)} {i : Nat} {d : DataW H}, ds[i]? = some d → ∀ n ∈ d.weights P e, n ∈ DataW.weightsAll P e ds
  | [], i, d, h, _, _ => by simp at h
  | x :: ds, 0, d, h, n, hn => by
    simp only [List.getElem?_cons_zero, Option.some.injEq] at h
    subst h
    simp only [DataW.weightsAll, List.mem_append]; exact .inl hn
  | x :: ds, i + 1, d, h, n, hn => by
    simp only [DataW.weightsAll, List.mem_append]; exact .inr (zX3 (by simpa using h) n hn)
theorem yG0 {t e : TypeId} {sz by_ fuel : Nat} {cs : List Value} (ht : P.underlying t = some (.slice e)) (hc : P.cellsOf e = sz) (hsz : 0 < sz) (hby : P.bytesOf e = by_) (hby1 : 1 ≤ by_) (h : Told enc P w fuel t cs) :
    ∃ f ad n c xs, fuel = f + 1 ∧ cs = [.slice ad n c] ∧ n ≤ c ∧ c ≤ maxLen ∧ RowAt w sz ad n xs ∧ ∀ i, i < n → Told enc P w f e ((xs.drop (i * sz)).take sz) := by
  obtain ⟨d, p, hd, hw⟩ := h
  rcases DataW.trod_slice ht hd with ⟨rfl, hx⟩ | ⟨a, len, cap, elems, rest, n, rfl, rfl, hx, _, hl, hm, hlen, hel, _, _⟩
  · cases fuel with
    | zero => simp [DataW.trod] at hd
    | succ f => exact ⟨f, none, 0, 0, [], rfl, rfl, Nat.le_refl _, Nat.zero_le _, RowAt.empty _ _ _, fun i hi => by omega⟩
  · simp only [Prod.mk.injEq] at hx
    obtain ⟨rfl, _⟩ := hx
    have hwt : ∀ n ∈ DataW.weightsAll P e (elems.map (·.1)), n ≤ reachBytes := fun n hn => hw n (by simp only [DataW.weights, ht, List.mem_cons, List.mem_append]; exact .inr (.inl hn))
    have hlim : len * by_ ≤ reachBytes := by
      have := hw (((elems.map (·.1)).length + (rest.map (·.1)).length) * P.bytesOf e) (by simp only [DataW.weights, ht, List.mem_cons, true_or])
      rw [hby, List.length_map, hlen, List.length_map, Nat.add_mul] at this
      omega
    have hlen2 : len ≤ 140737488355328 := by
      have h1 : len * 1 ≤ len * by_ := Nat.mul_le_mul_left _ hby1
      have h2 : reachBytes ≤ 140737488355328 := by decide
      omega
    -- each element
    have each : ∀ i, i < len → ∃ ys x, w.cells? 0 (a.add (i * sz)) sz = some ys ∧ DataW.trod enc P w 0 (fun _ => true) true n e ys = some x ∧ elems[i]? = some x := by
      intro i hi
      have hh := hel i hi
      have hi2 : i < elems.length := by omega
      rw [List.getElem?_eq_getElem hi2, hc] at hh
      simp only [Option.bind_eq_some_iff] at hh
      obtain ⟨ys, h1, h2⟩ := hh
      exact ⟨ys, _, h1, h2, List.getElem?_eq_getElem hi2⟩
    rcases Nat.eq_zero_or_pos len with h0 | h0
    · subst h0
      exact ⟨n, some a, 0, cap, [], rfl, rfl, hl, hm, RowAt.empty _ _ _, fun i hi => by omega⟩
    · -- the block
      have cell : ∀ i j, i < len → j < sz → ∃ v, w.cell? ((a.add (i * sz)).add j) = some v := by
        intro i j hi hj
        obtain ⟨ys, x, h1, _, _⟩ := each i hi
        unfold World.cells? at h1
        rw [if_pos (Nat.zero_le _)] at h1
        obtain ⟨y, hy, _⟩ := yN6 h1 j j (by simp [hj])
        exact ⟨y, hy⟩
      obtain ⟨blk, off, spot⟩ := a
      obtain ⟨v0, hv0⟩ := cell 0 0 h0 hsz
      have hadd0 : ((⟨blk, off, spot⟩ : Addr).add (0 * sz)).add 0 = ⟨blk, off, spot⟩ := by simp [Addr.add]
      rw [hadd0] at hv0
      unfold World.cell? at hv0
      cases hb : w.heap[blk]? with
      | none => rw [hb] at hv0; cases hv0
      | some o =>
        rw [hb] at hv0
        cases o with
        | cells c T fr =>
          simp only at hv0
          have hspot : spot = none := by
            cases spot with
            | none => rfl
            | some _ => simp at hv0
          subst hspot
          have hcell : ∀ k, k < len * sz → ∃ v, c[off + k]? = some v := by
            intro k hk
            have hdm := Nat.div_add_mod k sz
            have h1 : k / sz < len := (Nat.div_lt_iff_lt_mul hsz).2 hk
            obtain ⟨v, hv⟩ := cell (k / sz) (k % sz) h1 (Nat.mod_lt _ hsz)
            rw [add_lit, add_lit, cell_of_row w blk _ c T fr hb] at hv
            refine ⟨v, ?_⟩
            have : off + k / sz * sz + k % sz = off + k := by rw [Nat.mul_comm]; omega
            rwa [this] at hv
          have hsize : off + len * sz ≤ c.size := by
            have hp : 0 < len * sz := Nat.mul_pos h0 hsz
            obtain ⟨v, hv⟩ := hcell (len * sz - 1) (by omega)
            have := (Array.getElem?_eq_some_iff.1 hv).1
            omega
          refine ⟨n, some ⟨blk, off, none⟩, len, cap, (c.toList.drop off).take (len * sz), rfl, rfl, hl, hm, ⟨by rw [List.length_take, List.length_drop, Array.length_toList]; omega, hlen2, fun _ => ⟨blk, off, c, T, fr, rfl, hb, rfl⟩⟩, fun i hi => ?_⟩
          obtain ⟨ys, x, h1, h2, h3⟩ := each i hi
          have hys : ys = (((c.toList.drop off).take (len * sz)).drop (i * sz)).take sz := by
            unfold World.cells? at h1
            rw [if_pos (Nat.zero_le _)] at h1
            have hl2 := mapM_some_length h1
            simp only [List.length_range] at hl2
            have hle : (i + 1) * sz ≤ len * sz := Nat.mul_le_mul_right _ hi
            rw [Nat.add_mul, Nat.one_mul] at hle
            apply List.ext_getElem?
            intro j
            by_cases hj : j < sz
            · obtain ⟨y, hy, hy2⟩ := yN6 h1 j j (by simp [hj])
              rw [add_lit, add_lit, cell_of_row w blk _ c T fr hb] at hy
              rw [hy2, List.getElem?_take, if_pos hj, List.getElem?_drop, List.getElem?_take, if_pos (by omega), List.getElem?_drop, Array.getElem?_toList, ← Nat.add_assoc, hy]
            · rw [List.getElem?_eq_none (by omega), List.getElem?_eq_none (by rw [List.length_take]; omega)]
          rw [← hys]
          exact ⟨⟨x.1, x.2, h2, fun m hm_ => hwt m (zX3 (i := i) (by rw [List.getElem?_map, h3]; rfl) m hm_)⟩⟩
        | _ => cases hv0
theorem yS5 {t : TypeId} {k : IntKind} {fuel : Nat} {cs : List Value} (ht : P.underlying t = some (.int k)) (h : Told enc P w fuel t cs) : ∃ n, cs = [.int k n] ∧ inR k n := by
  obtain ⟨d, p, hd, _⟩ := h
  obtain ⟨n, h1, _, hw⟩ := DataW.trod_int ht hd
  refine ⟨n, h1, ?_⟩
  cases k <;> simpa [Lit.wf, IntKind.min, IntKind.max, IntKind.bits, IntKind.signed, inR] using hw
theorem yX5 {α : Type} {sz n : Nat} {xs : List Value} {f : α → Value} (hl : xs.length = n) (h : ∀ i, i < n → ∃ a, (xs.drop (i * 1)).take 1 = [f a]) : ∃ l : List α, l.length = n ∧ xs = l.map f := by
  induction xs generalizing n with
  | nil => exact ⟨[], by simpa using hl, rfl⟩
  | cons x xs ih =>
    obtain ⟨a, ha⟩ := h 0 (by simp at hl; omega)
    simp at ha
    obtain ⟨l, h1, h2⟩ := ih (n := n - 1) (by simp at hl; omega) fun i hi => by
      obtain ⟨b, hb⟩ := h (i + 1) (by omega)
      exact ⟨b, by simpa using hb⟩
    exact ⟨a :: l, by simp at hl ⊢; omega, by simp [ha, h2]⟩
theorem yZ7 {t e : TypeId} {k : IntKind} {fuel by_ : Nat} {cs : List Value} (ht : P.underlying t = some (.slice e)) (he : P.underlying e = some (.int k)) (hc : P.cellsOf e = 1) (hby : P.bytesOf e = by_) (hby1 : 1 ≤ by_) (h : Told enc P w fuel t cs) :
    ∃ ad n c, ∃ zs : List Int, cs = [.slice ad n c] ∧ n = zs.length ∧ n ≤ c ∧ c ≤ maxLen ∧ RowAt w 1 ad n (zs.map (.int k)) ∧ ∀ z ∈ zs, inR k z := by
  obtain ⟨f, ad, n, c, xs, rfl, rfl, h1, h2, R, hel⟩ := yG0 ht hc (by omega) hby hby1 h
  obtain ⟨l, hl, rfl⟩ := yX5 (sz := 1) (f := fun a : { z : Int // inR k z } => Value.int k a.1) (by rw [R.len, Nat.mul_one]) fun i hi => by
    obtain ⟨z, hz, hr⟩ := yS5 he (hel i hi)
    exact ⟨⟨z, hr⟩, hz⟩
  refine ⟨ad, n, c, l.map (·.1), rfl, by simp [hl], h1, h2, by rw [List.map_map]; exact R, fun z hz => ?_⟩
  obtain ⟨a, _, rfl⟩ := List.mem_map.1 hz
  exact a.2
theorem yX6 {t e : TypeId} {r : Reach} {b0 : Nat} {v : Value} (ht : P.underlying t = some (.slice e)) (hv : Value.okWide P w r b0 t v) {ad : Option Addr} {n c : Nat} (h : v.cells.toList = [.slice ad n c]) : v = .slice ad n c := by
  unfold Value.okWide at hv
  rw [ht] at hv
  unfold Cell.okWide at hv
  rw [ht] at hv
  cases v <;> first | (simp only [Cell.ok, ht] at hv; done) | (simp [Value.cells] at h; try (obtain ⟨rfl, rfl, rfl⟩ := h); try rfl) | skip
end
end Go.Proofs.YtkkbbhpbcfcplaaGreat.K
