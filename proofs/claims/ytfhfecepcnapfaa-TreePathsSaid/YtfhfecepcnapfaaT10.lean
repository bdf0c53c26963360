/- What package tree computes. Plain law. -/
import Derived.Test.YtfhfecepcnapfaaU09
import Derived.Test.YtfhfecepcnapfaaQ08
set_option linter.unusedVariables false
set_option linter.unusedSimpArgs false
namespace Go.Proofs.Ytfhfecepcnapfaa.K
open Go Go.RowKit
/-- One step, in a tree. -/
def tstep (t : Nd) (k : Int) : Nd × Int :=
  if (t.kind ≠ 0 ∧ t.kind ≠ 1) ∧ t.size ≠ 6 then (.nil, 23)
  else if t.kind ≠ 0 ∧ k < t.kids.length then (t.kids.getD k.toNat .nil, 0)
  else if t.kind ≠ 0 ∧ t.kind ≠ 1 then (.nil, 20)
  else (.nil, 0)
/-- A word, of something in a tree. -/
def tat (t : Nd) (k : Int) : Int × Int :=
  if (t.kind ≠ 0 ∧ t.kind ≠ 1) ∧ t.size = 6 then (0, 23)
  else if t.kind ≠ 0 ∧ k < t.words.length then (t.words.getD k.toNat 0, 0)
  else if ((t.kind ≠ 0 ∧ t.kind ≠ 1) ∧ t.size = 2) ∧ k < t.bytes.length then (t.bytes.getD k.toNat 0, 0)
  else if t.kind ≠ 0 ∧ t.kind ≠ 1 then (0, 20)
  else (0, 0)
theorem tstep_mk (k s : Int) (w b : List Int) (ks : List Nd) (i : Int) : tstep (.mk k s w b ks) i = if (k ≠ 0 ∧ k ≠ 1) ∧ s ≠ 6 then (.nil, 23) else if k ≠ 0 ∧ i < ks.length then (ks.getD i.toNat .nil, 0) else if k ≠ 0 ∧ k ≠ 1 then (.nil, 20) else (.nil, 0) := rfl
theorem tat_mk (k s : Int) (w b : List Int) (ks : List Nd) (i : Int) : tat (.mk k s w b ks) i = if (k ≠ 0 ∧ k ≠ 1) ∧ s = 6 then (0, 23) else if k ≠ 0 ∧ i < w.length then (w.getD i.toNat 0, 0) else if ((k ≠ 0 ∧ k ≠ 1) ∧ s = 2) ∧ i < b.length then (b.getD i.toNat 0, 0) else if k ≠ 0 ∧ k ≠ 1 then (0, 20) else (0, 0) := rfl
def tgo : List Int → Nd → Nd × Int
  | [], t => (t, 0)
  | k :: ks, t => if (tstep t k).2 ≠ 0 then (.nil, (tstep t k).2) else tgo ks (tstep t k).1
def tval (t : Nd) (a : Int) : Vl × Int :=
  if a < 0 then (⟨t.kind, t.size, (t.words.length : Int) + t.bytes.length, t.kids.length, 0⟩, 0)
  else if (tat t a).2 ≠ 0 then (Vl0, (tat t a).2) else (⟨t.kind, 0, 0, 0, (tat t a).1⟩, 0)
def askT (t : Nd) (steps : List Int) (a : Int) : Vl × Int :=
  if ∃ k ∈ steps, k < 0 then (Vl0, 1)
  else if (steps.length : Int) > 32 then (Vl0, 3)
  else if (tgo steps t).2 ≠ 0 then (Vl0, (tgo steps t).2)
  else tval (tgo steps t).1 a
theorem any_neg {steps : List Int} : (List.range' 0 steps.length).any (fun i => decide (steps.getD i 0 < 0)) = true ↔ ∃ k ∈ steps, k < 0 := by
  rw [List.any_eq_true]
  constructor
  · rintro ⟨i, hi, h⟩
    have hlt : i < steps.length := by simpa using hi
    exact ⟨_, getD_mem hlt, of_decide_eq_true h⟩
  · rintro ⟨k, hk, h⟩
    obtain ⟨j, hj, rfl⟩ := List.getElem_of_mem hk
    exact ⟨j, by simpa using hj, decide_eq_true (by rw [getD_at hj]; exact h)⟩
theorem NodeR.lens {w : World} {y0 y1 : Int} {ya za ua : Option Addr} {yn yc zn zc un uc : Nat} {u : Nd} (h : NodeR w [.int .i64 y0, .int .i64 y1, .slice ya yn yc, .slice za zn zc, .slice ua un uc] u) :
    u.kind = y0 ∧ u.size = y1 ∧ u.words.length = yn ∧ u.bytes.length = zn ∧ u.kids.length = un ∧ yn ≤ 140737488355328 ∧ zn ≤ 140737488355328 ∧ un ≤ 140737488355328 := by
  generalize hc : [Value.int .i64 y0, .int .i64 y1, .slice ya yn yc, .slice za zn zc, .slice ua un uc] = c at h
  obtain @⟨kind, size, words, bytes, kids, ws, bs, ks, kc, hk, hs, hW, hwr, hB, hbr, hK, hKs⟩ := h
  obtain ⟨aw, cw, rfl, -, -, h1⟩ := hW
  obtain ⟨ab, cb, rfl, -, -, h2⟩ := hB
  obtain ⟨ak, ck, rfl, -, -, h3⟩ := hK
  simp only [List.cons.injEq, Value.int.injEq, Value.slice.injEq, true_and, and_true] at hc
  obtain ⟨rfl, rfl, ⟨-, rfl, -⟩, ⟨-, rfl, -⟩, -, rfl, -⟩ := hc
  exact ⟨rfl, rfl, rfl, rfl, rfl, h1.lim, h2.lim, h3.lim⟩
theorem tgo_drop {steps : List Int} {k : Nat} (hi : k < steps.length) (u : Nd) : tgo (steps.drop k) u = if (tstep u (steps.getD k 0)).2 ≠ 0 then (.nil, (tstep u (steps.getD k 0)).2) else tgo (steps.drop (k + 1)) (tstep u (steps.getD k 0)).1 := by
  rw [List.drop_eq_getElem_cons hi, getD_at hi, tgo]
def capM (n : Int) : Int := if 9007199254740992 < n then 9007199254740992 else n
mutual
def Nd.cost : Nd → Int
  | .mk k s w b ks => Nd.costL ks (1 + (Nd.mk k s w b ks).need)
def Nd.costL : List Nd → Int → Int
  | [], n => n
  | t :: ts, n => Nd.costL ts (capM (n + t.cost))
end
theorem Nd.costL_take : ∀ {ks : List Nd} {k : Nat} (n : Int) (h : k < ks.length), Nd.costL (ks.take (k + 1)) n = capM (Nd.costL (ks.take k) n + ks[k].cost)
  | [], k, n, h => by simp at h
  | t :: ts, 0, n, h => by simp [Nd.costL]
  | t :: ts, k + 1, n, h => by
    simp only [List.length_cons] at h
    simp only [List.take_succ_cons, Nd.costL, List.getElem_cons_succ]
    exact Nd.costL_take (ks := ts) (k := k) _ (by omega)
theorem capM_le (n : Int) : capM n ≤ 9007199254740992 := by unfold capM; split <;> omega
theorem capM_pos {n : Int} (h : 1 ≤ n) : 1 ≤ capM n := by unfold capM; split <;> omega
mutual
theorem Nd.cost_pos : ∀ (t : Nd), 1 ≤ t.cost
  | .mk k s w b ks => by
    rw [Nd.cost]
    exact Nd.costL_pos ks _ (by have := Nd.need_nn (.mk k s w b ks); omega)
theorem Nd.costL_pos : ∀ (ts : List Nd) (n : Int), 1 ≤ n → 1 ≤ Nd.costL ts n
  | [], n, h0 => h0
  | t :: ts, n, h0 => by
    rw [Nd.costL]
    exact Nd.costL_pos ts _ (capM_pos (by have := Nd.cost_pos t; omega))
end
theorem Nd.costL_le : ∀ (ts : List Nd) (n : Int), n ≤ 9007199254740992 → Nd.costL ts n ≤ 9007199254740992
  | [], n, h0 => h0
  | t :: ts, n, h0 => by rw [Nd.costL]; exact Nd.costL_le ts _ (capM_le _)
theorem NodeR.need_le {w : World} {c : List Value} {t : Nd} (h : NodeR w c t) : t.need ≤ 900000000000000 := by
  obtain @⟨kind, size, words, bytes, kids, ws, bs, ks, kc, hk, hs, hW, hwr, hB, hbr, hK, hKs⟩ := h
  obtain ⟨aw, cw, rfl, -, -, h1⟩ := hW
  obtain ⟨ab, cb, rfl, -, -, h2⟩ := hB
  obtain ⟨ak, ck, rfl, -, -, h3⟩ := hK
  have h1 := h1.lim
  have h2 := h2.lim
  have h3 := h3.lim
  simp only [Nd.need]
  split
  · omega
  · split <;> omega
theorem Nd.cost_le {t : Nd} (h : t.need ≤ 900000000000000) : t.cost ≤ 9007199254740992 := by
  cases t with
  | mk k s w b ks => rw [Nd.cost]; exact Nd.costL_le _ _ (by omega)
/-! ### decoding -/
def wordsS (s : Src) (seg a : Int) (n : Nat) : List Int := (List.range n).map fun (i : Nat) => (s.word seg (a + (i : Int))).1
def byt1 (x : Int) (i : Nat) : Int := x / 2 ^ (8 * i) % 256
def byt8 (x : Int) : List Int := (List.range 8).map (byt1 x)
def bytesS (s : Src) (seg a : Int) (n : Nat) : List Int := ((wordsS s seg a ((n + 7) / 8)).flatMap byt8).take n
theorem wordsS_len (s : Src) (seg a : Int) (n : Nat) : (wordsS s seg a n).length = n := by simp [wordsS]
theorem wordsS_succ (s : Src) (seg a : Int) (n : Nat) : wordsS s seg a (n + 1) = wordsS s seg a n ++ [(s.word seg (a + (n : Int))).1] := by simp [wordsS, List.range_succ]
theorem byt8_len (x : Int) : (byt8 x).length = 8 := by simp [byt8]
theorem flat8_len (l : List Int) : (l.flatMap byt8).length = 8 * l.length := by
  induction l with
  | nil => rfl
  | cons x l ih => rw [List.flatMap_cons, List.length_append, ih, byt8_len, List.length_cons]; omega
theorem bytesS_len (s : Src) (seg a : Int) (n : Nat) : (bytesS s seg a n).length = n := by
  rw [bytesS, List.length_take, flat8_len, wordsS_len]; omega
theorem byt1_range (x : Int) (i : Nat) : 0 ≤ byt1 x i ∧ byt1 x i ≤ 255 := by unfold byt1; omega
theorem bytesS_u8 (s : Src) (seg a : Int) (n : Nat) : ∀ x ∈ bytesS s seg a n, inR .u8 x := by
  intro x hx
  obtain ⟨y, -, hy⟩ := List.mem_flatMap.1 (List.mem_of_mem_take hx)
  obtain ⟨i, -, rfl⟩ := List.mem_map.1 hy
  have := byt1_range y i
  simp only [inR]; omega
theorem wordsS_u64 {P : Program} {w : World} {v : Value} {s : Src} (H : SrcOk P w v s) (seg a : Int) (n : Nat) : ∀ x ∈ wordsS s seg a n, inR .u64 x := by
  intro x hx
  obtain ⟨i, -, rfl⟩ := List.mem_map.1 hx
  have := H.num seg (a + i)
  simp only [inR]; omega
/-- A byte of a word, as it is put. -/
theorem put_byte (x : Int) (k : Nat) (h0 : 0 ≤ x) (h1 : x ≤ 18446744073709551615) (hk : k ≤ 7) : IntKind.u8.wrap (x / 2 ^ min (8 * (k : Int)).toNat (IntKind.bits .u64)) = byt1 x k := by
  have e : min (8 * (k : Int)).toNat (IntKind.bits .u64) = 8 * k := by show min _ 64 = _; omega
  rw [e, IntKind.wrap_u8, byt1]
def putCells (x : Int) (k : Nat) : List Value := ((List.range k).map fun i => .int .u8 (byt1 x i)) ++ List.replicate (8 - k) (.int .u8 0)
theorem putCells_set (x : Int) (k : Nat) (hk : k < 8) : (putCells x k).set k (.int .u8 (byt1 x k)) = putCells x (k + 1) := by
  have hr : 8 - k = (8 - (k + 1)) + 1 := by omega
  unfold putCells
  rw [hr, List.replicate_succ, List.set_append_right _ _ (by simp)]
  simp [List.range_succ]
theorem putCells_len (x : Int) (k : Nat) (hk : k ≤ 8) : (putCells x k).length = 8 := by simp [putCells]; omega
theorem putCells_all (x : Int) : putCells x 8 = (byt8 x).map (.int .u8) := by simp [putCells, byt8, Function.comp_def]
theorem own_hide_range {w : World} {base n : Nat} {T : TypeId} {v : Value} {k : IntKind} {xs : List Int} (h : w.ownsRow base T 1 v n (xs.map (.int k))) (hm : xs.length = n) (hl : n ≤ 140737488355328) : Row (hide base w) 1 v n (xs.map (.int k)) := by
  subst hm
  exact own_hide h hl
/-- A made row is a block. -/
theorem own_made' {w : World} {base b n : Nat} {T : TypeId} {xs : List Value} (h : w.ownsRow base T 1 (.slice (some ⟨b, 0, none⟩) n n) n xs) : base ≤ b ∧ ∃ cur : Array Value, w.heap[b]? = some (.cells cur T (0, 0)) ∧ cur.size = n ∧ cur.toList = xs := by
  obtain ⟨h0, h1⟩ := h
  rcases h1 with ⟨h1, -⟩ | ⟨q, cap, cur, hv, hq, hg, h1, h2, h3, h4⟩
  · simp at h1
  · simp only [Value.slice.injEq, Option.some.injEq, Addr.mk.injEq, and_true, true_and] at hv
    obtain ⟨rfl, rfl⟩ := hv
    refine ⟨hq, cur, hg, by omega, ?_⟩
    rw [← h4, List.take_of_length_le (by rw [Array.length_toList]; omega)]
end Go.Proofs.Ytfhfecepcnapfaa.K
