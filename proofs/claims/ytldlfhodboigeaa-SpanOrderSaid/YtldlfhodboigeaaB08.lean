/- The builder of an arena in memory: a box with the row of segments; each segment a row of words; all of them its own. No program here. -/
import Derived.Test.YtldlfhodboigeaaJ10
import Derived.Test.YtldlfhodboigeaaM08
set_option linter.unusedVariables false
set_option linter.unusedSimpArgs false
namespace Go.Proofs.Ytldlfhodboigeaa.K
open Go Go.RowKit

def wordsV (ws : List Int) : List Value := ws.map (.int .u64)
/-- How many words all have. -/
def totalP : List (List Int) → Int
  | [] => 0
  | s :: A => (s.length : Int) + totalP A
theorem totalP_append : ∀ (a b : List (List Int)), totalP (a ++ b) = totalP a + totalP b
  | [], b => by simp [totalP]
  | s :: a, b => by simp only [List.cons_append, totalP, totalP_append a b]; omega
theorem totalP_take {A : List (List Int)} {k : Nat} (h : k < A.length) : totalP (A.take (k + 1)) = totalP (A.take k) + (A[k].length : Int) := by
  rw [List.take_add_one, List.getElem?_eq_getElem h, totalP_append]; simp [totalP]
theorem totalP_bound : ∀ {A : List (List Int)}, (∀ s ∈ A, s.length ≤ 100000) → 0 ≤ totalP A ∧ totalP A ≤ 100000 * (A.length : Int)
  | [], _ => by simp [totalP]
  | s :: A, h => by
    have h1 := h s (by simp)
    have h2 := totalP_bound (A := A) fun t ht => h t (by simp [ht])
    simp only [totalP, List.length_cons]
    omega
theorem totalP_nn : ∀ (A : List (List Int)), 0 ≤ totalP A
  | [] => by simp [totalP]
  | s :: A => by have := totalP_nn A; simp only [totalP]; omega
theorem totalP_le {A : List (List Int)} (k : Nat) : totalP (A.take k) ≤ totalP A := by
  have h := totalP_append (A.take k) (A.drop k)
  rw [List.take_append_drop] at h
  have := totalP_nn (A.drop k)
  omega
/-- Its blocks. -/
def blks (bB : Nat) (so : Value) (segs : List Value) : List Nat := bB :: (so.ownBlock.toList ++ segs.filterMap Value.ownBlock)
theorem mem_blks {bB : Nat} {so : Value} {segs : List Value} {k : Nat} : k ∈ blks bB so segs ↔ k = bB ∨ so.ownBlock = some k ∨ ∃ (i : Nat) (v : Value), segs[i]? = some v ∧ v.ownBlock = some k := by
  simp only [blks, List.mem_cons, List.mem_append, Option.mem_toList, List.mem_filterMap]
  constructor
  · rintro (h | h | ⟨v, hv, hk⟩)
    · exact .inl h
    · exact .inr (.inl h)
    · obtain ⟨i, hi, rfl⟩ := List.getElem_of_mem hv
      exact .inr (.inr ⟨i, _, List.getElem?_eq_getElem hi, hk⟩)
  · rintro (h | h | ⟨i, v, hv, hk⟩)
    · exact .inl h
    · exact .inr (.inl h)
    · exact .inr (.inr ⟨v, List.mem_of_getElem? hv, hk⟩)
/-- TB: the builder's type; TO: a segment's; TW: a word's. -/
structure BldAt (TB TO TW : TypeId) (w : World) (bB : Nat) (so : Value) (segs : List Value) (A : List (List Int)) (size all : Int) : Prop where
  box : w.heap[bB]? = some (.cells #[so, .int .i64 size, .int .i64 all] TB (0, 0))
  out : w.ownsRow 0 TO 1 so A.length segs
  seg : ∀ (i : Nat) (v : Value) (ws : List Int), segs[i]? = some v → A[i]? = some ws → w.ownsRow 0 TW 1 v ws.length (wordsV ws)
  dis : ∀ (i j : Nat) (v u : Value) (b : Nat), segs[i]? = some v → segs[j]? = some u → v.ownBlock = some b → u.ownBlock = some b → i = j
section
variable {TB TO TW : TypeId} {w w' : World} {bB : Nat} {so : Value} {segs : List Value} {A : List (List Int)} {size all : Int}
theorem BldAt.len (h : BldAt TB TO TW w bB so segs A size all) : segs.length = A.length := by rw [h.out.1, Nat.mul_one]
theorem BldAt.at_ (h : BldAt TB TO TW w bB so segs A size all) {i : Nat} (hi : i < A.length) : ∃ v, segs[i]? = some v ∧ w.ownsRow 0 TW 1 v A[i].length (wordsV A[i]) :=
  ⟨segs[i]'(by rw [h.len]; exact hi), List.getElem?_eq_getElem _, h.seg i _ _ (List.getElem?_eq_getElem _) (List.getElem?_eq_getElem hi)⟩
theorem BldAt.lt (h : BldAt TB TO TW w bB so segs A size all) : ∀ k ∈ blks bB so segs, k < w.heap.size := by
  intro k hk
  rcases mem_blks.1 hk with rfl | hk | ⟨i, v, hv, hk⟩
  · exact lt_of_heap h.box
  · exact (h.out.lt k hk).2
  · have hi : i < A.length := by rw [← h.len]; exact (List.getElem?_eq_some_iff.1 hv).1
    exact ((h.seg i v _ hv (List.getElem?_eq_getElem hi)).lt k hk).2
/-- Where none of its blocks has changed it is as it was. -/
theorem BldAt.keep {F : List Nat} (h : BldAt TB TO TW w bB so segs A size all) (g : Kp F w w') (hF : ∀ k ∈ blks bB so segs, k ∉ F) : BldAt TB TO TW w' bB so segs A size all := by
  have own : ∀ {T : TypeId} {v : Value} {n : Nat} {xs : List Value}, w.ownsRow 0 T 1 v n xs → (∀ k, v.ownBlock = some k → k ∉ F) → w'.ownsRow 0 T 1 v n xs := by
    intro T v n xs ho hk
    refine ⟨ho.1, ?_⟩
    rcases ho.2 with hn | ⟨q, cap, cur, rfl, hb, hg, rest⟩
    · exact .inl hn
    · exact .inr ⟨q, cap, cur, rfl, hb, g.heap hg (hk q rfl), rest⟩
  exact ⟨g.heap h.box (hF _ (mem_blks.2 (.inl rfl))), own h.out fun k hk => hF k (mem_blks.2 (.inr (.inl hk))), fun i v ws hv hw => own (h.seg i v ws hv hw) fun k hk => hF k (mem_blks.2 (.inr (.inr ⟨i, v, hv, hk⟩))), h.dis⟩
theorem BldAt.grow (h : BldAt TB TO TW w bB so segs A size all) (g : Grow w w') : BldAt TB TO TW w' bB so segs A size all := h.keep (F := []) (Kp.of_grow g) fun k _ => by simp
theorem own_block_cells {T : TypeId} {v : Value} {n k : Nat} {xs : List Value} (h : w.ownsRow 0 T 1 v n xs) (hk : v.ownBlock = some k) : ∃ cap cur, v = .slice (some ⟨k, 0, none⟩) n cap ∧ w.heap[k]? = some (.cells cur T (0, 0)) ∧ n ≤ cap ∧ cap ≤ maxLen ∧ cur.size = cap ∧ cur.toList.take n = xs := by
  rcases h.2 with ⟨rfl, _⟩ | ⟨q, cap, cur, rfl, _, hg, h1, h2, h3, h4⟩
  · simp [Value.ownBlock] at hk
  · simp only [Value.ownBlock, Option.some.injEq] at hk
    subst hk
    exact ⟨cap, cur, rfl, hg, h1, h2, by simpa using h3, by simpa using h4⟩
/-- The box holds another row of segments: one more, which has nothing. -/
theorem BldAt.push {so' : Value} {w1 : World} (hOB : TO ≠ TB) (hWB : TW ≠ TB) (hOW : TO ≠ TW) (h : BldAt TB TO TW w bB so segs A size all) (ho : w1.ownsRow 0 TO 1 so' (A.length + 1) (segs ++ [.slice none 0 0])) (gr : w.grownBy w1 so.ownBlock)
    (hb : w'.heap[bB]? = some (.cells #[so', .int .i64 size, .int .i64 all] TB (0, 0))) (u : Upd bB w1 w') :
    BldAt TB TO TW w' bB so' (segs ++ [.slice none 0 0]) (A ++ [[]]) size all := by
  have hbox1 := gr_heap gr h.box (own_ne h.out h.box hOB)
  refine ⟨hb, by rw [List.length_append]; exact own_upd ho u (own_ne ho hbox1 hOB), fun i v ws hv hw => ?_, fun i j v u b hv hu h1 h2 => ?_⟩
  · rcases Nat.lt_or_ge i segs.length with hi | hi
    · rw [List.getElem?_append_left hi] at hv
      rw [List.getElem?_append_left (by rw [← h.len]; exact hi)] at hw
      have hs := h.seg i v ws hv hw
      have hs1 : w1.ownsRow 0 TW 1 v ws.length (wordsV ws) := hs.kept gr (by
        cases hvb : v.ownBlock with
        | none => exact .inl rfl
        | some k =>
          refine .inr fun he => ?_
          obtain ⟨_, _, _, h3, _⟩ := own_block_cells hs hvb
          exact own_ne h.out h3 hOW he.symm)
      exact own_upd hs1 u (own_ne hs1 hbox1 hWB)
    · rw [List.getElem?_append_right hi] at hv
      rw [List.getElem?_append_right (by rw [← h.len]; exact hi), h.len.symm] at hw
      have : i - segs.length = 0 := by
        have := (List.getElem?_eq_some_iff.1 hv).1
        simp at this; omega
      rw [this] at hv hw
      simp only [List.getElem?_cons_zero, Option.some.injEq] at hv hw
      subst hv; subst hw
      exact World.ownsRow_nil _ _ _ _
  · rcases Nat.lt_or_ge i segs.length with hi | hi
    · rw [List.getElem?_append_left hi] at hv
      rcases Nat.lt_or_ge j segs.length with hj | hj
      · rw [List.getElem?_append_left hj] at hu
        exact h.dis i j v u b hv hu h1 h2
      · rw [List.getElem?_append_right hj] at hu
        have : u = .slice none 0 0 := by
          have := List.mem_of_getElem? hu
          simpa using this
        subst this; simp [Value.ownBlock] at h2
    · rw [List.getElem?_append_right hi] at hv
      have : v = .slice none 0 0 := by
        have := List.mem_of_getElem? hv
        simpa using this
      subst this; simp [Value.ownBlock] at h1
end
/-- Where an append's row lies: where it lay, or in a new block. -/
theorem append_block {P : Program} {w w' : World} {base n m cp : Nat} {t ty el : TypeId} {sz by_ : Nat} {z v v' : Value} {ad : Option Addr} {xs ys : List Value} [hz : ElzI P t el sz by_ z] (hown : w.ownsRow base el sz v n xs) (hra : RowAt w sz ad m ys)
    (h1 : ∀ q ∈ ys, q.oneCell' = true) (hl : n + m ≤ maxLen) (hby : (n + m) * by_ ≤ 140737488355328) (hrun : (Builtin.append_ #[t, t] ty #[v, .slice ad m cp]).run P w = .ok v' w') : v'.ownBlock = v.ownBlock ∨ v'.ownBlock = some w.heap.size := by
  obtain ⟨hu, i, hi, hzz, hsz, hbb, hzs, hpos⟩ := elz_of hz.h
  subst hsz; subst hbb
  have hsmall : n + m ≤ 9223372036854775807 := by simp only [maxLen] at hl; omega
  rcases Nat.eq_zero_or_pos m with hm | hm
  · subst hm
    have hys : ys = [] := List.eq_nil_of_length_eq_zero (by simpa using hra.len)
    subst hys
    rcases hown.2 with ⟨rfl, rfl⟩ | ⟨g, cap, cur, rfl, _, hg, hnc, _, hcs, _⟩
    · have hr : (Builtin.append_ #[t, t] ty #[.slice none 0 0, .slice ad 0 cp]).run P w = .ok (.slice none 0 0) w := by
        cases ad <;> simp [Builtin.append_, run_underlying hu, sizeOf, typeInfo, hi, Builtin.lenOf, Builtin.firstCells, loadCells, loadCellsFrom]
      rw [hr] at hrun
      simp only [Result.ok.injEq] at hrun
      exact .inl (by rw [← hrun.1])
    · cases ad with
      | none =>
        have hr : (Builtin.append_ #[t, t] ty #[.slice (some ⟨g, 0, none⟩) n cap, .slice none 0 cp]).run P w = .ok (.slice (some ⟨g, 0, none⟩) n cap) w := by
          simp [Builtin.append_, run_underlying hu, sizeOf, typeInfo, hi, Builtin.lenOf, Builtin.firstCells, hnc, storeCells]
        rw [hr] at hrun
        simp only [Result.ok.injEq] at hrun
        exact .inl (by rw [← hrun.1])
      | some ad =>
        have hr := run_append_room (P := P) w t ty el i hu hi g n cap cur hg ad 0 cp [] (by simp) (fun j u hj => by simp at hj) (by simp) (by omega) (by simp [hcs]; exact Nat.mul_le_mul_right _ hnc)
        rw [hr] at hrun
        simp only [Result.ok.injEq] at hrun
        exact .inl (by rw [← hrun.1]; rfl)
  · obtain ⟨b, o, cs, T, fr, rfl, hb, hrow⟩ := hra.at_ hm
    have hcell : ∀ j u, ys[j]? = some u → w.cell? ((⟨b, o, none⟩ : Addr).add j) = some u := fun j u hj => by
      rw [add_lit, cell_of_row w b (o + j) cs T fr hb]
      exact row_cell hrow hj
    rcases hown.2 with ⟨rfl, rfl⟩ | ⟨g, cap, cur, rfl, _, hg, hnc, _, hcs, _⟩
    · have hr := run_append_nil (P := P) w t ty el i z hu hi hzz ⟨b, o, none⟩ m cp ys hra.len hcell hm (by omega) (by have := hby; simp only [Nat.zero_add] at this; omega)
      rw [hr] at hrun
      simp only [Result.ok.injEq] at hrun
      exact .inr (by rw [← hrun.1]; rfl)
    · by_cases hroom : n + m ≤ cap
      · have hr := run_append_room (P := P) w t ty el i hu hi g n cap cur hg ⟨b, o, none⟩ m cp ys hra.len hcell h1 hroom (by rw [hra.len, hcs, ← Nat.add_mul]; exact Nat.mul_le_mul_right _ hroom)
        rw [hr] at hrun
        simp only [Result.ok.injEq] at hrun
        exact .inl (by rw [← hrun.1]; rfl)
      · have hr := run_append_grow (P := P) w t ty el i z hu hi hzz ⟨g, 0, none⟩ n cap xs hown.1 (hown.cells (g := g) rfl) ⟨b, o, none⟩ m cp ys hra.len hcell (by omega) (by omega) (growslice_fits (by omega) hby)
        rw [hr] at hrun
        simp only [Result.ok.injEq] at hrun
        exact .inr (by rw [← hrun.1]; rfl)
theorem append_run {P : Program} {w : World} {base n m cp : Nat} {t ty el : TypeId} {sz by_ : Nat} {z v : Value} {ad : Option Addr} {xs ys : List Value} [hz : ElzI P t el sz by_ z] (hown : w.ownsRow base el sz v n xs) (hra : RowAt w sz ad m ys)
    (h1 : ∀ q ∈ ys, q.oneCell' = true) (hl : n + m ≤ maxLen) (hby : (n + m) * by_ ≤ 140737488355328) (hbase : base ≤ w.heap.size) :
    ∃ v' w', (Builtin.append_ #[t, t] ty #[v, .slice ad m cp]).run P w = .ok v' w' ∧ w'.ownsRow base el sz v' (n + m) (xs ++ ys) ∧ w.grownBy w' v.ownBlock ∧ (v'.ownBlock = v.ownBlock ∨ v'.ownBlock = some w.heap.size) := by
  obtain ⟨hu, i, hi, hzz, hsz, hbb, hzs, hpos⟩ := elz_of hz.h
  suffices h : ∃ v' w', (Builtin.append_ #[t, t] ty #[v, .slice ad m cp]).run P w = .ok v' w' ∧ w'.ownsRow base el sz v' (n + m) (xs ++ ys) ∧ w.grownBy w' v.ownBlock by
    obtain ⟨v', w', hr, ho, hg⟩ := h
    exact ⟨v', w', hr, ho, hg, append_block (cp := cp) (ty := ty) hown hra h1 hl hby hr⟩
  rcases Nat.eq_zero_or_pos m with hm | hm
  · subst hm
    have hys : ys = [] := List.eq_nil_of_length_eq_zero (by simpa using hra.len)
    subst hys
    cases ad with
    | none =>
      have hrun : (Builtin.append_ #[t, t] ty #[v, .slice none 0 cp]).run P w = .ok v w := by
        rcases hown.2 with ⟨rfl, rfl⟩ | ⟨gg, cap, cur, rfl, _, _, hnc, _⟩
        · simp [Builtin.append_, run_underlying hu, sizeOf, typeInfo, hi, Builtin.lenOf, Builtin.firstCells]
        · simp [Builtin.append_, run_underlying hu, sizeOf, typeInfo, hi, Builtin.lenOf, Builtin.firstCells, hnc, storeCells]
      exact ⟨_, _, hrun, by simpa using hown, ⟨rfl, rfl, rfl, Nat.le_refl _, fun _ _ _ => rfl⟩⟩
    | some ad =>
      obtain ⟨v', w', hrun, ho, hg, _⟩ := run_append_own (P := P) w base t ty el i z sz by_ hu hi hzz hsz hbb hzs hpos v n xs hown ad 0 cp [] (by simp) (fun j u hj => by simp at hj) (by simp) hl hby hbase
      exact ⟨v', w', hrun, ho, hg⟩
  · obtain ⟨b, o, cs, T, fr, rfl, hb, hrow⟩ := hra.at_ hm
    obtain ⟨v', w', hrun, ho, hg, _⟩ := run_append_own (P := P) w base t ty el i z sz by_ hu hi hzz hsz hbb hzs hpos v n xs hown ⟨b, o, none⟩ m cp ys hra.len (fun j u hj => by
      rw [add_lit, cell_of_row w b (o + j) cs T fr hb]
      exact row_cell hrow hj) h1 hl hby hbase
    exact ⟨v', w', hrun, ho, hg⟩
/-- append, where the row's block is asked for. -/
theorem r_appendB {P : Program} {e : Env} {w : World} {K : Value → World → Prop} {d : Option Nat} {ty : TypeId} {pos : String} {af : Array Edge} {g : Option (Nat × Bool)} {t : TypeId} {x y : Operand} {xs_ : Array Operand} {at_ : Array TypeId} (hxs : xs_ = #[x, y]) (hat : at_ = #[t, t]) {base n m : Nat} {el : TypeId} {sz by_ : Nat} {z v u : Value} {xs ys : List Value} [hz : ElzI P t el sz by_ z] (hx : ev e x = v) (hy : ev e y = u)
    (hown : w.ownsRow base el sz v n xs) (hr : Row w sz u m ys) (h1 : ∀ q ∈ ys, q.oneCell' = true) (hl : n + m ≤ maxLen) (hby : (n + m) * by_ ≤ 140737488355328) (hbase : base ≤ w.heap.size)
    (h : ∀ v' w', w'.ownsRow base el sz v' (n + m) (xs ++ ys) → w.grownBy w' v.ownBlock → (v'.ownBlock = v.ownBlock ∨ v'.ownBlock = some w.heap.size) → K v' w') : Run1 P ⟨d, .call ⟨.builtin .append, xs_, at_⟩, ty, pos, af, g⟩ e w K := by
  subst hxs; subst hat
  obtain ⟨ad, cp, rfl, hmc, _, hra⟩ := hr
  obtain ⟨v', w', hrun, ho, hg, hbk⟩ := append_run (P := P) (t := t) (ty := ty) (cp := cp) hown hra h1 hl hby hbase
  refine run1_ok (v := v') (w' := w') ?_ (h v' w' ho hg hbk)
  simp only [execOp, resolve, invoke, builtin, Sem.run_bind, Sem.run_pure, Result.andThen_ok, List.map_toArray, List.map_cons, List.map_nil, hx, hy, hrun]
theorem own_keepB {w w' : World} {F : List Nat} {base n sz : Nat} {T : TypeId} {v : Value} {xs : List Value} (h : w.ownsRow base T sz v n xs) (g : Kp F w w') (hF : ∀ k, v.ownBlock = some k → k ∉ F) : w'.ownsRow base T sz v n xs := by
  refine ⟨h.1, ?_⟩
  rcases h.2 with hn | ⟨q, cap, cur, rfl, hb, hg, rest⟩
  · exact .inl hn
  · exact .inr ⟨q, cap, cur, rfl, hb, g.heap hg (hF q rfl), rest⟩
theorem RowAt.keepB {w w' : World} {F : List Nat} {sz n : Nat} {ad : Option Addr} {xs : List Value} (h : RowAt w sz ad n xs) (g : Kp F w w') (hF : ∀ a, ad = some a → a.block ∉ F) : RowAt w' sz ad n xs :=
  h.keep fun a _ _ _ ha hb => g.heap hb (hF a ha)
def growB (A : List (List Int)) (q : Nat) : List (List Int) := if q = A.length then A ++ [[]] else A
def growA (A : List (List Int)) (q : Nat) (l : List Int) : List (List Int) := (growB A q).set q ((growB A q).getD q [] ++ l)
theorem growB_len {A : List (List Int)} {q : Nat} (hq : q ≤ A.length) : q < (growB A q).length ∧ (growB A q).length ≤ A.length + 1 := by
  unfold growB; split
  · simp; omega
  · omega
theorem growB_at {A : List (List Int)} {q : Nat} {m : Nat} (hA : ∀ s ∈ A, s.length ≤ m) : ((growB A q).getD q []).length ≤ m := by
  unfold growB
  split
  · subst_vars; simp
  · rw [List.getD_eq_getElem?_getD]
    cases h : A[q]? with
    | none => simp
    | some s => simpa using hA s (List.mem_of_getElem? h)
section
variable {TB TO TW : TypeId} {w w1 w' : World} {bB : Nat} {so : Value} {segs : List Value} {A : List (List Int)} {size all : Int}
/-- A segment has more words behind it: its row has been written, then the row of segments. -/
theorem BldAt.more {i go : Nat} {sv sv' : Value} {ws l : List Int} {cap : Nat} {cur cur' : Array Value} (hOB : TO ≠ TB) (hWB : TW ≠ TB) (hOW : TO ≠ TW) (h : BldAt TB TO TW w bB so segs A size all) (hA : A[i]? = some ws) (hs : segs[i]? = some sv)
    (ho : w1.ownsRow 0 TW 1 sv' (ws ++ l).length (wordsV (ws ++ l))) (gr : Kp sv.ownBlock.toList w w1) (hnew : ∀ k, sv'.ownBlock = some k → sv.ownBlock = some k ∨ w.heap.size ≤ k)
    (hso : so = .slice (some ⟨go, 0, none⟩) A.length cap) (hcur : w.heap[go]? = some (.cells cur TO (0, 0))) (hcur' : w'.heap[go]? = some (.cells cur' TO (0, 0))) (hset : cur'.toList = cur.toList.set i sv') (u : Upd go w1 w') :
    BldAt TB TO TW w' bB so (segs.set i sv') (A.set i (ws ++ l)) size all := by
  have hiA : i < A.length := (List.getElem?_eq_some_iff.1 hA).1
  have his : i < segs.length := (List.getElem?_eq_some_iff.1 hs).1
  have hsv := h.seg i sv ws hs hA
  have hbox1 := gr.heap h.box (by rw [Option.mem_toList]; exact own_ne hsv h.box hWB)
  have hgo1 := gr.heap hcur (by rw [Option.mem_toList]; exact own_ne hsv hcur hOW.symm)
  have hgB : go ≠ bB := by intro he; subst he; have := hcur.symm.trans h.box; simp only [Option.some.injEq, Obj.cells.injEq] at this; exact hOB this.2.1
  refine ⟨u.heap hbox1 hgB.symm, ?_, fun j v wj hv hw => ?_, fun j k v q b hv hq h1 h2 => ?_⟩
  · obtain ⟨hl, hc⟩ := h.out
    refine ⟨by rw [List.length_set, List.length_set]; exact hl, .inr ?_⟩
    rcases hc with ⟨h0, _⟩ | ⟨g, cap', cur0, hv, hb, hg, h1, h2, h3, h4⟩
    · rw [hso] at h0; cases h0
    · rw [hso] at hv
      simp only [Value.slice.injEq, Option.some.injEq, Addr.mk.injEq, and_true, true_and] at hv
      obtain ⟨rfl, rfl⟩ := hv
      rw [hcur] at hg
      simp only [Option.some.injEq, Obj.cells.injEq, and_true] at hg
      subst hg
      refine ⟨go, cap, cur', by rw [List.length_set]; exact hso, Nat.zero_le _, hcur', by rw [List.length_set]; exact h1, h2, ?_, ?_⟩
      · rw [← Array.length_toList, hset, List.length_set, Array.length_toList, h3]
      · rw [hset, List.length_set, List.take_set, h4]
  · by_cases hji : j = i
    · subst hji
      rw [List.getElem?_set_self his] at hv
      rw [List.getElem?_set_self hiA] at hw
      simp only [Option.some.injEq] at hv hw
      subst hv; subst hw
      exact own_upd ho u (own_ne ho hgo1 hOW.symm)
    · rw [List.getElem?_set_ne (Ne.symm hji)] at hv hw
      have hsj := h.seg j v wj hv hw
      have hs1 : w1.ownsRow 0 TW 1 v wj.length (wordsV wj) := own_keepB hsj gr fun b hvb => by
        rw [Option.mem_toList]; intro he; exact hji (h.dis j i v sv b hv hs hvb he)
      exact own_upd hs1 u (own_ne hs1 hgo1 hOW.symm)
  · have key : ∀ (j k : Nat) (v q : Value), (segs.set i sv')[j]? = some v → (segs.set i sv')[k]? = some q → v.ownBlock = some b → q.ownBlock = some b → j = i → k = i := by
      intro j k v q hv hq h1 h2 hji
      subst hji
      rw [List.getElem?_set_self his] at hv
      simp only [Option.some.injEq] at hv
      subst hv
      refine Classical.byContradiction fun hne => ?_
      rw [List.getElem?_set_ne (Ne.symm hne)] at hq
      rcases hnew b h1 with hn | hn
      · exact hne (h.dis k j q sv b hq hs h2 hn)
      · have hk : k < A.length := by rw [← h.len]; exact (List.getElem?_eq_some_iff.1 hq).1
        have := (h.seg k q _ hq (List.getElem?_eq_getElem hk)).lt b h2
        omega
    by_cases hji : j = i
    · rw [key j k v q hv hq h1 h2 hji, hji]
    · by_cases hki : k = i
      · rw [key k j q v hq hv h2 h1 hki, hki]
      · rw [List.getElem?_set_ne (Ne.symm hji)] at hv
        rw [List.getElem?_set_ne (Ne.symm hki)] at hq
        exact h.dis j k v q b hv hq h1 h2
/-- How many words in all is told anew. -/
theorem BldAt.count {all' : Int} (hOB : TO ≠ TB) (hWB : TW ≠ TB) (h : BldAt TB TO TW w bB so segs A size all) (hb : w'.heap[bB]? = some (.cells #[so, .int .i64 size, .int .i64 all'] TB (0, 0))) (u : Upd bB w w') : BldAt TB TO TW w' bB so segs A size all' :=
  ⟨hb, own_upd h.out u (own_ne h.out h.box hOB), fun i v ws hv hw => own_upd (h.seg i v ws hv hw) u (own_ne (h.seg i v ws hv hw) h.box hWB), h.dis⟩
/-- A word of a segment is written. -/
theorem BldAt.setw {q i g cap : Nat} {sv : Value} {ws : List Int} {x : Int} {cur cur' : Array Value} (hWB : TW ≠ TB) (hOW : TO ≠ TW) (h : BldAt TB TO TW w bB so segs A size all) (hA : A[q]? = some ws) (hs : segs[q]? = some sv)
    (hsv : sv = .slice (some ⟨g, 0, none⟩) ws.length cap) (hcur : w.heap[g]? = some (.cells cur TW (0, 0))) (hcur' : w'.heap[g]? = some (.cells cur' TW (0, 0))) (hset : cur'.toList = cur.toList.set i (.int .u64 x)) (hi : i < ws.length) (u : Upd g w w') :
    BldAt TB TO TW w' bB so segs (A.set q (ws.set i x)) size all := by
  have hqA : q < A.length := (List.getElem?_eq_some_iff.1 hA).1
  have hgB : bB ≠ g := by intro he; subst he; have := hcur.symm.trans h.box; simp only [Option.some.injEq, Obj.cells.injEq] at this; exact hWB this.2.1
  have hbs : sv.ownBlock = some g := by rw [hsv]; rfl
  refine ⟨u.heap h.box hgB, by rw [List.length_set]; exact own_upd h.out u (own_ne h.out hcur hOW), fun j v wj hv hw => ?_, h.dis⟩
  by_cases hj : j = q
  · subst hj
    rw [List.getElem?_set_self hqA] at hw
    rw [hs] at hv
    simp only [Option.some.injEq] at hv hw
    subst hv; subst hw
    obtain ⟨hl, hc⟩ := h.seg j sv ws hs hA
    refine ⟨by simp [wordsV], .inr ?_⟩
    rcases hc with ⟨h0, _⟩ | ⟨g', cap', cur0, hv, hb, hg, h1, h2, h3, h4⟩
    · rw [hsv] at h0; cases h0
    · rw [hsv] at hv
      simp only [Value.slice.injEq, Option.some.injEq, Addr.mk.injEq, and_true, true_and] at hv
      obtain ⟨rfl, rfl⟩ := hv
      rw [hcur] at hg
      simp only [Option.some.injEq, Obj.cells.injEq, and_true] at hg
      subst hg
      refine ⟨g, cap, cur', by rw [List.length_set]; exact hsv, Nat.zero_le _, hcur', by rw [List.length_set]; exact h1, h2, ?_, ?_⟩
      · rw [← Array.length_toList, hset, List.length_set, Array.length_toList, h3]
      · rw [hset, List.length_set, List.take_set, h4, wordsV, wordsV, List.map_set]
  · rw [List.getElem?_set_ne (Ne.symm hj)] at hw
    have hsj := h.seg j v wj hv hw
    exact own_upd hsj u fun he => hj (h.dis j q v sv g hv hs he hbs)
end
theorem own_apart {w : World} {base n sz : Nat} {T : TypeId} {v : Value} {xs : List Value} {row : Option Nat} (h : w.ownsRow base T sz v n xs) (hr : ∀ k, row = some k → k < base ∨ w.heap.size ≤ k) : v.ownBlock = none ∨ v.ownBlock ≠ row := by
  cases hv : v.ownBlock with
  | none => exact .inl rfl
  | some b =>
    refine .inr fun he => ?_
    have h1 := h.lt b hv
    have h2 := hr b he.symm
    omega
theorem own_keepK {w w' : World} {F : List Nat} {base n sz : Nat} {T : TypeId} {v : Value} {xs : List Value} (h : w.ownsRow base T sz v n xs) (g : Kp F w w') (hF : ∀ k ∈ F, k < base ∨ w.heap.size ≤ k) : w'.ownsRow base T sz v n xs := by
  refine ⟨h.1, ?_⟩
  rcases h.2 with hn | ⟨q, cap, cur, rfl, hb, hg, rest⟩
  · exact .inl hn
  · refine .inr ⟨q, cap, cur, rfl, hb, g.heap hg fun hm => ?_, rest⟩
    have := lt_of_heap hg
    have := hF q hm
    omega
/-- An arena as a value: a row of segments, each a row of words. -/
def ArenaR (w : World) (v : Value) (A : List (List Int)) : Prop := ∃ segs, Row w 1 v A.length segs ∧ ∀ (i : Nat) (s : List Int), A[i]? = some s → ∃ u, segs[i]? = some u ∧ Row w 1 u s.length (wordsV s)
theorem ArenaR.grow {w w' : World} {v : Value} {A : List (List Int)} (h : ArenaR w v A) (g : Grow w w') : ArenaR w' v A := by
  obtain ⟨segs, h1, h2⟩ := h
  refine ⟨segs, h1.grow g, fun i s hs => ?_⟩
  obtain ⟨u, hu, hr⟩ := h2 i s hs
  exact ⟨u, hu, hr.grow g⟩
/-- What was built, as a value. -/
theorem BldAt.arena {TB TO TW : TypeId} {w : World} {bB : Nat} {so : Value} {segs : List Value} {A : List (List Int)} {size all : Int} (h : BldAt TB TO TW w bB so segs A size all) (hA : A.length ≤ 1000) (hs : ∀ s ∈ A, s.length ≤ 100000) : ArenaR w so A := by
  refine ⟨segs, own_row h.out (by omega), fun i s hi => ?_⟩
  have hl : i < A.length := (List.getElem?_eq_some_iff.1 hi).1
  obtain ⟨v, hv, ho⟩ := h.at_ hl
  have he : A[i] = s := by rw [List.getElem?_eq_getElem hl] at hi; exact Option.some.inj hi
  rw [he] at ho
  exact ⟨v, hv, own_row ho (by have := hs s (List.mem_of_getElem? hi); omega)⟩
end Go.Proofs.Ytldlfhodboigeaa.K
