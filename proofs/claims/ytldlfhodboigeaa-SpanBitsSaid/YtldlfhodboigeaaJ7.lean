/- Rows of cells in memory; trees; what lasts; the rules of slices over them. Generic in the program. -/
import Derived.Test.YtldlfhodboigeaaJ6
import Derived.Laws.MakeOwn
import Derived.Laws.OwnMore
set_option linter.unusedVariables false
set_option linter.unusedSimpArgs false
namespace Go.Proofs.Ytldlfhodboigeaa.K
open Go Go.RowKit

/-- What a slice's address holds: n elements of sz cells. -/
structure RowAt (w : World) (sz : Nat) (ad : Option Addr) (n : Nat) (xs : List Value) : Prop where
  len : xs.length = n * sz
  lim : n ≤ 140737488355328
  at_ : 0 < n → ∃ b o cs T fr, ad = some ⟨b, o, none⟩ ∧ w.heap[b]? = some (.cells cs T fr) ∧ (cs.toList.drop o).take (n * sz) = xs
/-- A slice's value, and what it holds. -/
def Row (w : World) (sz : Nat) (v : Value) (n : Nat) (xs : List Value) : Prop := ∃ ad c, v = .slice ad n c ∧ n ≤ c ∧ c ≤ maxLen ∧ RowAt w sz ad n xs
theorem RowAt.keep {w w' : World} {sz : Nat} {ad : Option Addr} {n : Nat} {xs : List Value} (h : RowAt w sz ad n xs) (g : ∀ a cs T fr, ad = some a → w.heap[a.block]? = some (.cells cs T fr) → w'.heap[a.block]? = some (.cells cs T fr)) : RowAt w' sz ad n xs :=
  ⟨h.len, h.lim, fun hn => by
    obtain ⟨b, o, cs, T, fr, rfl, hb, hx⟩ := h.at_ hn
    exact ⟨b, o, cs, T, fr, rfl, g _ _ _ _ rfl hb, hx⟩⟩
theorem RowAt.grow {w w' : World} {sz : Nat} {ad : Option Addr} {n : Nat} {xs : List Value} (h : RowAt w sz ad n xs) (g : Grow w w') : RowAt w' sz ad n xs := h.keep fun _ _ _ _ _ hb => g.heap hb
theorem Row.grow {w w' : World} {sz : Nat} {v : Value} {n : Nat} {xs : List Value} (h : Row w sz v n xs) (g : Grow w w') : Row w' sz v n xs := by
  obtain ⟨ad, c, h1, h2, h3, h4⟩ := h
  exact ⟨ad, c, h1, h2, h3, h4.grow g⟩
theorem Row.nil (w : World) (sz : Nat) : Row w sz (.slice none 0 0) 0 [] := ⟨none, 0, rfl, Nat.le_refl _, Nat.zero_le _, by simp, by omega, fun h => by omega⟩
theorem Row.of_block {w : World} {sz b n : Nat} {cs : Array Value} {T : TypeId} {fr : Nat × Nat} {xs : List Value} (hb : w.heap[b]? = some (.cells cs T fr)) (hc : cs.toList = xs) (hn : xs.length = n * sz) (hl : n ≤ 140737488355328) : Row w sz (.slice (some ⟨b, 0, none⟩) n n) n xs :=
  ⟨_, n, rfl, Nat.le_refl _, by simp only [maxLen]; omega, hn, hl, fun _ => ⟨b, 0, cs, T, fr, rfl, hb, by rw [List.drop_zero, hc, ← hn, List.take_length]⟩⟩
theorem Row.of_own {w : World} {sz base n : Nat} {T : TypeId} {v : Value} {xs : List Value} (h : w.ownsRow base T sz v n xs) (hl : n ≤ 140737488355328) : Row w sz v n xs := by
  obtain ⟨h1, h2⟩ := h
  rcases h2 with ⟨rfl, rfl⟩ | ⟨g, cap, cur, rfl, _, hg, hnc, hcm, hcs, ht⟩
  · have : xs = [] := List.eq_nil_of_length_eq_zero (by simpa using h1)
    subst this
    exact Row.nil _ _
  · exact ⟨_, cap, rfl, hnc, hcm, h1, hl, fun _ => ⟨g, 0, cur, T, (0, 0), rfl, hg, by rw [List.drop_zero]; exact ht⟩⟩

/-- A cell of a row. -/
theorem row_cell {cs : Array Value} {o m i : Nat} {xs : List Value} {x : Value} (h : (cs.toList.drop o).take m = xs) (hi : xs[i]? = some x) : cs[o + i]? = some x := by
  rw [← h, List.getElem?_take] at hi
  split at hi
  · rw [List.getElem?_drop] at hi; simpa using hi
  · cases hi
theorem row_size {cs : Array Value} {o m : Nat} {xs : List Value} (h : (cs.toList.drop o).take m = xs) (hl : xs.length = m) (hm : 0 < m) : o + m ≤ cs.size := by
  have := congrArg List.length h
  simp at this
  omega
theorem row_part {cs : Array Value} {o m i k : Nat} {xs : List Value} (h : (cs.toList.drop o).take m = xs) (hk : i + k ≤ m) : (cs.toList.drop (o + i)).take k = (xs.drop i).take k := by
  rw [← h, List.drop_take, List.take_take, List.drop_drop, show min k (m - i) = k from by omega]

/-- A part of a row: the slice of it. -/
theorem RowAt.part {w : World} {sz n : Nat} {ad : Option Addr} {xs : List Value} (h : RowAt w sz ad n xs) (l k : Nat) (hk : l + k ≤ n) (hsz : 0 < sz) : RowAt w sz (ad.map (·.add (l * sz))) k ((xs.drop (l * sz)).take (k * sz)) := by
  have h3 : (l + k) * sz ≤ n * sz := Nat.mul_le_mul_right _ hk
  rw [Nat.add_mul] at h3
  refine ⟨by rw [List.length_take, List.length_drop, h.len]; omega, by have := h.lim; omega, fun hp => ?_⟩
  obtain ⟨b, o, cs, T, fr, rfl, hb, hx⟩ := h.at_ (by omega)
  refine ⟨b, o + l * sz, cs, T, fr, by simp [add_lit], hb, ?_⟩
  exact row_part hx h3
theorem RowAt.empty (w : World) (sz : Nat) (ad : Option Addr) : RowAt w sz ad 0 [] := ⟨by simp, by omega, fun h => by omega⟩

theorem RowAt.sliceH {w : World} {sz n c m : Nat} {ad : Option Addr} {xs : List Value} (h : RowAt w sz ad n xs) (hc : n ≤ c) (hm : m ≤ n) (hsz : 0 < sz) : RowAt w sz (if c = 0 then ad else ad.map (·.add (0 * sz))) m (xs.take (m * sz)) := by
  split
  · have : m = 0 := by omega
    subst this
    rw [Nat.zero_mul, List.take_zero]
    exact RowAt.empty _ _ _
  · have := h.part 0 m (by omega) hsz
    simpa using this
theorem RowAt.sliceLH {w : World} {sz n c l m : Nat} {ad : Option Addr} {xs : List Value} (h : RowAt w sz ad n xs) (hc : n ≤ c) (hm : l + m ≤ n) (hsz : 0 < sz) : RowAt w sz (if c = l then ad else ad.map (·.add (l * sz))) m ((xs.drop (l * sz)).take (m * sz)) := by
  split
  · have : m = 0 := by omega
    subst this
    rw [Nat.zero_mul, List.take_zero]
    exact RowAt.empty _ _ _
  · exact h.part l m hm hsz

/-! ### trees -/
inductive Nd where
  | mk (kind size : Int) (words bytes : List Int) (kids : List Nd)
def Nd.kind : Nd → Int | .mk k _ _ _ _ => k
def Nd.size : Nd → Int | .mk _ s _ _ _ => s
def Nd.words : Nd → List Int | .mk _ _ w _ _ => w
def Nd.bytes : Nd → List Int | .mk _ _ _ b _ => b
def Nd.kids : Nd → List Nd | .mk _ _ _ _ k => k
mutual
inductive NodeR (w : World) : List Value → Nd → Prop
  | mk {kind size : Int} {words bytes : List Int} {kids : List Nd} {ws bs ks : Value} {kc : List Value} : inR .i64 kind → inR .i64 size →
      Row w 1 ws words.length (words.map (.int .u64)) → (∀ x ∈ words, inR .u64 x) → Row w 1 bs bytes.length (bytes.map (.int .u8)) → (∀ x ∈ bytes, inR .u8 x) →
      Row w 5 ks kids.length kc → KidsR w kc kids → NodeR w [.int .i64 kind, .int .i64 size, ws, bs, ks] (.mk kind size words bytes kids)
inductive KidsR (w : World) : List Value → List Nd → Prop
  | nil : KidsR w [] []
  | cons {c cs : List Value} {t : Nd} {ts : List Nd} : NodeR w c t → KidsR w cs ts → KidsR w (c ++ cs) (t :: ts)
end
theorem Row.keepB {w w' : World} {B : Nat} (hB : w.heap.size ≤ B) (g : Below B w w') {sz : Nat} {v : Value} {n : Nat} {xs : List Value} (h : Row w sz v n xs) : Row w' sz v n xs := h.grow (g.mono hB)
mutual
theorem NodeR.grow {w w' : World} (g : Grow w w') : ∀ {c : List Value} {t : Nd}, NodeR w c t → NodeR w' c t
  | _, _, .mk h1 h2 h3 h4 h5 h6 h7 h8 => .mk h1 h2 (h3.grow g) h4 (h5.grow g) h6 (h7.grow g) (KidsR.grow g h8)
theorem KidsR.grow {w w' : World} (g : Grow w w') : ∀ {c : List Value} {t : List Nd}, KidsR w c t → KidsR w' c t
  | _, _, .nil => .nil
  | _, _, .cons h1 h2 => .cons (NodeR.grow g h1) (KidsR.grow g h2)
end
theorem NodeR.len {w : World} {c : List Value} {t : Nd} (h : NodeR w c t) : c.length = 5 := by cases h; rfl
theorem KidsR.len {w : World} : ∀ {c : List Value} {ts : List Nd}, KidsR w c ts → c.length = ts.length * 5
  | _, _, .nil => rfl
  | _, _, .cons h1 h2 => by rw [List.length_append, h1.len, KidsR.len h2, List.length_cons]; omega
theorem KidsR.at_ {w : World} : ∀ {c : List Value} {ts : List Nd} (i : Nat) (t : Nd), KidsR w c ts → ts[i]? = some t → NodeR w ((c.drop (i * 5)).take 5) t
  | _, _, i, t, .nil, h => by simp at h
  | _, _, 0, t, .cons (c := c) (cs := cs) h1 h2, h => by
    simp only [List.getElem?_cons_zero, Option.some.injEq] at h
    subst h
    rw [Nat.zero_mul, List.drop_zero, List.take_left' h1.len]
    exact h1
  | _, _, i + 1, t, .cons (c := c) (cs := cs) h1 h2, h => by
    have := KidsR.at_ i t h2 (by simpa using h)
    rw [show (i + 1) * 5 = c.length + i * 5 from by rw [h1.len]; omega, ← List.drop_drop, List.drop_left]
    exact this
theorem KidsR.append {w : World} : ∀ {c d : List Value} {ts us : List Nd}, KidsR w c ts → KidsR w d us → KidsR w (c ++ d) (ts ++ us)
  | _, _, _, _, .nil, k => k
  | _, _, _, _, .cons h1 h2, k => by rw [List.append_assoc]; exact .cons h1 (KidsR.append h2 k)

/-! ### what is kept while own blocks change -/
structure Kp (F : List Nat) (w w' : World) : Prop where
  os : w'.os = w.os
  tape : w'.tape = w.tape
  output : w'.output = w.output
  size : w.heap.size ≤ w'.heap.size
  block : ∀ k, k < w.heap.size → k ∉ F → w'.heap[k]? = w.heap[k]?
theorem Kp.refl (F : List Nat) (w : World) : Kp F w w := ⟨rfl, rfl, rfl, Nat.le_refl _, fun _ _ _ => rfl⟩
theorem Kp.of_grow {F : List Nat} {w w' : World} (g : Grow w w') : Kp F w w' := ⟨g.os, g.tape, g.output, g.size, fun k hk _ => g.block k hk⟩
theorem Kp.of_upd {F : List Nat} {b : Nat} {w w' : World} (u : Upd b w w') (hb : b ∈ F) : Kp F w w' := ⟨u.os, u.tape, u.output, by rw [u.size]; exact Nat.le_refl _, fun k _ hk => u.other k (fun h => hk (h ▸ hb))⟩
theorem Kp.trans {F F' : List Nat} {a b c : World} (h : Kp F a b) (k : Kp F' b c) (hF : ∀ x ∈ F', x ∈ F ∨ a.heap.size ≤ x) : Kp F a c :=
  ⟨k.os.trans h.os, k.tape.trans h.tape, k.output.trans h.output, Nat.le_trans h.size k.size, fun i hi hn => by
    rw [k.block i (Nat.lt_of_lt_of_le hi h.size) (fun hm => (hF i hm).elim hn (by omega)), h.block i hi hn]⟩
theorem Kp.mono {F F' : List Nat} {a b : World} (h : Kp F a b) (hF : ∀ x ∈ F, x ∈ F' ∨ a.heap.size ≤ x) : Kp F' a b :=
  ⟨h.os, h.tape, h.output, h.size, fun i hi hn => h.block i hi (fun hm => (hF i hm).elim hn (by omega))⟩
theorem Kp.heap {F : List Nat} {w w' : World} (h : Kp F w w') {b : Nat} {o : Obj} (hb : w.heap[b]? = some o) (hn : b ∉ F) : w'.heap[b]? = some o := by
  rw [h.block b (lt_of_heap hb) hn]; exact hb
theorem Kp.below {F : List Nat} {w w' : World} (h : Kp F w w') {a : Nat} (ha : ∀ x ∈ F, a ≤ x) (hw : a ≤ w.heap.size) : Below a w w' :=
  ⟨h.os, h.tape, h.output, h.size, fun k hk => h.block k (by omega) (fun hm => by have := ha k hm; omega)⟩
theorem Kp.grow {w w' : World} (h : Kp [] w w') : Grow w w' := ⟨h.os, h.tape, h.output, h.size, fun k hk => h.block k hk (by simp)⟩
theorem Kp.of_grownBy {F : List Nat} {row : Option Nat} {w w' : World} (h : w.grownBy w' row) (hr : ∀ k, row = some k → k ∈ F) : Kp F w w' :=
  ⟨h.os, h.tape, h.output, h.size, fun k hk hn => h.block k hk (fun e => hn (hr k e.symm))⟩

section
variable {P : Program} {ops : Array Oper} {Q : Ex → Env → World → Prop} {e : Env} {w : World} {K : Value → World → Prop} {r : List Oper}
variable {d : Option Nat} {ty : TypeId} {pos : String} {af : Array Edge} {g : Option (Nat × Bool)}
variable {t u : TypeId} {x y : Operand} {k k' : IntKind} {a c : Int}
theorem el_sliced {el : TypeId} {sz : Nat} (hu : elS P t = some (el, sz)) : P.underlying t = some (.slice (P.elem t)) ∧ ∃ inf, P.info? (P.elem t) = some inf ∧ inf.size = sz := by
  unfold elS at hu
  split at hu
  · rename_i el' hul
    split at hu
    · rename_i inf hi'
      simp only [Option.some.injEq, Prod.mk.injEq] at hu
      obtain ⟨rfl, rfl⟩ := hu
      have he : P.elem t = el' := by simp [Program.elem, hul]
      exact ⟨by rw [he]; exact hul, inf, by rw [he]; exact hi', rfl⟩
    · cases hu
  · cases hu
/-- A slice of a slice: from the front, to somewhere, between. -/
theorem r_sliceLH {n cap : Nat} {ad : Option Addr} {el : TypeId} {sz : Nat} [hui : ElI P t el sz] {lo hi : Operand} {l h : Int} (hx : ev e x = .slice ad n cap) (hl : ev e lo = .int k l) (hh : ev e hi = .int k' h) (h0 : 0 ≤ l) (h1 : l ≤ h) (h2 : h ≤ cap)
    (hK : K (.slice (if cap = l.toNat then ad else ad.map (·.add (l.toNat * sz))) (h.toNat - l.toNat) (cap - l.toNat)) w) : Run1 P ⟨d, .slice t x (some lo) (some hi) none, ty, pos, af, g⟩ e w K := by
  obtain ⟨hu, inf, hi', rfl⟩ := el_sliced hui.h
  refine run1_ok (w' := w) ?_ hK
  simp only [execOp, Option.map_some, Option.map_none, hx, hl, hh, Sem.run_bind, run_sliceAt_slice w t _ _ _ _ hu, run_slice_lh w t ad n cap hu k k' l h h0 h1 h2, sizeOf, typeInfo, program, Sem.run, hi', Sem.run_pure, Result.andThen_ok, sliced]
theorem r_sliceH {n cap : Nat} {ad : Option Addr} {el : TypeId} {sz : Nat} [hui : ElI P t el sz] {hi : Operand} {h : Int} (hx : ev e x = .slice ad n cap) (hh : ev e hi = .int k' h) (h0 : 0 ≤ h) (h2 : h ≤ cap)
    (hK : K (.slice (if cap = 0 then ad else ad.map (·.add (0 * sz))) h.toNat cap) w) : Run1 P ⟨d, .slice t x none (some hi) none, ty, pos, af, g⟩ e w K := by
  obtain ⟨hu, inf, hi', rfl⟩ := el_sliced hui.h
  refine run1_ok (w' := w) ?_ hK
  simp only [execOp, Option.map_some, Option.map_none, hx, hh, Sem.run_bind, run_sliceAt_slice w t _ _ _ _ hu, run_slice_h w t ad n cap hu k' h h0 h2, sizeOf, typeInfo, program, Sem.run, hi', Sem.run_pure, Result.andThen_ok, sliced, Nat.sub_zero]
theorem r_sliceL {n cap : Nat} {ad : Option Addr} {el : TypeId} {sz : Nat} [hui : ElI P t el sz] {lo : Operand} {l : Int} (hx : ev e x = .slice ad n cap) (hl : ev e lo = .int k l) (h0 : 0 ≤ l) (h1 : l ≤ n)
    (hK : K (.slice (if cap = l.toNat then ad else ad.map (·.add (l.toNat * sz))) (n - l.toNat) (cap - l.toNat)) w) : Run1 P ⟨d, .slice t x (some lo) none none, ty, pos, af, g⟩ e w K := by
  obtain ⟨hu, inf, hi', rfl⟩ := el_sliced hui.h
  refine run1_ok (w' := w) ?_ hK
  simp only [execOp, Option.map_some, Option.map_none, hx, hl, Sem.run_bind, run_sliceAt_slice w t _ _ _ _ hu, run_slice_l w t ad n cap hu k l h0 h1, sizeOf, typeInfo, program, Sem.run, hi', Sem.run_pure, Result.andThen_ok, sliced]
end
end Go.Proofs.Ytldlfhodboigeaa.K
