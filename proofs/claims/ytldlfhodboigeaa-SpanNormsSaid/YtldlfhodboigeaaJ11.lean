/- Guarded operations without a split; reads out of rows by number. Generic in the program. -/
import Derived.Test.YtldlfhodboigeaaJ10
set_option linter.unusedVariables false
set_option linter.unusedSimpArgs false
namespace Go.Proofs.Ytldlfhodboigeaa.K
open Go Go.RowKit

/-- What a slot holds whose operation is guarded. -/
def gv (c : Bool) (v : Value) : Value := bif c then v else undef
theorem gvt {c : Bool} {v : Value} (h : c = true) : gv c v = v := by rw [h]; rfl
def wgb (x : Value) (b : Bool) : Bool := match x with | .bool c => c == b | _ => false
theorem wgb_t (p : Bool) : wgb (.bool p) true = p := by cases p <;> rfl
theorem wgb_f (p : Bool) : wgb (.bool p) false = !p := by cases p <;> rfl
theorem wgb_gt (c p : Bool) : wgb (gv c (.bool p)) true = (c && p) := by cases c <;> cases p <;> rfl
theorem wgb_gf (c p : Bool) : wgb (gv c (.bool p)) false = (c && !p) := by cases c <;> cases p <;> rfl
theorem and_t {a b : Bool} (h : (a && b) = true) : a = true ∧ b = true := by simpa using h
section
variable {P : Program} {ops : Array Oper} {Q : Ex → Env → World → Prop} {e : Env} {w : World} {K : Value → World → Prop} {r : List Oper}
variable {d : Option Nat} {ty : TypeId} {pos : String} {af : Array Edge} {g : Option (Nat × Bool)}
variable {t u : TypeId} {x y z : Operand} {k k' : IntKind} {a : Int}
theorem og_if {o : Oper} {s : Value} {b c : Bool} {v : Value} (hw : wantedE ops o e = wgb s b) (hc : wgb s b = c) (hr : c = true → Run1 P o e w fun v' w' => v' = v ∧ w' = w) (h : K (gv c v) w) : OpG P ops o e w K := by
  rw [hc] at hw
  cases c with
  | true => exact og hw ((hr rfl).mono fun v' w' ⟨h1, h2⟩ => by subst h1; subst h2; exact h)
  | false => exact og_no hw h
theorem og_ifg {o : Oper} {s : Value} {b c : Bool} {v : Value} (hw : wantedE ops o e = wgb s b) (hc : wgb s b = c) (hr : c = true → Run1 P o e w fun v' w' => v' = v ∧ Grow w w') (h : ∀ w', Grow w w' → K (gv c v) w') : OpG P ops o e w K := by
  rw [hc] at hw
  cases c with
  | true => exact og hw ((hr rfl).mono fun v' w' ⟨h1, h2⟩ => by subst h1; exact h _ h2)
  | false => exact og_no hw (h _ (Grow.rfl' _))
/-- '&&' and '||', of which the right side was guarded. -/
theorem r_and2 {p q : Bool} (hc : ev e x = .bool p) (hy : ev e y = gv p (.bool q)) (hz : ev e z = .bool false) (h : K (.bool (p && q)) w) : Run1 P ⟨d, .pick x y z, ty, pos, af, g⟩ e w K := by
  cases p
  · exact r_pick_f hc rfl hz h
  · exact r_pick_t hc rfl hy h
theorem r_or2 {p q : Bool} (hc : ev e x = .bool p) (hy : ev e y = .bool true) (hz : ev e z = gv (!p) (.bool q)) (h : K (.bool (p || q)) w) : Run1 P ⟨d, .pick x y z, ty, pos, af, g⟩ e w K := by
  cases p
  · exact r_pick_f hc rfl hz h
  · exact r_pick_t hc rfl hy h
theorem r_and3 {c p q : Bool} (ht : c = true) (hc : ev e x = .bool p) (hy : ev e y = gv (c && p) (.bool q)) (hz : ev e z = .bool false) (h : K (.bool (p && q)) w) : Run1 P ⟨d, .pick x y z, ty, pos, af, g⟩ e w K := by
  subst ht; exact r_and2 hc (by simpa using hy) hz h
theorem r_or3 {c p q : Bool} (ht : c = true) (hc : ev e x = .bool p) (hy : ev e y = .bool true) (hz : ev e z = gv (c && !p) (.bool q)) (h : K (.bool (p || q)) w) : Run1 P ⟨d, .pick x y z, ty, pos, af, g⟩ e w K := by
  subst ht; exact r_or2 hc hy (by simpa using hz) h

theorem r_givesA {f : FuncId} {fv : Operand} {args : Array Operand} {at_ : Array TypeId} {fst cap : Array Value} {v : Value} {l : List Value}
    (hx : ev e fv = .func (.func f) fst cap) [hfi : FuncI P f] (ha : argsOf e fst args cap = l) (hc : Gives P f l.toArray w v) (h : ∀ w', Grow w w' → K v w') : Run1 P ⟨d, .call ⟨.value fv, args, at_⟩, ty, pos, af, g⟩ e w K :=
  r_gives hx (by rw [ha]; exact hc) h

/-! ### rows, by their address -/
/-- The cell so far behind an address. -/
def eadr (ad : Option Addr) (k : Nat) : Addr := ⟨(ad.getD ⟨0, 0, none⟩).block, (ad.getD ⟨0, 0, none⟩).off + k, none⟩
theorem r_indexR {n c sz : Nat} {ad : Option Addr} {el : TypeId} {xs : List Value} {i : Int} [hui : ElI P t el sz] (R : RowAt w sz ad n xs) (hx : ev e x = .slice ad n c) (hy : ev e y = .int k i) (h0 : 0 ≤ i) (h1 : i < n)
    (h : K (.pointer (some (eadr ad (i.toNat * sz)))) w) : Run1 P ⟨d, .indexAddr t x y, ty, pos, af, g⟩ e w K := by
  obtain ⟨b, o, cs, T, fr, rfl, hb, hr⟩ := R.at_ (by omega)
  exact r_indexAddr hx hy h0 h1 h
theorem r_indexN {n c sz : Nat} {ad : Option Addr} {el : TypeId} {xs : List Value} {i : Nat} [hui : ElI P t el sz] (R : RowAt w sz ad n xs) (hx : ev e x = .slice ad n c) (hy : ev e y = .int k (i : Int)) (h1 : i < n)
    (h : K (.pointer (some (eadr ad (i * sz)))) w) : Run1 P ⟨d, .indexAddr t x y, ty, pos, af, g⟩ e w K :=
  r_indexR R hx hy (by omega) (by omega) (by rw [Int.toNat_natCast]; exact h)
/-- A cell of a row's element. -/
theorem r_loadR {n m j : Nat} {ad : Option Addr} {xs : List Value} {v : Value} {sz : Nat} [hti : TyI P t 1 false] (R : RowAt w sz ad n xs) (hx : ev e x = .pointer (some (eadr ad j))) (hj : xs[j]? = some v) (h : K v w) : Run1 P ⟨d, .load t x, ty, pos, af, g⟩ e w K := by
  have hlt : j < xs.length := (List.getElem?_eq_some_iff.1 hj).1
  have hn : 0 < n := by
    rcases Nat.eq_zero_or_pos n with h0 | h0
    · subst h0; have := R.len; rw [Nat.zero_mul] at this; omega
    · exact h0
  obtain ⟨b, o, cs, T, fr, rfl, hb, hr⟩ := R.at_ hn
  exact r_load hx hb (row_cell hr hj) h
/-- An element of so many cells. -/
theorem r_loadNR {n m j : Nat} {ad : Option Addr} {xs : List Value} {vs : List Value} {sz : Nat} [hti : TyI P t m true] (R : RowAt w sz ad n xs) (hx : ev e x = .pointer (some (eadr ad j))) (hm : 0 < m) (hjm : j + m ≤ xs.length) (hj : (xs.drop j).take m = vs) (h : K (.agg vs.toArray) w) : Run1 P ⟨d, .load t x, ty, pos, af, g⟩ e w K := by
  have hn : 0 < n := by
    rcases Nat.eq_zero_or_pos n with h0 | h0
    · subst h0; have := R.len; rw [Nat.zero_mul] at this; omega
    · exact h0
  obtain ⟨b, o, cs, T, fr, rfl, hb, hr⟩ := R.at_ hn
  have hsz := row_size hr R.len (Nat.lt_of_lt_of_le (by omega) (Nat.le_of_eq R.len))
  have hl := R.len
  refine r_loadN (vs := vs.toArray) hx hb (Nat.ble_eq_true_of_le (by show o + j + m ≤ _; omega)) ?_ h
  show ((cs.toList.drop (o + j)).take m).toArray = _
  rw [row_part hr (by omega), hj]
theorem r_fieldE {f off j : Nat} {ad : Option Addr} [hfi : FldI P t f off] (hx : ev e x = .pointer (some (eadr ad j))) (h : K (.pointer (some (eadr ad (j + off)))) w) : Run1 P ⟨d, .fieldAddr t x f, ty, pos, af, g⟩ e w K :=
  r_fieldAddr hx (by
    have : (⟨(ad.getD ⟨0, 0, none⟩).block, (ad.getD ⟨0, 0, none⟩).off + j + off, none⟩ : Addr) = eadr ad (j + off) := by simp only [eadr, Nat.add_assoc]
    rw [this]; exact h)
end
theorem map_get {α : Type} {f : α → Value} {L : List α} (dflt : α) {j : Nat} (h : j < L.length) : (L.map f)[j]? = some (f (L.getD j dflt)) := by
  rw [List.getElem?_map, List.getElem?_eq_getElem h, List.getD_eq_getElem?_getD, List.getElem?_eq_getElem h]; rfl
theorem map_get1 {α : Type} {f : α → Value} {L : List α} (dflt : α) {j : Nat} (h : j < L.length) : (L.map f)[j * 1]? = some (f (L.getD j dflt)) := by rw [Nat.mul_one]; exact map_get dflt h
theorem getD_at {α : Type} {L : List α} {dflt : α} {j : Nat} (h : j < L.length) : L.getD j dflt = L[j] := by
  rw [List.getD_eq_getElem?_getD, List.getElem?_eq_getElem h]; rfl
theorem bool_ft (b : Bool) : b = false ∨ b = true := by cases b <;> simp
theorem own_lit {w : World} {b base n sz : Nat} {T : TypeId} {cs : Array Value} (hc : w.heap[b]? = some (.cells cs T (0, 0))) (hb : base ≤ b) (hn : cs.size = n * sz) (hl : n ≤ maxLen) : w.ownsRow base T sz (.slice (some ⟨b, 0, none⟩) n n) n cs.toList :=
  ⟨by rw [Array.length_toList, hn], .inr ⟨b, n, cs, rfl, hb, hc, Nat.le_refl _, hl, hn, by rw [List.take_of_length_le (by rw [Array.length_toList, hn]; exact Nat.le_refl _)]⟩⟩
theorem gr_grow {w w' : World} {n : Nat} (h : w.grownBy w' (Value.slice none n n).ownBlock) : Grow w w' := ⟨h.os, h.tape, h.output, h.size, fun k hk => h.block k hk (by simp [Value.ownBlock])⟩
theorem own_gr {w w' : World} {base base' n m sz sz' : Nat} {T T' : TypeId} {v v' : Value} {xs ys : List Value} (h : w.ownsRow base T sz v n xs) (h' : w.ownsRow base' T' sz' v' m ys) (hT : T ≠ T') (g : w.grownBy w' v'.ownBlock) : w'.ownsRow base T sz v n xs := by
  refine ⟨h.1, ?_⟩
  rcases h.2 with hn | ⟨q, cap, cur, rfl, hb, hg, rest⟩
  · exact .inl hn
  · exact .inr ⟨q, cap, cur, rfl, hb, gr_heap g hg (own_ne h' hg hT.symm), rest⟩
theorem own_pos {w : World} {base n sz : Nat} {T : TypeId} {v : Value} {xs : List Value} (h : w.ownsRow base T sz v n xs) (hn : 0 < n) : ∃ g c cur, v = .slice (some ⟨g, 0, none⟩) n c ∧ base ≤ g ∧ w.heap[g]? = some (.cells cur T (0, 0)) ∧ n ≤ c ∧ c ≤ maxLen ∧ cur.size = c * sz ∧ cur.toList.take (n * sz) = xs := by
  rcases h.2 with ⟨_, h0⟩ | h
  · omega
  · obtain ⟨g, c, cur, h1, h2, h3, h4, h5, h6, h7⟩ := h; exact ⟨g, c, cur, h1, h2, h3, h4, h5, h6, h7⟩
theorem own_slice {w : World} {base n sz : Nat} {T : TypeId} {v : Value} {xs : List Value} (h : w.ownsRow base T sz v n xs) : ∃ ad m c, v = .slice ad m c := by
  rcases h.2 with ⟨rfl, rfl⟩ | ⟨q, cap, cur, rfl, _, _, hn, _⟩
  · exact ⟨_, _, _, rfl⟩
  · exact ⟨_, _, _, rfl⟩
theorem getD_lt {L : List Bool} {j : Nat} (h : L.getD j false = true) : j < L.length := by
  rcases Nat.lt_or_ge j L.length with h1 | h1
  · exact h1
  · rw [List.getD_eq_getElem?_getD, List.getElem?_eq_none h1] at h; cases h
end Go.Proofs.Ytldlfhodboigeaa.K
