/- What is seen of memory above a mark; trees as choices say (chapter 08's statements). No program here. -/
import Derived.Test.YtldlfhodboigeaaO08
set_option linter.unusedVariables false
set_option linter.unusedSimpArgs false
namespace Go.Proofs.Ytldlfhodboigeaa.K
open Go Go.RowKit

open Classical in
/-- Memory of which only so many blocks are seen. -/
noncomputable def see (V : Nat → Prop) (w : World) : World := { w with heap := w.heap.mapIdx fun i o => if V i then o else .deferred none }
theorem see_cells {V : Nat → Prop} {k : Nat} {w : World} {cs : Array Value} {T : TypeId} {fr : Nat × Nat} : (see V w).heap[k]? = some (.cells cs T fr) ↔ V k ∧ w.heap[k]? = some (.cells cs T fr) := by
  have h0 : (see V w).heap[k]? = (w.heap[k]?).map fun o => @ite _ (V k) (Classical.propDecidable _) o (.deferred none) := by simp only [see, Array.getElem?_mapIdx]
  rw [h0]
  constructor
  · intro h
    cases hk : w.heap[k]? with
    | none => rw [hk] at h; cases h
    | some o =>
      rw [hk] at h
      simp only [Option.map_some, Option.some.injEq] at h
      split at h
      · subst h; rename_i hv; exact ⟨hv, rfl⟩
      · cases h
  · rintro ⟨h1, h2⟩
    rw [h2, Option.map_some, if_pos h1]
/-- All above a mark. -/
noncomputable abbrev hide (B : Nat) (w : World) : World := see (fun x => B ≤ x) w
/-- The cells that one memory shows another one shows, too. -/
def Sees (w w' : World) : Prop := ∀ (b : Nat) (cs : Array Value) (T : TypeId) (fr : Nat × Nat), w.heap[b]? = some (.cells cs T fr) → w'.heap[b]? = some (.cells cs T fr)
theorem Sees.of_grow {w w' : World} (g : Grow w w') : Sees w w' := fun _ _ _ _ h => g.heap h
theorem Sees.trans {a b c : World} (h : Sees a b) (k : Sees b c) : Sees a c := fun _ _ _ _ x => k _ _ _ _ (h _ _ _ _ x)
theorem Sees.seen (V : Nat → Prop) (w : World) : Sees (see V w) w := fun _ _ _ _ h => (see_cells.1 h).2
theorem Sees.more {V V' : Nat → Prop} (w : World) (h : ∀ x, x < w.heap.size → V x → V' x) : Sees (see V w) (see V' w) := fun b _ _ _ x =>
  have y := see_cells.1 x
  see_cells.2 ⟨h b (lt_of_heap y.2) y.1, y.2⟩
theorem Sees.low {B B' : Nat} (h : B ≤ B') (w : World) : Sees (hide B' w) (hide B w) := Sees.more w fun x _ hx => Nat.le_trans h hx
theorem Sees.kp {F : List Nat} {V : Nat → Prop} {w w' : World} (k : Kp F w w') (hF : ∀ x ∈ F, ¬ V x) : Sees (see V w) (see V w') := fun b _ _ _ x =>
  have h := see_cells.1 x
  see_cells.2 ⟨h.1, k.heap h.2 fun hm => hF b hm h.1⟩
theorem Sees.grow {V : Nat → Prop} {w w' : World} (g : Grow w w') : Sees (see V w) (see V w') := Sees.kp (F := []) (Kp.of_grow g) (fun x hx => by simp at hx)
theorem Sees.upd {b : Nat} {V : Nat → Prop} {w w' : World} (u : Upd b w w') (hb : ¬ V b) : Sees (see V w) (see V w') := Sees.kp (F := [b]) (Kp.of_upd u (by simp)) (fun x hx => by simp only [List.mem_singleton] at hx; subst hx; exact hb)
theorem vlt {V : Nat → Prop} {B n m : Nat} (h : ∀ x, V x → B ≤ x ∧ x < n) (hn : n ≤ m) : ∀ x, V x → B ≤ x ∧ x < m := fun x hx => ⟨(h x hx).1, Nat.lt_of_lt_of_le (h x hx).2 hn⟩
theorem RowAt.sees {w w' : World} (g : Sees w w') {sz : Nat} {ad : Option Addr} {n : Nat} {xs : List Value} (h : RowAt w sz ad n xs) : RowAt w' sz ad n xs := h.keep fun _ _ _ _ _ hb => g _ _ _ _ hb
theorem Row.sees {w w' : World} (g : Sees w w') {sz : Nat} {v : Value} {n : Nat} {xs : List Value} (h : Row w sz v n xs) : Row w' sz v n xs := by
  obtain ⟨ad, c, h1, h2, h3, h4⟩ := h
  exact ⟨ad, c, h1, h2, h3, h4.sees g⟩
mutual
theorem NodeR.sees {w w' : World} (g : Sees w w') : ∀ {c : List Value} {t : Nd}, NodeR w c t → NodeR w' c t
  | _, _, .mk h1 h2 h3 h4 h5 h6 h7 h8 => .mk h1 h2 (h3.sees g) h4 (h5.sees g) h6 (h7.sees g) (KidsR.sees g h8)
theorem KidsR.sees {w w' : World} (g : Sees w w') : ∀ {c : List Value} {t : List Nd}, KidsR w c t → KidsR w' c t
  | _, _, .nil => .nil
  | _, _, .cons h1 h2 => .cons (NodeR.sees g h1) (KidsR.sees g h2)
end
theorem own_hide {w : World} {base n sz : Nat} {T : TypeId} {v : Value} {xs : List Value} (h : w.ownsRow base T sz v n xs) (hl : n ≤ 140737488355328) : Row (hide base w) sz v n xs := by
  obtain ⟨h1, h2⟩ := h
  rcases h2 with ⟨rfl, rfl⟩ | ⟨g, cap, cur, rfl, hb, hg, hnc, hcm, hcs, ht⟩
  · have : xs = [] := List.eq_nil_of_length_eq_zero (by simpa using h1)
    subst this; exact Row.nil _ sz
  · exact ⟨_, cap, rfl, hnc, hcm, h1, hl, fun _ => ⟨g, 0, cur, T, (0, 0), rfl, see_cells.2 ⟨hb, hg⟩, by rw [List.drop_zero]; exact ht⟩⟩
theorem own_hide_ints {w : World} {base n m : Nat} {T : TypeId} {v : Value} {k : IntKind} {f : Nat → Int} (h : w.ownsRow base T 1 v n ((List.range n).map fun i => .int k (f i))) (hm : n = m) (hl : n ≤ 1000) : Row (hide base w) 1 v ((List.range m).map f).length (((List.range m).map f).map (.int k)) := by
  subst hm
  rw [List.length_map, List.length_range, List.map_map]
  exact own_hide h (by omega)
def Nd.nil : Nd := .mk 0 0 [] [] []
theorem NodeR.zero (w : World) : NodeR w [.int .i64 0, .int .i64 0, .slice none 0 0, .slice none 0 0, .slice none 0 0] Nd.nil :=
  .mk (by simp [inR]) (by simp [inR]) (Row.nil _ _) (by simp) (Row.nil _ _) (by simp) (Row.nil _ _) .nil
/-! ### choices -/
def bTree (k : Int) (i : Nat) : Int := IntKind.u8.wrap (k + i)
def w3Tree (k : Int) (i : Nat) : Int := IntKind.u64.wrap (IntKind.u64.wrap (k * 81985529216486895) + i)
def w4Tree (k : Int) (i : Nat) : Int := IntKind.u64.wrap (IntKind.u64.wrap (k * 2 ^ min (8 * (i : Int)).toNat IntKind.u64.bits) + i)
/-- So many things, one behind the other; what is left of the choices. -/
def treesP (f : List Int → Nd × List Int) : Nat → List Int → List Nd × List Int
  | 0, c => ([], c)
  | n + 1, c => ((treesP f n c).1 ++ [(f (treesP f n c).2).1], (f (treesP f n c).2).2)
def treeP : Nat → List Int → Nd × List Int
  | 0, c => (.nil, c)
  | _ + 1, [] => (.nil, [])
  | d + 1, k :: c =>
    if k % 8 = 0 then (.nil, c)
    else if k % 8 = 1 ∨ k % 8 = 2 then (.mk 2 2 [] ((List.range (3 * (k / 8 % 5) + k % 2).toNat).map (bTree k)) [], c)
    else if k % 8 = 3 then (.mk 2 5 ((List.range (k / 8 % 5).toNat).map (w3Tree k)) [] [], c)
    else if k % 8 > 6 then (.mk 2 6 [] [] (treesP (treeP d) (k / 8 % 5).toNat c).1, (treesP (treeP d) (k / 8 % 5).toNat c).2)
    else (.mk 1 0 ((List.range (k / 64).toNat).map (w4Tree k)) [] (treesP (treeP d) (k / 8 % 5).toNat c).1, (treesP (treeP d) (k / 8 % 5).toNat c).2)
theorem treeP_stop {d : Nat} {xs : List Int} (h : xs = [] ∨ d = 0) : treeP d xs = (.nil, xs) := by
  match d, xs, h with
  | 0, xs, _ => simp [treeP]
  | d + 1, [], _ => simp [treeP]
  | d + 1, x :: xs, h => rcases h with h | h <;> simp at h
theorem wrap_u8R (n : Int) : inR .u8 (IntKind.u8.wrap n) := by simp only [inR, IntKind.wrap_u8]; omega
theorem wrap_u64R (n : Int) : inR .u64 (IntKind.u64.wrap n) := by simp only [inR, IntKind.wrap_u64]; omega
theorem treesP_mem {f : List Int → Nd × List Int} {Q : List Int → Prop} (hf : ∀ c, Q c → Q (f c).2) : ∀ (n : Nat) (c : List Int), Q c → Q (treesP f n c).2
  | 0, c, h => h
  | n + 1, c, h => hf _ (treesP_mem hf n c h)
/-- What is left is a part of what there was. -/
theorem treeP_rest {Q : Int → Prop} : ∀ (d : Nat) (c : List Int), (∀ x ∈ c, Q x) → ∀ x ∈ (treeP d c).2, Q x
  | 0, c, h => by simpa [treeP] using h
  | d + 1, [], h => by simp [treeP]
  | d + 1, k :: c, h => by
    have hc : ∀ x ∈ c, Q x := fun x hx => h x (by simp [hx])
    have ht := treesP_mem (f := treeP d) (Q := fun c => ∀ x ∈ c, Q x) (fun c hq => treeP_rest d c hq) (k / 8 % 5).toNat c hc
    simp only [treeP]
    split
    · exact hc
    · split
      · exact hc
      · split
        · exact hc
        · split <;> exact ht
theorem treesP_rest {Q : Int → Prop} (d n : Nat) (c : List Int) (h : ∀ x ∈ c, Q x) : ∀ x ∈ (treesP (treeP d) n c).2, Q x :=
  treesP_mem (f := treeP d) (Q := fun c => ∀ x ∈ c, Q x) (fun c hq => treeP_rest d c hq) n c h
theorem treeP_len : ∀ (d : Nat) (c : List Int), (treeP d c).2.length ≤ c.length
  | 0, c => by simp [treeP]
  | d + 1, [] => by simp [treeP]
  | d + 1, k :: c => by
    have ht := treesP_mem (f := treeP d) (Q := fun x => x.length ≤ c.length) (fun x hq => Nat.le_trans (treeP_len d x) hq) (k / 8 % 5).toNat c (Nat.le_refl _)
    simp only [treeP]
    split
    · simp
    · split
      · simp
      · split
        · simp
        · split <;> simp only [List.length_cons] <;> omega
theorem treesP_len (d n : Nat) (c : List Int) : (treesP (treeP d) n c).2.length ≤ c.length :=
  treesP_mem (f := treeP d) (Q := fun x => x.length ≤ c.length) (fun x hq => Nat.le_trans (treeP_len d x) hq) n c (Nat.le_refl _)
theorem treesP_count (f : List Int → Nd × List Int) : ∀ (n : Nat) (c : List Int), (treesP f n c).1.length = n
  | 0, _ => rfl
  | n + 1, c => by simp [treesP, treesP_count f n c]
end Go.Proofs.Ytldlfhodboigeaa.K
