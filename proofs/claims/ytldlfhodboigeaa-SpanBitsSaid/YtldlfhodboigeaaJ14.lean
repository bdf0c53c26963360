/- In a drawn region: fresh boxes of one type may be written, whichever they are. -/
import Derived.Test.YtldlfhodboigeaaB08
import Derived.Test.YtldlfhodboigeaaJ11
set_option linter.unusedVariables false
set_option linter.unusedSimpArgs false
namespace Go.Proofs.Ytldlfhodboigeaa.K
open Go Go.RowKit
structure KtP (T : TypeId) (base : Nat) (w w' : World) : Prop where
  os : w'.os = w.os
  tape : w'.tape = w.tape
  output : w'.output = w.output
  size : w.heap.size ≤ w'.heap.size
  old : ∀ k : Nat, k < w.heap.size → (k < base ∨ ¬ ∃ cs, w.heap[k]? = some (.cells cs T (0, 0))) → w'.heap[k]? = w.heap[k]?
  new : ∀ (k : Nat) (cs : Array Value), w.heap[k]? = some (.cells cs T (0, 0)) → ∃ cs' : Array Value, cs'.size = cs.size ∧ w'.heap[k]? = some (.cells cs' T (0, 0))
def ktR (T : TypeId) (base : Nat) : KpR where
  r := KtP T base
  refl := fun w => ⟨rfl, rfl, rfl, Nat.le_refl _, fun _ _ _ => rfl, fun k cs h => ⟨cs, rfl, h⟩⟩
  tr := fun {a b c} h k => ⟨k.os.trans h.os, k.tape.trans h.tape, k.output.trans h.output, Nat.le_trans h.size k.size, fun i hi hc => by
      have h1 := h.old i hi hc
      rw [k.old i (Nat.lt_of_lt_of_le hi h.size) (by rw [h1]; exact hc), h1], fun i cs hi => by
      obtain ⟨cs1, h1, h2⟩ := h.new i cs hi
      obtain ⟨cs2, h3, h4⟩ := k.new i cs1 h2
      exact ⟨cs2, h3.trans h1, h4⟩⟩
  grow := fun {a b} g => ⟨g.os, g.tape, g.output, g.size, fun k hk _ => g.block k hk, fun k cs h => ⟨cs, rfl, g.heap h⟩⟩
theorem KtP.to_grow {T : TypeId} {W w w' : World} (k : KtP T W.heap.size w w') (g : Grow W w) : Grow W w' :=
  ⟨k.os.trans g.os, k.tape.trans g.tape, k.output.trans g.output, Nat.le_trans g.size k.size, fun i hi => by rw [k.old i (Nat.lt_of_lt_of_le hi g.size) (.inl hi), g.block i hi]⟩
theorem KtP.of_upd {T : TypeId} {base b : Nat} {w w' : World} {cs cs2 : Array Value} (u : Upd b w w') (hb : base ≤ b) (h : w.heap[b]? = some (.cells cs T (0, 0))) (h2 : w'.heap[b]? = some (.cells cs2 T (0, 0))) (hs : cs2.size = cs.size) : KtP T base w w' :=
  ⟨u.os, u.tape, u.output, by rw [u.size]; exact Nat.le_refl _, fun k hk hc => u.other k (fun he => hc.elim (fun h3 => by omega) (fun h3 => h3 ⟨cs, he ▸ h⟩)), fun k cs3 h3 => by
    by_cases he : k = b
    · subst he
      rw [h] at h3
      simp only [Option.some.injEq, Obj.cells.injEq] at h3
      exact ⟨cs2, by rw [hs, h3.1], h2⟩
    · exact ⟨cs3, rfl, by rw [u.other k he]; exact h3⟩⟩
theorem KtP.heap {T T2 : TypeId} {base k : Nat} {w w' : World} {cs : Array Value} {fr : Nat × Nat} (h : KtP T base w w') (hk : w.heap[k]? = some (.cells cs T2 fr)) (hT : T2 ≠ T) : w'.heap[k]? = some (.cells cs T2 fr) := by
  rw [h.old k (lt_of_heap hk) (.inr fun ⟨cs2, h2⟩ => by rw [hk] at h2; simp only [Option.some.injEq, Obj.cells.injEq] at h2; exact hT h2.2.1)]
  exact hk
theorem KtP.rowat {T : TypeId} {base n sz : Nat} {w w' : World} {b : Nat} {xs : List Value} {cs : Array Value} {T2 : TypeId} (h : KtP T base w w') (hb : w.heap[b]? = some (.cells cs T2 (0, 0))) (hT : T2 ≠ T) (R : RowAt w sz (some ⟨b, 0, none⟩) n xs) : RowAt w' sz (some ⟨b, 0, none⟩) n xs :=
  ⟨R.len, R.lim, fun hn => by
    obtain ⟨b2, o, cs2, T3, fr, ha, hb2, hx⟩ := R.at_ hn
    simp only [Option.some.injEq, Addr.mk.injEq] at ha
    obtain ⟨rfl, rfl, -⟩ := ha
    rw [hb] at hb2
    simp only [Option.some.injEq, Obj.cells.injEq] at hb2
    obtain ⟨rfl, rfl, rfl⟩ := hb2
    exact ⟨b, 0, cs, T2, (0, 0), rfl, h.heap hb hT, hx⟩⟩
end Go.Proofs.Ytldlfhodboigeaa.K
