/- Plain laws, rules and walks of this claim's functions, laid together. -/
import Derived.Test.YtkkbbhpbcfcplaaGreatX1
set_option linter.unusedVariables false
set_option linter.unusedSimpArgs false
set_option maxRecDepth 100000
namespace Go.Proofs.YtkkbbhpbcfcplaaGreat.K
open Go Go.RowKit
structure Ob where
  kind : Int
  seg : Int
  at_ : Int
  data : Int
  ptrs : Int
  size : Int
  count : Int
  deriving DecidableEq
def Ob0 : Ob := ⟨0, 0, 0, 0, 0, 0, 0⟩
def Ob.pt (o : Ob) : Pt := ⟨o.kind, 0, o.data, o.ptrs, o.size, o.count, 0, false⟩
structure Src where
  sizes : List Int
  word : Int → Int → Int × Int
def zJ2 (a b m : Int) : Bool := decide (0 ≤ a ∧ 0 ≤ b ∧ a ≤ m ∧ b ≤ m - a)
def zF8 (sizes : List Int) (seg at_ n : Int) : Bool := decide (0 ≤ seg ∧ seg < sizes.length) && zJ2 at_ n (sizes.getD seg.toNat 0)
def zH1 (A : List (List Int)) (seg at_ : Int) : Int × Int := if 0 ≤ seg ∧ seg < A.length ∧ 0 ≤ at_ ∧ at_ < len2 A seg.toNat then ((A.getD seg.toNat []).getD at_.toNat 0, 0) else (0, 20)
def zB0 (A : List (List Int)) : Src := ⟨A.map fun s => (s.length : Int), zH1 A⟩
def zH4 (p : Pt) : Bool := decide (p.kind = 1) || decide (p.kind = 2)
def zB8 (o : Ob) : Int := if o.kind = 3 then 0 else zF4 o.pt
def ptrS (s : Src) (seg at_ : Int) : Pt × Int := if (s.word seg at_).2 ≠ 0 then (Pt0, (s.word seg at_).2) else (decP (s.word seg at_).1, decE (s.word seg at_).1)
def objP (p : Pt) (seg at_ : Int) : Ob := ⟨p.kind, seg, at_, p.data, p.ptrs, p.size, p.count⟩
def zB4 (s : Src) (p : Pt) (seg at_ : Int) : Ob × Int :=
  if zF9 (objP p seg at_).pt ≠ 0 then (Ob0, zF9 (objP p seg at_).pt)
  else if zF8 s.sizes seg at_ (zF4 (objP p seg at_).pt) = false then (Ob0, 20)
  else (objP p seg at_, 0)
def zD0 (s : Src) (p : Pt) : Ob × Int :=
  if (ptrS s p.seg p.off).2 ≠ 0 then (Ob0, (ptrS s p.seg p.off).2)
  else if zH4 (ptrS s p.seg p.off).1 = false then (Ob0, 23)
  else zB4 s (ptrS s p.seg p.off).1 p.seg (p.off + 1 + (ptrS s p.seg p.off).1.off)
def zD6 (s : Src) (p : Pt) : Ob × Int :=
  if (s.word p.seg p.off).2 ≠ 0 then (Ob0, (s.word p.seg p.off).2)
  else if (s.word p.seg (p.off + 1)).2 ≠ 0 then (Ob0, (s.word p.seg (p.off + 1)).2)
  else if decE (s.word p.seg p.off).1 ≠ 0 then (Ob0, decE (s.word p.seg p.off).1)
  else if decE (s.word p.seg (p.off + 1)).1 ≠ 0 then (Ob0, decE (s.word p.seg (p.off + 1)).1)
  else if (decP (s.word p.seg p.off).1).kind ≠ 3 ∨ (decP (s.word p.seg p.off).1).dbl = true ∨ zH4 (decP (s.word p.seg (p.off + 1)).1) = false ∨ (decP (s.word p.seg (p.off + 1)).1).off ≠ 0 then (Ob0, 23)
  else zB4 s (decP (s.word p.seg (p.off + 1)).1) (decP (s.word p.seg p.off).1).seg (decP (s.word p.seg p.off).1).off
def zA0 (s : Src) (seg at_ : Int) : Ob × Int :=
  if (ptrS s seg at_).2 ≠ 0 ∨ (ptrS s seg at_).1.kind = 0 then (Ob0, (ptrS s seg at_).2)
  else if zH4 (ptrS s seg at_).1 = true then zB4 s (ptrS s seg at_).1 seg (at_ + 1 + (ptrS s seg at_).1.off)
  else if (ptrS s seg at_).1.dbl = true then zD6 s (ptrS s seg at_).1
  else zD0 s (ptrS s seg at_).1
def zD9 (s : Src) (o : Ob) (k : Int) : Ob × Int :=
  if o.kind = 0 ∨ (o.kind = 1 ∧ k ≥ o.ptrs) then (Ob0, 0)
  else if o.kind = 1 then zA0 s o.seg (o.at_ + k + o.data)
  else if o.size ≠ 6 then (o, 23)
  else if k ≥ o.count then (o, 20)
  else zA0 s o.seg (o.at_ + k)
def atS (s : Src) (o : Ob) (k : Int) : Int × Int :=
  if o.kind = 0 ∨ (o.kind = 1 ∧ k ≥ o.data) then (0, 0)
  else if o.kind = 1 then s.word o.seg (o.at_ + k)
  else if o.size = 6 then (0, 23)
  else if k ≥ o.count then (0, 20)
  else if o.size = 5 then s.word o.seg (o.at_ + k)
  else ((s.word o.seg (o.at_ + k / 8)).1 / 2 ^ (k % 8 * 8).toNat % 256, (s.word o.seg (o.at_ + k / 8)).2)
structure Vl where
  kind : Int
  size : Int
  words : Int
  kids : Int
  word : Int
  deriving DecidableEq
def Vl0 : Vl := ⟨0, 0, 0, 0, 0⟩
def isS (o : Ob) : Vl := ⟨o.kind, o.size, if o.kind = 2 ∧ o.size ≠ 6 then o.count else o.data, if o.kind = 2 ∧ o.size = 6 then o.count else o.ptrs, 0⟩
def valS (s : Src) (o : Ob) (at_ : Int) : Vl × Int :=
  if at_ < 0 then (isS o, 0) else if (atS s o at_).2 ≠ 0 then (Vl0, (atS s o at_).2) else (⟨o.kind, 0, 0, 0, (atS s o at_).1⟩, 0)
def zN9 (s : Src) (at_ : Int) : List Int → Ob → Int → Vl × Int
  | [], o, _ => valS s o at_
  | k :: ks, o, left =>
    if (zD9 s o k).2 ≠ 0 then (Vl0, (zD9 s o k).2)
    else if left - (1 + zB8 (zD9 s o k).1) < 0 then (Vl0, 22)
    else zN9 s at_ ks (zD9 s o k).1 (left - (1 + zB8 (zD9 s o k).1))
def zE8 (s : Src) (steps : List Int) (at_ cost : Int) : Vl × Int :=
  if ∃ k ∈ steps, k < 0 then (Vl0, 1)
  else if (steps.length : Int) > 32 then (Vl0, 3)
  else if (zA0 s 0 0).2 ≠ 0 then (Vl0, (zA0 s 0 0).2)
  else if max cost (-1) - (1 + zB8 (zA0 s 0 0).1) < 0 then (Vl0, 22)
  else zN9 s at_ steps (zA0 s 0 0).1 (max cost (-1) - (1 + zB8 (zA0 s 0 0).1))
structure PtR (p : Pt) : Prop where
  kind : 0 ≤ p.kind ∧ p.kind ≤ 3
  off : -536870912 ≤ p.off ∧ p.off ≤ 536870911
  data : 0 ≤ p.data ∧ p.data ≤ 65535
  ptrs : 0 ≤ p.ptrs ∧ p.ptrs ≤ 65535
  size : 0 ≤ p.size ∧ p.size ≤ 7
  count : 0 ≤ p.count ∧ p.count ≤ 536870911
  seg : 0 ≤ p.seg ∧ p.seg ≤ 4294967295
  far : p.kind = 3 → 0 ≤ p.off
theorem qV3 (n : Int) (h0 : 0 ≤ n) (h1 : n < 1073741824) : -536870912 ≤ qA6 n ∧ qA6 n ≤ 536870911 := by unfold qA6; split <;> omega
theorem zH7 (x : Int) (h0 : 0 ≤ x) (h1 : x ≤ 18446744073709551615) : PtR (decP x) := by
  have hs := qV3 (x / 4 % 1073741824) (by omega) (by omega)
  unfold decP
  repeat' split
  all_goals first
    | (constructor <;> (simp [Pt0]; done))
    | (constructor <;> simp only [] <;> omega)
theorem zV3 : PtR Pt0 := by constructor <;> simp [Pt0]
theorem PtR.of {p : Pt} (h : PtR p) : PtR ⟨p.kind, 0, p.data, p.ptrs, p.size, p.count, 0, false⟩ := ⟨h.kind, by simp, h.data, h.ptrs, h.size, h.count, by simp, fun _ => by simp⟩
theorem zQ8 {p : Pt} (h : PtR p) : 0 ≤ zF4 p ∧ zF4 p ≤ 536870912 := by
  have h1 := h.data
  have h2 := h.ptrs
  have h3 := h.count
  unfold zF4
  rw [zI8 (by simp only [inR]; omega : inR .i64 (p.data + p.ptrs)), zI8 (by simp only [inR]; omega : inR .i64 (p.count + 8)), zI8 (by simp only [inR]; omega : inR .i64 (p.count + 8 - 1)), Int.tdiv_eq_ediv_of_nonneg (by omega), zI8 (by simp only [inR]; omega : inR .i64 ((p.count + 8 - 1) / 8))]
  repeat' split
  all_goals omega
theorem qF6 {L : List Int} {j : Nat} (h : j < L.length) : L.getD j 0 ∈ L := by rw [zE5 h]; exact List.getElem_mem h
structure ObR (o : Ob) : Prop where
  kind : 0 ≤ o.kind ∧ o.kind ≤ 2
  seg : 0 ≤ o.seg ∧ o.seg ≤ 1000000
  at_ : 0 ≤ o.at_ ∧ o.at_ ≤ 140737488355328
  data : 0 ≤ o.data ∧ o.data ≤ 65535
  ptrs : 0 ≤ o.ptrs ∧ o.ptrs ≤ 65535
  size : 0 ≤ o.size ∧ o.size ≤ 7
  count : 0 ≤ o.count ∧ o.count ≤ 536870911
theorem zD1 : ObR Ob0 := by constructor <;> simp [Ob0]
theorem zJ3 {o : Ob} (h : ObR o) : 0 ≤ zB8 o ∧ zB8 o ≤ 536870912 := by
  have hp : PtR o.pt := ⟨⟨h.kind.1, by have := h.kind.2; show o.kind ≤ 3; omega⟩, by simp [Ob.pt], h.data, h.ptrs, h.size, h.count, by simp [Ob.pt], fun _ => by simp [Ob.pt]⟩
  have := zQ8 hp
  unfold zB8
  split
  · omega
  · exact this
theorem yP5 (x m : Int) (h0 : 0 ≤ x) (h1 : x ≤ 18446744073709551615) (m0 : 0 ≤ m) (m1 : m ≤ 56) : yC5 .and .u64 (x / 2 ^ min m.toNat 64) 255 = x / 2 ^ m.toNat % 256 := by
  have h := zR2 m.toNat 8 (by omega) (by decide) x h0 h1
  rw [← show (2 : Int) ^ 8 = 256 from rfl, ← h, getF]
  rw [show ((m.toNat : Nat) : Int).toNat = m.toNat from by omega]
  rfl
structure SrcOk (P : Program) (w : World) (v : Value) (s : Src) : Prop where
  word : ∃ t u f, v = .iface t u ∧ MethI P t "Word" f ∧ ∀ w', Grow w w' → ∀ seg at_ : Int, zB6 P f #[u, .int .i64 seg, .int .i64 at_] w' (.tuple #[.int .u64 (s.word seg at_).1, .int .u16 (s.word seg at_).2])
  sizes : ∃ t u f, v = .iface t u ∧ MethI P t "Sizes" f ∧ ∀ w', Grow w w' → Calls P f #[u] w' (Ret fun r w2 => ∃ ad c, r = .slice ad s.sizes.length c ∧ RowAt w2 1 ad s.sizes.length (s.sizes.map (.int .i64)) ∧ Grow w' w2)
  num : ∀ seg at_ : Int, 0 ≤ (s.word seg at_).1 ∧ (s.word seg at_).1 ≤ 18446744073709551615 ∧ 0 ≤ (s.word seg at_).2 ∧ (s.word seg at_).2 ≤ 65535
  ok : ∀ seg at_ : Int, (s.word seg at_).2 = 0 → 0 ≤ seg ∧ seg < s.sizes.length ∧ 0 ≤ at_ ∧ at_ ≤ 140737488355328
  len : s.sizes.length ≤ 1000000
  each : ∀ i, i < s.sizes.length → 0 ≤ s.sizes.getD i 0 ∧ s.sizes.getD i 0 ≤ 140737488355328
theorem SrcOk.grow {P : Program} {w w' : World} {v : Value} {s : Src} (h : SrcOk P w v s) (g : Grow w w') : SrcOk P w' v s := by
  obtain ⟨⟨t, u, f, h1, h2, h3⟩, ⟨t', u', f', h4, h5, h6⟩, h7, h8, h9, h10⟩ := h
  exact ⟨⟨t, u, f, h1, h2, fun w2 g2 => h3 w2 (g.tr g2)⟩, ⟨t', u', f', h4, h5, fun w2 g2 => h6 w2 (g.tr g2)⟩, h7, h8, h9, h10⟩
theorem zX0 {P : Program} {w : World} {v : Value} {s : Src} (H : SrcOk P w v s) (seg at_ : Int) : PtR (ptrS s seg at_).1 := by
  obtain ⟨h1, h2, -, -⟩ := H.num seg at_
  unfold ptrS
  split
  · exact zV3
  · exact zH7 _ h1 h2
theorem yW4 {P : Program} {w : World} {v : Value} {s : Src} (H : SrcOk P w v s) {seg at_ : Int} (h : (ptrS s seg at_).2 = 0) : 0 ≤ seg ∧ seg < s.sizes.length ∧ 0 ≤ at_ ∧ at_ ≤ 140737488355328 := by
  refine H.ok seg at_ ?_
  by_cases h0 : (s.word seg at_).2 = 0
  · exact h0
  · unfold ptrS at h; rw [if_pos h0] at h; exact absurd h h0
theorem zV4 {P : Program} {w : World} {v : Value} {s : Src} (H : SrcOk P w v s) {p : Pt} (hp : PtR p) (hn : zH4 p = true) (seg at_ : Int) : ObR (zB4 s p seg at_).1 := by
  unfold zB4
  split
  · exact zD1
  · split
    · exact zD1
    · rename_i h1 h2
      simp only [Bool.not_eq_false] at h2
      unfold zF8 zJ2 at h2
      simp only [Bool.and_eq_true, decide_eq_true_eq] at h2
      obtain ⟨⟨h3, h4⟩, h5, h6, h7, h8⟩ := h2
      have h9 := H.each seg.toNat (by omega)
      have h10 := H.len
      have hk : p.kind = 1 ∨ p.kind = 2 := by simpa [zH4] using hn
      exact ⟨by show 0 ≤ p.kind ∧ p.kind ≤ 2; omega, by show 0 ≤ seg ∧ seg ≤ _; omega, by show 0 ≤ at_ ∧ at_ ≤ _; omega, hp.data, hp.ptrs, hp.size, hp.count⟩
theorem zT7 {P : Program} {w : World} {v : Value} {s : Src} (H : SrcOk P w v s) (seg at_ : Int) : ObR (zA0 s seg at_).1 := by
  unfold zA0
  split
  · exact zD1
  · split
    · rename_i h; exact zV4 H (zX0 H seg at_) h _ _
    · split
      · unfold zD6
        split
        · exact zD1
        · split
          · exact zD1
          · split
            · exact zD1
            · split
              · exact zD1
              · split
                · exact zD1
                · rename_i h
                  obtain ⟨n1, n2, -, -⟩ := H.num (ptrS s seg at_).1.seg ((ptrS s seg at_).1.off + 1)
                  refine zV4 H (zH7 _ n1 n2) ?_ _ _
                  cases hq : zH4 (decP (s.word (ptrS s seg at_).1.seg ((ptrS s seg at_).1.off + 1)).1) with
                  | true => rfl
                  | false => exact absurd (.inr (.inr (.inl hq))) h
      · unfold zD0
        split
        · exact zD1
        · split
          · exact zD1
          · rename_i h
            exact zV4 H (zX0 H _ _) (by simpa using h) _ _
structure OkA (A : List (List Int)) : Prop where
  one : 1 ≤ A.length
  most : A.length ≤ 16
  first : 1 ≤ (A.getD 0 []).length
  all : zC4 A ≤ 4096
  num : ∀ q ∈ A, ∀ x ∈ q, inR .u64 x
theorem zK8 : ∀ (A : List (List Int)) (j : Nat), (len2 A j : Int) ≤ zC4 A
  | [], j => by simp [len2, zC4]
  | q :: A, 0 => by have := zN1 A; simp only [len2, zC4, List.getD_cons_zero]; omega
  | q :: A, j + 1 => by have := zK8 A j; simp only [len2, zC4, List.getD_cons_succ] at this ⊢; omega
theorem zV5 {A : List (List Int)} (h : ∀ q ∈ A, ∀ x ∈ q, inR .u64 x) (seg a : Int) : 0 ≤ (zH1 A seg a).1 ∧ (zH1 A seg a).1 ≤ 18446744073709551615 ∧ 0 ≤ (zH1 A seg a).2 ∧ (zH1 A seg a).2 ≤ 65535 := by
  unfold zH1
  split
  · rename_i hc
    obtain ⟨h1, h2, h3, h4⟩ := hc
    have hs : seg.toNat < A.length := by omega
    have ha : a.toNat < (A.getD seg.toNat []).length := by simp only [len2] at h4; omega
    have hq := h (A.getD seg.toNat []) (by rw [zE5 hs]; exact List.getElem_mem hs) _ (qF6 ha)
    simp only [inR] at hq
    exact ⟨hq.1, hq.2, by show (0 : Int) ≤ 0; decide, by show (0 : Int) ≤ 65535; decide⟩
  · exact ⟨by decide, by decide, by decide, by decide⟩
theorem yJ6 {P : Program} {w : World} {u : Value} {A : List (List Int)} {t : TypeId} {fw fs : FuncId} (hr : OkA A) (mw : MethI P t "Word" fw) (ms : MethI P t "Sizes" fs)
    (hw : ∀ w', Grow w w' → ∀ seg a : Int, zB6 P fw #[.agg #[u], .int .i64 seg, .int .i64 a] w' (.tuple #[.int .u64 (zH1 A seg a).1, .int .u16 (zH1 A seg a).2]))
    (hs : ∀ w', Grow w w' → Calls P fs #[.agg #[u]] w' (Ret fun r w2 => ∃ ad c, r = .slice ad A.length c ∧ RowAt w2 1 ad A.length (A.map fun s => .int .i64 (s.length : Int)) ∧ Grow w' w2)) : SrcOk P w (.iface t (.agg #[u])) (zB0 A) := by
  have hl : (zB0 A).sizes.length = A.length := by simp [zB0]
  have hm : (zB0 A).sizes.map (Value.int .i64) = A.map fun s => .int .i64 (s.length : Int) := by simp [zB0, Function.comp_def]
  have h16 := hr.most
  have hall := hr.all
  have hat : ∀ i, i < A.length → (zB0 A).sizes.getD i 0 = (len2 A i : Int) := fun i hi => by
    rw [zE5 (by rw [hl]; exact hi)]
    simp only [zB0, List.getElem_map, len2]
    rw [zE5 hi]
  refine ⟨⟨t, _, fw, rfl, mw, hw⟩, ⟨t, _, fs, rfl, ms, ?_⟩, zV5 hr.num, ?_, by rw [hl]; omega, ?_⟩
  · rw [hl, hm]; exact hs
  · intro seg a h
    simp only [zB0, zH1] at h
    split at h
    · rename_i hc
      have := zK8 A seg.toNat
      rw [hl]
      omega
    · simp at h
  · intro i hi
    rw [hl] at hi
    rw [hat i hi]
    have := zK8 A i
    omega
section
variable {P : Program} {ops : Array Oper} {e : Env} {w w0 : World} {K : Value → World → Prop} {d : Option Nat} {ty : TypeId} {pos : String} {af : Array Edge} {g : Option (Nat × Bool)} {x y z : Operand}
theorem qB5 {v : Value} {s : Src} {at_ : Array TypeId} {seg a : Int} (H : SrcOk P w0 v s) (G : Grow w0 w) (hx : ev e x = v) (hy : ev e y = .int .i64 seg) (hz : ev e z = .int .i64 a)
    (h : ∀ w', Grow w w' → K (.tuple #[.int .u64 (s.word seg a).1, .int .u16 (s.word seg a).2]) w') : Run1 P ⟨d, .call ⟨.invoke x "Word", #[y, z], at_⟩, ty, pos, af, g⟩ e w K := by
  obtain ⟨t, u, f, rfl, hm, hc⟩ := H.word
  refine qF5 (F := fun r w' => r = .tuple #[.int .u64 (s.word seg a).1, .int .u16 (s.word seg a).2] ∧ Grow w w') hm hx ?_ (fun r w' ⟨hr, hg⟩ => by subst hr; exact h w' hg)
  have h0 := hc w G seg a
  unfold zB6 at h0
  rw [show ((u :: (#[y, z] : Array Operand).toList.map (ev e)).toArray) = #[u, .int .i64 seg, .int .i64 a] from by simp [hy, hz]]
  exact h0
theorem yD0 {v : Value} {s : Src} {at_ : Array TypeId} (H : SrcOk P w0 v s) (G : Grow w0 w) (hx : ev e x = v)
    (h : ∀ ad c w', Grow w w' → RowAt w' 1 ad s.sizes.length (s.sizes.map (.int .i64)) → K (.slice ad s.sizes.length c) w') : Run1 P ⟨d, .call ⟨.invoke x "Sizes", #[], at_⟩, ty, pos, af, g⟩ e w K := by
  obtain ⟨t, u, f, rfl, hm, hc⟩ := H.sizes
  refine qF5 (F := fun r w2 => ∃ ad c, r = .slice ad s.sizes.length c ∧ RowAt w2 1 ad s.sizes.length (s.sizes.map (.int .i64)) ∧ Grow w w2) hm hx ?_ (fun r w' ⟨ad, c, hr, hR, hg⟩ => by subst hr; exact h ad c w' hg hR)
  rw [show ((u :: (#[] : Array Operand).toList.map (ev e)).toArray) = #[u] from rfl]
  exact hc w G
end
open Classical in
/-- Memory of which only so many blocks are seen. -/
noncomputable def see (V : Nat → Prop) (w : World) : World := { w with heap := w.heap.mapIdx fun i o => if V i then o else .deferred none }
theorem zS0 {V : Nat → Prop} {k : Nat} {w : World} {cs : Array Value} {T : TypeId} {fr : Nat × Nat} : (see V w).heap[k]? = some (.cells cs T fr) ↔ V k ∧ w.heap[k]? = some (.cells cs T fr) := by
  have h0 : (see V w).heap[k]? = (w.heap[k]?).map fun o => @ite _ (V k) (Classical.propDecidable _) o (.deferred none) := by simp only [see, Array.getElem?_mapIdx]
  rw [h0]
  constructor
  · intro h
    cases hk : w.heap[k]? with
    | none => rw [hk] at h; cases h
    | some o =>
      rw [hk] at h
      simp only [Option.map_some, Option.some.injEq] at h
      split at h
      · subst h; rename_i hv; exact ⟨hv, rfl⟩
      · cases h
  · rintro ⟨h1, h2⟩
    rw [h2, Option.map_some, if_pos h1]
noncomputable abbrev hide (B : Nat) (w : World) : World := see (fun x => B ≤ x) w
def Sees (w w' : World) : Prop := ∀ (b : Nat) (cs : Array Value) (T : TypeId) (fr : Nat × Nat), w.heap[b]? = some (.cells cs T fr) → w'.heap[b]? = some (.cells cs T fr)
theorem Sees.seen (V : Nat → Prop) (w : World) : Sees (see V w) w := fun _ _ _ _ h => (zS0.1 h).2
theorem Sees.more {V V' : Nat → Prop} (w : World) (h : ∀ x, x < w.heap.size → V x → V' x) : Sees (see V w) (see V' w) := fun b _ _ _ x =>
  have y := zS0.1 x
  zS0.2 ⟨h b (zC1 y.2) y.1, y.2⟩
theorem Sees.low {B B' : Nat} (h : B ≤ B') (w : World) : Sees (hide B' w) (hide B w) := Sees.more w fun x _ hx => Nat.le_trans h hx
theorem Sees.kp {F : List Nat} {V : Nat → Prop} {w w' : World} (k : Kp F w w') (hF : ∀ x ∈ F, ¬ V x) : Sees (see V w) (see V w') := fun b _ _ _ x =>
  have h := zS0.1 x
  zS0.2 ⟨h.1, k.heap h.2 fun hm => hF b hm h.1⟩
theorem Sees.grow {V : Nat → Prop} {w w' : World} (g : Grow w w') : Sees (see V w) (see V w') := Sees.kp (F := []) (Kp.of_grow g) (fun x hx => by simp at hx)
theorem Sees.upd {b : Nat} {V : Nat → Prop} {w w' : World} (u : Upd b w w') (hb : ¬ V b) : Sees (see V w) (see V w') := Sees.kp (F := [b]) (Kp.of_upd u (by simp)) (fun x hx => by simp only [List.mem_singleton] at hx; subst hx; exact hb)
theorem vlt {V : Nat → Prop} {B n m : Nat} (h : ∀ x, V x → B ≤ x ∧ x < n) (hn : n ≤ m) : ∀ x, V x → B ≤ x ∧ x < m := fun x hx => ⟨(h x hx).1, Nat.lt_of_lt_of_le (h x hx).2 hn⟩
theorem RowAt.sees {w w' : World} (g : Sees w w') {sz : Nat} {ad : Option Addr} {n : Nat} {xs : List Value} (h : RowAt w sz ad n xs) : RowAt w' sz ad n xs := h.keep fun _ _ _ _ _ hb => g _ _ _ _ hb
theorem Row.sees {w w' : World} (g : Sees w w') {sz : Nat} {v : Value} {n : Nat} {xs : List Value} (h : Row w sz v n xs) : Row w' sz v n xs := by
  obtain ⟨ad, c, h1, h2, h3, h4⟩ := h
  exact ⟨ad, c, h1, h2, h3, h4.sees g⟩
mutual
theorem NodeR.sees {w w' : World} (g : Sees w w') : ∀ {c : List Value} {t : Nd}, NodeR w c t → NodeR w' c t
  | _, _, .mk h1 h2 h3 h4 h5 h6 h7 h8 => .mk h1 h2 (h3.sees g) h4 (h5.sees g) h6 (h7.sees g) (KidsR.sees g h8)
theorem KidsR.sees {w w' : World} (g : Sees w w') : ∀ {c : List Value} {t : List Nd}, KidsR w c t → KidsR w' c t
  | _, _, .nil => .nil
  | _, _, .cons h1 h2 => .cons (NodeR.sees g h1) (KidsR.sees g h2)
end
theorem zX1 {w : World} {base n sz : Nat} {T : TypeId} {v : Value} {xs : List Value} (h : w.ownsRow base T sz v n xs) (hl : n ≤ 140737488355328) : Row (hide base w) sz v n xs := by
  obtain ⟨h1, h2⟩ := h
  rcases h2 with ⟨rfl, rfl⟩ | ⟨g, cap, cur, rfl, hb, hg, hnc, hcm, hcs, ht⟩
  · have : xs = [] := List.eq_nil_of_length_eq_zero (by simpa using h1)
    subst this; exact Row.nil _ sz
  · exact ⟨_, cap, rfl, hnc, hcm, h1, hl, fun _ => ⟨g, 0, cur, T, (0, 0), rfl, zS0.2 ⟨hb, hg⟩, by rw [List.drop_zero]; exact ht⟩⟩
theorem zO4 {w : World} {base n m : Nat} {T : TypeId} {v : Value} {k : IntKind} {f : Nat → Int} (h : w.ownsRow base T 1 v n ((List.range n).map fun i => .int k (f i))) (hm : n = m) (hl : n ≤ 1000) : Row (hide base w) 1 v ((List.range m).map f).length (((List.range m).map f).map (.int k)) := by
  subst hm
  rw [List.length_map, List.length_range, List.map_map]
  exact zX1 h (by omega)
def Nd.nil : Nd := .mk 0 0 [] [] []
theorem NodeR.zero (w : World) : NodeR w [.int .i64 0, .int .i64 0, .slice none 0 0, .slice none 0 0, .slice none 0 0] Nd.nil :=
  .mk (by simp [inR]) (by simp [inR]) (Row.nil _ _) (by simp) (Row.nil _ _) (by simp) (Row.nil _ _) .nil
/-! ### choices -/
def qQ1 (k : Int) (i : Nat) : Int := IntKind.u8.wrap (k + i)
def qQ2 (k : Int) (i : Nat) : Int := IntKind.u64.wrap (IntKind.u64.wrap (k * 81985529216486895) + i)
def qK4 (k : Int) (i : Nat) : Int := IntKind.u64.wrap (IntKind.u64.wrap (k * 2 ^ min (8 * (i : Int)).toNat IntKind.u64.bits) + i)
def zH0 (f : List Int → Nd × List Int) : Nat → List Int → List Nd × List Int
  | 0, c => ([], c)
  | n + 1, c => ((zH0 f n c).1 ++ [(f (zH0 f n c).2).1], (f (zH0 f n c).2).2)
def zE9 : Nat → List Int → Nd × List Int
  | 0, c => (.nil, c)
  | _ + 1, [] => (.nil, [])
  | d + 1, k :: c =>
    if k % 8 = 0 then (.nil, c)
    else if k % 8 = 1 ∨ k % 8 = 2 then (.mk 2 2 [] ((List.range (3 * (k / 8 % 5) + k % 2).toNat).map (qQ1 k)) [], c)
    else if k % 8 = 3 then (.mk 2 5 ((List.range (k / 8 % 5).toNat).map (qQ2 k)) [] [], c)
    else if k % 8 > 6 then (.mk 2 6 [] [] (zH0 (zE9 d) (k / 8 % 5).toNat c).1, (zH0 (zE9 d) (k / 8 % 5).toNat c).2)
    else (.mk 1 0 ((List.range (k / 64).toNat).map (qK4 k)) [] (zH0 (zE9 d) (k / 8 % 5).toNat c).1, (zH0 (zE9 d) (k / 8 % 5).toNat c).2)
theorem yD1 {d : Nat} {xs : List Int} (h : xs = [] ∨ d = 0) : zE9 d xs = (.nil, xs) := by
  match d, xs, h with
  | 0, xs, _ => simp [zE9]
  | d + 1, [], _ => simp [zE9]
  | d + 1, x :: xs, h => rcases h with h | h <;> simp at h
theorem qM7 (n : Int) : inR .u8 (IntKind.u8.wrap n) := by simp only [inR, IntKind.wrap_u8]; omega
theorem zV6 (n : Int) : inR .u64 (IntKind.u64.wrap n) := by simp only [inR, IntKind.wrap_u64]; omega
theorem zX2 {f : List Int → Nd × List Int} {Q : List Int → Prop} (hf : ∀ c, Q c → Q (f c).2) : ∀ (n : Nat) (c : List Int), Q c → Q (zH0 f n c).2
  | 0, c, h => h
  | n + 1, c, h => hf _ (zX2 hf n c h)
theorem qD0 {Q : Int → Prop} : ∀ (d : Nat) (c : List Int), (∀ x ∈ c, Q x) → ∀ x ∈ (zE9 d c).2, Q x
  | 0, c, h => by simpa [zE9] using h
  | d + 1, [], h => by simp [zE9]
  | d + 1, k :: c, h => by
    have hc : ∀ x ∈ c, Q x := fun x hx => h x (by simp [hx])
    have ht := zX2 (f := zE9 d) (Q := fun c => ∀ x ∈ c, Q x) (fun c hq => qD0 d c hq) (k / 8 % 5).toNat c hc
    simp only [zE9]
    split
    · exact hc
    · split
      · exact hc
      · split
        · exact hc
        · split <;> exact ht
theorem zY8 {Q : Int → Prop} (d n : Nat) (c : List Int) (h : ∀ x ∈ c, Q x) : ∀ x ∈ (zH0 (zE9 d) n c).2, Q x :=
  zX2 (f := zE9 d) (Q := fun c => ∀ x ∈ c, Q x) (fun c hq => qD0 d c hq) n c h
theorem zN2 (f : List Int → Nd × List Int) : ∀ (n : Nat) (c : List Int), (zH0 f n c).1.length = n
  | 0, _ => rfl
  | n + 1, c => by simp [zH0, zN2 f n c]
/-! ### what choices make may be -/
theorem qK5 {left : Nat} : ∀ {ks : List Nd}, Nd.rights ks left = true ↔ ∀ t ∈ ks, t.right left = true
  | [] => by simp [Nd.rights]
  | t :: ts => by simp only [Nd.rights, Bool.and_eq_true, qK5 (ks := ts), List.mem_cons, forall_eq_or_imp]
theorem qG8 (l : Nat) : Nd.nil.right l = true := by simp [Nd.nil, Nd.right, Nd.own, Nd.rights]
theorem qD1 {f : List Int → Nd × List Int} {Q : List Int → Prop} {R : Nd → Prop} (hf : ∀ c, Q c → Q (f c).2 ∧ R (f c).1) : ∀ (n : Nat) (c : List Int), Q c → ∀ t ∈ (zH0 f n c).1, R t
  | 0, c, h => by simp [zH0]
  | n + 1, c, h => by
    have h2 := zX2 (f := f) (Q := Q) (fun c hc => (hf c hc).1) n c h
    intro t ht
    simp only [zH0, List.mem_append, List.mem_singleton] at ht
    rcases ht with ht | rfl
    · exact qD1 hf n c h t ht
    · exact (hf _ h2).2
def isU8 (c : List Int) : Prop := ∀ x ∈ c, inR .u8 x
theorem qG9 : ∀ (d : Nat) (c : List Int) (l : Nat), d ≤ l → isU8 c → (zE9 d c).1.right l = true
  | 0, c, l, _, _ => by simp [zE9, qG8]
  | d + 1, [], l, _, _ => by simp [zE9, qG8]
  | d + 1, k :: c, l, hl, hc => by
    have hk := hc k (by simp)
    simp only [inR] at hk
    have hcc : isU8 c := fun x hx => hc x (by simp [hx])
    have hr : Nd.rights (zH0 (zE9 d) (k / 8 % 5).toNat c).1 (l - 1) = true := qK5.2 (qD1 (f := zE9 d) (Q := isU8) (R := fun t => t.right (l - 1) = true) (fun c hq => ⟨qD0 d c hq, qG9 d c (l - 1) (by omega) hq⟩) _ c hcc)
    have hn := zN2 (zE9 d) (k / 8 % 5).toNat c
    have hl0 : ¬ l = 0 := by omega
    simp only [zE9]
    split
    · exact qG8 l
    · split
      · simp [Nd.right, Nd.rights, Nd.own, hl0]; omega
      · split
        · simp [Nd.right, Nd.rights, Nd.own, hl0]; omega
        · split
          · simp only [Nd.right, hr, Nd.own, Bool.and_true]
            simp [hl0]; omega
          · simp only [Nd.right, hr, Nd.own, Bool.and_true]
            simp [hl0]; split <;> omega
theorem qH0 : ∀ (d : Nat) (c : List Int), isU8 c → (zE9 d c).1.needs + 7 * ((zE9 d c).2.length : Int) ≤ 7 * c.length
  | 0, c, _ => by simp [zE9, Nd.nil, Nd.needs, Nd.needsL, Nd.need]
  | d + 1, [], _ => by simp [zE9, Nd.nil, Nd.needs, Nd.needsL, Nd.need]
  | d + 1, k :: c, hc => by
    have hk := hc k (by simp)
    simp only [inR] at hk
    have hcc : isU8 c := fun x hx => hc x (by simp [hx])
    have key : ∀ (n : Nat) (c : List Int), isU8 c → Nd.needsL (zH0 (zE9 d) n c).1 + 7 * ((zH0 (zE9 d) n c).2.length : Int) ≤ 7 * c.length := by
      intro n
      induction n with
      | zero => intro c _; simp [zH0, Nd.needsL]
      | succ n ih =>
        intro c hq
        have h1 := ih c hq
        have h2 := qH0 d (zH0 (zE9 d) n c).2 (zY8 d n c hq)
        simp only [zH0, qA9, Nd.needsL]
        omega
    have hs := key (k / 8 % 5).toNat c hcc
    have hn := zN2 (zE9 d) (k / 8 % 5).toNat c
    simp only [zE9]
    split
    · simp [Nd.nil, Nd.needs, Nd.needsL, Nd.need]; omega
    · split
      · simp [Nd.needs, Nd.needsL, Nd.need]; omega
      · split
        · simp [Nd.needs, Nd.needsL, Nd.need]; omega
        · split
          · simp only [Nd.needs, Nd.need, List.length_nil, List.length_cons, hn]; simp only [show ¬ ((2 : Int) = 1) from by decide, if_false, if_true]; omega
          · simp only [Nd.needs, Nd.need, List.length_map, List.length_range, List.length_cons, hn, if_true]; omega
/-! ### in one segment -/
theorem jA5 (s l : List Int) : zM2 [s] 0 l = [s ++ l] := by simp [zM2, growB]
theorem jA6 (s : List Int) (i : Nat) (x : Int) : setP [s] 0 i x = [s.set i x] := by simp [setP]
theorem jC0 {size : Int} {s : List Int} (h1 : (s.length : Int) ≤ size) (h2 : s.length ≤ 4096) : qV0 size [s] 0 = false := by
  simp [qV0, len2, zC4]; omega
mutual
theorem Nd.lay_one (size : Int) : ∀ (t : Nd) (s : List Int) (i : Nat), t.fine → i < s.length → (s.length : Int) + t.needs ≤ size → (s.length : Int) + t.needs ≤ 4096 →
    ∃ s', t.lay size ⟨[s], false⟩ 0 i = ⟨[s'], false⟩ ∧ (s'.length : Int) = s.length + t.needs
  | .mk k z w b ks, s, i, hR, hi, h1, h2 => by
    obtain ⟨hkd, hlw, hlb, hlk, hnn, hnm, hkn, hb1⟩ := Nd.own_b (Nd.fine_own hR)
    have hnl := Nd.needsL_nn ks
    simp only [Nd.needs] at h1 h2
    simp only [Nd.lay, Bool.false_eq_true, or_false]
    by_cases hk : k = 0
    · have hks : ks = [] := yA2 (Nd.fine_own hR) (by omega)
      subst hks
      rw [if_pos hk]
      exact ⟨s, rfl, by simp [Nd.needs, Nd.need, hk, Nd.needsL]⟩
    · rw [if_neg hk]
      by_cases hn : (Nd.mk k z w b ks).need = 0
      · rw [if_pos hn, jA6]
        have hks : ks = [] := List.eq_nil_of_length_eq_zero (by have := hkn hk; omega)
        subst hks
        exact ⟨_, rfl, by rw [List.length_set]; simp [Nd.needs, hn, Nd.needsL]⟩
      · rw [if_neg hn]
        have hp : zG0 size (.mk k z w b ks) ⟨[s], false⟩ 0 i = ⟨⟨[s.set i ((Nd.mk k z w b ks).near ((s.length : Int) - i - 1))], false⟩, 0, s.length⟩ := by
          unfold zG0
          rw [if_pos (by refine ⟨rfl, ?_⟩; show ((s.length : Nat) : Int) + _ ≤ _; omega)]
          show (⟨⟨setP [s] 0 i _, false⟩, 0, _⟩ : Plc) = _
          rw [jA6]
          rfl
        have hco : ((Nd.mk k z w b ks).content.length : Int) = (Nd.mk k z w b ks).need := Nd.content_length _ (by simp only [Nd.kind]; omega) (by simpa only [Nd.kind, Nd.bytes] using hb1)
        rw [hp]
        have hm : zO3 size ⟨[s.set i ((Nd.mk k z w b ks).near ((s.length : Int) - i - 1))], false⟩ 0 (Nd.mk k z w b ks).content = ⟨[s.set i ((Nd.mk k z w b ks).near ((s.length : Int) - i - 1)) ++ (Nd.mk k z w b ks).content], false⟩ := by
          simp only [zO3, jA5, Bool.false_or]
          rw [jC0 (by rw [List.length_append, List.length_set]; omega) (by rw [List.length_append, List.length_set]; omega)]
        simp only [hm]
        obtain ⟨s', h3, h4⟩ := Nd.lays_one size ks (s.set i ((Nd.mk k z w b ks).near ((s.length : Int) - i - 1)) ++ (Nd.mk k z w b ks).content) (s.length + ((Nd.mk k z w b ks).need.toNat - ks.length)) (fun j hj => Nd.fine_kid hR hj)
          (by rw [List.length_append, List.length_set]; have := hkn hk; omega) (by rw [List.length_append, List.length_set]; omega) (by rw [List.length_append, List.length_set]; omega)
        refine ⟨s', h3, ?_⟩
        rw [h4, List.length_append, List.length_set]
        simp only [Nd.needs]
        omega
theorem Nd.lays_one (size : Int) : ∀ (ts : List Nd) (s : List Int) (i : Nat), (∀ (j : Nat) (h : j < ts.length), ts[j].fine) → i + ts.length ≤ s.length → (s.length : Int) + Nd.needsL ts ≤ size → (s.length : Int) + Nd.needsL ts ≤ 4096 →
    ∃ s', Nd.lays size ts ⟨[s], false⟩ 0 i = ⟨[s'], false⟩ ∧ (s'.length : Int) = s.length + Nd.needsL ts
  | [], s, i, _, _, _, _ => ⟨s, rfl, by simp [Nd.needsL]⟩
  | t :: ts, s, i, hR, hi, h1, h2 => by
    have ha := Nd.needs_nn t
    have hb := Nd.needsL_nn ts
    simp only [Nd.needsL, List.length_cons] at h1 h2 hi
    obtain ⟨s1, h3, h4⟩ := Nd.lay_one size t s i (hR 0 (by simp)) (by omega) (by omega) (by omega)
    obtain ⟨s2, h5, h6⟩ := Nd.lays_one size ts s1 (i + 1) (fun j hj => by have := hR (j + 1) (by simpa using hj); simpa using this) (by omega) (by omega) (by omega)
    refine ⟨s2, by simp only [Nd.lays, h3, h5], ?_⟩
    simp only [Nd.needsL]
    omega
end
theorem Nd.build_one {t : Nd} {size : Int} (hR : t.right 32 = true) (h1 : 1 + t.needs ≤ size) (h2 : size ≤ 4096) : ∃ s, t.build size = ([s], 0) ∧ (s.length : Int) = 1 + t.needs := by
  have hn := Nd.needs_nn t
  obtain ⟨s, h3, h4⟩ := Nd.lay_one size t [0] 0 ⟨32, hR⟩ (by simp) (by simpa using h1) (by simp; omega)
  refine ⟨s, ?_, by simpa using h4⟩
  unfold Nd.build
  rw [if_neg (by rw [hR]; simp; omega), h3, if_neg (by simp)]
theorem Nd.build_fit {t : Nd} {size : Int} (h : (t.build size).2 = 0) : Fit size (t.build size).1 := by
  unfold Nd.build at h ⊢
  split
  · rename_i hc; rw [if_pos hc] at h; simp at h
  · rename_i hc
    rw [if_neg hc] at h
    split
    · rename_i hf; rw [if_pos hf] at h; simp at h
    · rename_i hf
      have hf : (t.lay size ⟨[[0]], false⟩ 0 0).full = false := by simpa using hf
      exact (t.lay_ok size ⟨[[0]], false⟩ 0 0 (by simp)).fit (Fit.init (by omega)) hf
/-! ### one in the other -/
/-! ### things without words -/
theorem qH1 {ys : List Int} (h : isU8 ys) (i : Nat) : 0 ≤ ys.getD i 0 ∧ ys.getD i 0 ≤ 255 := by
  rcases Nat.lt_or_ge i ys.length with h1 | h1
  · have := h _ (List.getElem_mem h1)
    rw [zE5 h1]
    simpa [inR] using this
  · rw [List.getD_eq_getElem?_getD, List.getElem?_eq_none h1]; simp
def zS1 : List (List Int) := [[4294967296, 7]]
theorem qQ3 : (Nd.mk 1 0 [7] [] []).build 9 = (zS1, 0) := by decide +kernel
/-! ### jC1 -/
def yD2 (c : List Int) : List Int := (c.take 6).map (· % 6)
theorem jA7 {w : World} {b : Nat} {u : Value} {q : List Int} {T : TypeId} {fr : Nat × Nat} (hb : w.heap[b]? = some (.cells #[u] T fr)) (hu : Row w 1 u q.length (zJ1 q)) : zG2 w (.slice (some ⟨b, 0, none⟩) 1 1) [q] := by
  refine ⟨[u], Row.of_block (n := 1) hb rfl rfl (by decide), fun i s hi => ?_⟩
  cases i with
  | zero => simp only [List.getElem?_cons_zero, Option.some.injEq] at hi; subst hi; exact ⟨u, rfl, hu⟩
  | succ i => simp at hi
/-! ### decoding -/
def zQ9 (s : Src) (seg a : Int) (n : Nat) : List Int := (List.range n).map fun (i : Nat) => (s.word seg (a + (i : Int))).1
def byt1 (x : Int) (i : Nat) : Int := x / 2 ^ (8 * i) % 256
def byt8 (x : Int) : List Int := (List.range 8).map (byt1 x)
def qQ4 (s : Src) (seg a : Int) (n : Nat) : List Int := ((zQ9 s seg a ((n + 7) / 8)).flatMap byt8).take n
theorem zJ7 (s : Src) (seg a : Int) (n : Nat) : (zQ9 s seg a n).length = n := by simp [zQ9]
theorem qV4 (s : Src) (seg a : Int) (n : Nat) : zQ9 s seg a (n + 1) = zQ9 s seg a n ++ [(s.word seg (a + (n : Int))).1] := by simp [zQ9, List.range_succ]
theorem yP6 (x : Int) : (byt8 x).length = 8 := by simp [byt8]
theorem qQ5 (l : List Int) : (l.flatMap byt8).length = 8 * l.length := by
  induction l with
  | nil => rfl
  | cons x l ih => rw [List.flatMap_cons, List.length_append, ih, yP6, List.length_cons]; omega
theorem yD3 (s : Src) (seg a : Int) (n : Nat) : (qQ4 s seg a n).length = n := by
  rw [qQ4, List.length_take, qQ5, zJ7]; omega
theorem yD4 (x : Int) (i : Nat) : 0 ≤ byt1 x i ∧ byt1 x i ≤ 255 := by unfold byt1; omega
theorem yJ7 (s : Src) (seg a : Int) (n : Nat) : ∀ x ∈ qQ4 s seg a n, inR .u8 x := by
  intro x hx
  obtain ⟨y, -, hy⟩ := List.mem_flatMap.1 (List.mem_of_mem_take hx)
  obtain ⟨i, -, rfl⟩ := List.mem_map.1 hy
  have := yD4 y i
  simp only [inR]; omega
theorem qK6 {P : Program} {w : World} {v : Value} {s : Src} (H : SrcOk P w v s) (seg a : Int) (n : Nat) : ∀ x ∈ zQ9 s seg a n, inR .u64 x := by
  intro x hx
  obtain ⟨i, -, rfl⟩ := List.mem_map.1 hx
  have := H.num seg (a + i)
  simp only [inR]; omega
theorem yP7 (x : Int) (k : Nat) (h0 : 0 ≤ x) (h1 : x ≤ 18446744073709551615) (hk : k ≤ 7) : IntKind.u8.wrap (x / 2 ^ min (8 * (k : Int)).toNat (IntKind.bits .u64)) = byt1 x k := by
  have e : min (8 * (k : Int)).toNat (IntKind.bits .u64) = 8 * k := by show min _ 64 = _; omega
  rw [e, IntKind.wrap_u8, byt1]
def putCells (x : Int) (k : Nat) : List Value := ((List.range k).map fun i => .int .u8 (byt1 x i)) ++ List.replicate (8 - k) (.int .u8 0)
theorem qQ6 (x : Int) (k : Nat) (hk : k < 8) : (putCells x k).set k (.int .u8 (byt1 x k)) = putCells x (k + 1) := by
  have hr : 8 - k = (8 - (k + 1)) + 1 := by omega
  unfold putCells
  rw [hr, List.replicate_succ, List.set_append_right _ _ (by simp)]
  simp [List.range_succ]
theorem qQ7 (x : Int) (k : Nat) (hk : k ≤ 8) : (putCells x k).length = 8 := by simp [putCells]; omega
theorem qQ8 (x : Int) : putCells x 8 = (byt8 x).map (.int .u8) := by simp [putCells, byt8, Function.comp_def]
theorem qI9 {w : World} {base n : Nat} {T : TypeId} {v : Value} {k : IntKind} {xs : List Int} (h : w.ownsRow base T 1 v n (xs.map (.int k))) (hm : xs.length = n) (hl : n ≤ 140737488355328) : Row (hide base w) 1 v n (xs.map (.int k)) := by
  subst hm
  exact zX1 h hl
theorem own_made' {w : World} {base b n : Nat} {T : TypeId} {xs : List Value} (h : w.ownsRow base T 1 (.slice (some ⟨b, 0, none⟩) n n) n xs) : base ≤ b ∧ ∃ cur : Array Value, w.heap[b]? = some (.cells cur T (0, 0)) ∧ cur.size = n ∧ cur.toList = xs := by
  obtain ⟨h0, h1⟩ := h
  rcases h1 with ⟨h1, -⟩ | ⟨q, cap, cur, hv, hq, hg, h1, h2, h3, h4⟩
  · simp at h1
  · simp only [Value.slice.injEq, Option.some.injEq, Addr.mk.injEq, and_true, true_and] at hv
    obtain ⟨rfl, rfl⟩ := hv
    refine ⟨hq, cur, hg, by omega, ?_⟩
    rw [← h4, List.take_of_length_le (by rw [Array.length_toList]; omega)]
def kidN (o : Ob) : Int := if o.size = 6 then o.count else o.ptrs
def kidA (o : Ob) : Int := if o.size = 6 then o.at_ else o.at_ + o.data
def nodL (s : Src) (o : Ob) : List Int := zQ9 s o.seg o.at_ (if o.size = 5 then o.count else o.data).toNat
def nodB (s : Src) (o : Ob) : List Int := if o.size = 2 then qQ4 s o.seg o.at_ o.count.toNat else []
def zK5 (f : Int → Int → Int × Nd × Int) (a p : Int) : Nat → Int × List Nd × Int
  | 0 => (p, [], 0)
  | n + 1 => if (zK5 f a p n).2.2 ≠ 0 then zK5 f a p n
    else ((f (a + (n : Int)) (zK5 f a p n).1).1, (zK5 f a p n).2.1 ++ [(f (a + (n : Int)) (zK5 f a p n).1).2.1], (f (a + (n : Int)) (zK5 f a p n).1).2.2)
def qM8 (s : Src) (last : Bool) (f : Int → Int → Int → Int × Nd × Int) (seg a paid : Int) : Int × Nd × Int :=
  if (zA0 s seg a).2 ≠ 0 then (paid, .nil, (zA0 s seg a).2)
  else if (zA0 s seg a).1.kind ≠ 0 ∧ last = true then (paid + (1 + zB8 (zA0 s seg a).1), .nil, 21)
  else if paid + (1 + zB8 (zA0 s seg a).1) > 8192 then (paid + (1 + zB8 (zA0 s seg a).1), .nil, 22)
  else if (zK5 (f (zA0 s seg a).1.seg) (kidA (zA0 s seg a).1) (paid + (1 + zB8 (zA0 s seg a).1)) (kidN (zA0 s seg a).1).toNat).2.2 ≠ 0 then
    ((zK5 (f (zA0 s seg a).1.seg) (kidA (zA0 s seg a).1) (paid + (1 + zB8 (zA0 s seg a).1)) (kidN (zA0 s seg a).1).toNat).1, .nil, (zK5 (f (zA0 s seg a).1.seg) (kidA (zA0 s seg a).1) (paid + (1 + zB8 (zA0 s seg a).1)) (kidN (zA0 s seg a).1).toNat).2.2)
  else ((zK5 (f (zA0 s seg a).1.seg) (kidA (zA0 s seg a).1) (paid + (1 + zB8 (zA0 s seg a).1)) (kidN (zA0 s seg a).1).toNat).1,
    .mk (zA0 s seg a).1.kind (zA0 s seg a).1.size (nodL s (zA0 s seg a).1) (nodB s (zA0 s seg a).1) (zK5 (f (zA0 s seg a).1.seg) (kidA (zA0 s seg a).1) (paid + (1 + zB8 (zA0 s seg a).1)) (kidN (zA0 s seg a).1).toNat).2.1, 0)
def zJ8 (s : Src) : Nat → Int → Int → Int → Int × Nd × Int
  | 0, seg, a, paid => qM8 s true (fun _ _ p => (p, .nil, 0)) seg a paid
  | d + 1, seg, a, paid => qM8 s false (fun seg a p => zJ8 s d seg a p) seg a paid
def qM9 (s : Src) : Nat → Int → Int → Int → Int × Nd × Int
  | 0 => fun _ _ p => (p, .nil, 0)
  | d + 1 => zJ8 s d
theorem yA9 (s : Src) (d : Nat) (seg a paid : Int) : zJ8 s d seg a paid = qM8 s (d == 0) (qM9 s d) seg a paid := by
  cases d with
  | zero => rfl
  | succ d => rfl
theorem qK7 {f : Int → Int → Int × Nd × Int} {a p : Int} {k : Nat} (h : (zK5 f a p k).2.2 ≠ 0) : ∀ (n : Nat), zK5 f a p (k + n) = zK5 f a p k
  | 0 => rfl
  | n + 1 => by
    rw [← Nat.add_assoc, zK5, qK7 h n, if_pos h]
theorem kidsD_stop' {f : Int → Int → Int × Nd × Int} {a p : Int} {k n : Nat} (h : (zK5 f a p k).2.2 ≠ 0) (hk : k ≤ n) : zK5 f a p n = zK5 f a p k := by
  obtain ⟨m, rfl⟩ := Nat.exists_eq_add_of_le hk
  exact qK7 h m
theorem qH2 {f : Int → Int → Int × Nd × Int} {a p : Int} : ∀ (n : Nat), (zK5 f a p n).2.2 = 0 → (zK5 f a p n).2.1.length = n
  | 0, _ => rfl
  | n + 1, h => by
    rw [zK5] at h ⊢
    by_cases h0 : (zK5 f a p n).2.2 ≠ 0
    · rw [if_pos h0] at h; exact absurd h h0
    · rw [if_neg h0]
      rw [List.length_append, qH2 n (by simpa using h0)]; rfl
def ObK (o : Ob) : Prop := o = Ob0 ∨ (o.kind = 1 ∧ o.size = 0 ∧ o.count = 0) ∨ (o.kind = 2 ∧ o.data = 0 ∧ o.ptrs = 0 ∧ (o.size = 2 ∨ o.size = 5 ∨ o.size = 6))
theorem yJ8 (x : Int) : ((decP x).kind = 1 → (decP x).size = 0 ∧ (decP x).count = 0) ∧ ((decP x).kind = 2 → (decP x).data = 0 ∧ (decP x).ptrs = 0) := by
  unfold decP
  repeat' split
  all_goals simp [Pt0]
theorem yJ9 (k f d p z c s : Int) (b : Bool) : zF9 ⟨k, f, d, p, z, c, s, b⟩ = if k = 0 then 0 else if k = 1 then 0 else if k = 3 then 0 else if k = 2 then (if z = 2 then 0 else if z = 5 ∨ z = 6 then 0 else 23) else 23 := rfl
theorem qQ9 (k f d p z c s : Int) (b : Bool) : zF4 ⟨k, f, d, p, z, c, s, b⟩ = if k = 0 then 0 else if k = 1 then IntKind.i64.wrap (d + p) else if k = 3 then (if b then 2 else 1)
  else if k = 2 then (if z = 2 then IntKind.i64.wrap ((IntKind.i64.wrap (IntKind.i64.wrap (c + 8) - 1)).tdiv 8) else if z = 5 ∨ z = 6 then c else 0) else 0 := rfl
theorem zY9 (s : Src) (x : Int) (hn : zH4 (decP x) = true) (seg a : Int) : ObK (zB4 s (decP x) seg a).1 := by
  obtain ⟨h1, h2⟩ := yJ8 x
  have hk : (decP x).kind = 1 ∨ (decP x).kind = 2 := by simpa [zH4] using hn
  unfold zB4
  split
  · exact .inl rfl
  · rename_i he
    split
    · exact .inl rfl
    · rcases hk with hk | hk
      · exact .inr (.inl ⟨hk, (h1 hk).1, (h1 hk).2⟩)
      · refine .inr (.inr ⟨hk, (h2 hk).1, (h2 hk).2, ?_⟩)
        have he2 : ¬ zF9 ⟨(decP x).kind, 0, (decP x).data, (decP x).ptrs, (decP x).size, (decP x).count, 0, false⟩ ≠ 0 := he
        clear he
        have he := he2
        rw [yJ9] at he
        rw [if_neg (by omega), if_neg (by omega), if_neg (by omega), if_pos hk] at he
        show (decP x).size = 2 ∨ (decP x).size = 5 ∨ (decP x).size = 6
        split at he
        · rename_i h; exact .inl h
        · split at he
          · rename_i h; exact .inr h
          · exact absurd (show (23 : Int) ≠ 0 by decide) he
theorem yB0 (s : Src) (seg a : Int) : ∃ x, (ptrS s seg a).1 = decP x := by
  unfold ptrS
  split
  · exact ⟨0, rfl⟩
  · exact ⟨_, rfl⟩
theorem zN3 (s : Src) (seg a : Int) : ObK (zA0 s seg a).1 := by
  obtain ⟨x, hx⟩ := yB0 s seg a
  unfold zA0
  split
  · exact .inl rfl
  · split
    · rename_i h
      rw [hx] at h ⊢
      exact zY9 s x h _ _
    · split
      · unfold zD6
        split
        · exact .inl rfl
        · split
          · exact .inl rfl
          · split
            · exact .inl rfl
            · split
              · exact .inl rfl
              · split
                · exact .inl rfl
                · rename_i h
                  refine zY9 s _ ?_ _ _
                  cases hq : zH4 (decP (s.word (ptrS s seg a).1.seg ((ptrS s seg a).1.off + 1)).1) with
                  | true => rfl
                  | false => exact absurd (.inr (.inr (.inl hq))) h
      · unfold zD0
        obtain ⟨y, hy⟩ := yB0 s (ptrS s seg a).1.seg (ptrS s seg a).1.off
        split
        · exact .inl rfl
        · split
          · exact .inl rfl
          · rename_i h
            rw [hy] at h ⊢
            exact zY9 s y (by simpa using h) _ _
theorem yP8 {o : Ob} (ho : ObR o) (hk : ObK o) (hw : zB8 o ≤ 8191) : o.data ≤ 8191 ∧ o.ptrs ≤ 8191 ∧ (o.size = 5 → o.count ≤ 8191) ∧ (o.size = 2 → o.count ≤ 65528) ∧ 0 ≤ kidN o ∧ kidN o ≤ 8191 := by
  obtain ⟨r1, r2, r3, r4, r5, r6, r7⟩ := ho
  rcases hk with rfl | ⟨h1, h2, h3⟩ | ⟨h1, h2, h3, h4⟩
  · simp [Ob0, kidN]
  · have hv : zB8 o = o.data + o.ptrs := by
      unfold zB8
      rw [if_neg (by omega)]
      unfold Ob.pt
      rw [qQ9]
      rw [if_neg (by omega), if_pos h1, zI8 (by simp only [inR]; omega)]
    unfold kidN
    rw [if_neg (by omega)]
    omega
  · have hv : (o.size = 2 → zB8 o = (o.count + 7) / 8) ∧ (o.size ≠ 2 → zB8 o = o.count) := by
      unfold zB8
      rw [if_neg (by omega)]
      unfold Ob.pt
      rw [qQ9]
      rw [if_neg (by omega), if_neg (by omega), if_neg (by omega), if_pos h1]
      refine ⟨fun h => ?_, fun h => ?_⟩
      · rw [if_pos h, zI8 (by simp only [inR]; omega : inR .i64 (o.count + 8)), zI8 (by simp only [inR]; omega : inR .i64 (o.count + 8 - 1)), Int.tdiv_eq_ediv_of_nonneg (by omega), zI8 (by simp only [inR]; omega : inR .i64 ((o.count + 8 - 1) / 8))]
        congr 1
        omega
      · rw [if_neg h, if_pos (by omega)]
    obtain ⟨v1, v2⟩ := hv
    unfold kidN
    refine ⟨by omega, by omega, fun h => by have := v2 (by omega); omega, fun h => by have := v1 h; omega, ?_⟩
    split
    · have := v2 (by omega); omega
    · omega
theorem qK8 {f : Int → Int → Int × Nd × Int} (hf : ∀ a p, 0 ≤ p → p ≤ 8192 → 0 ≤ (f a p).1 ∧ (f a p).1 ≤ 1000000000 ∧ ((f a p).2.2 = 0 → (f a p).1 ≤ 8192)) {a p : Int} (h0 : 0 ≤ p) (h1 : p ≤ 8192) : ∀ n, 0 ≤ (zK5 f a p n).1 ∧ (zK5 f a p n).1 ≤ 1000000000 ∧ ((zK5 f a p n).2.2 = 0 → (zK5 f a p n).1 ≤ 8192)
  | 0 => ⟨h0, by show p ≤ _; omega, fun _ => h1⟩
  | n + 1 => by
    obtain ⟨i1, i2, i3⟩ := qK8 hf (a := a) h0 h1 n
    rw [zK5]
    by_cases h : (zK5 f a p n).2.2 ≠ 0
    · rw [if_pos h]; exact ⟨i1, i2, i3⟩
    · rw [if_neg h]
      exact hf _ _ i1 (i3 (by simpa using h))
theorem yD5 {P : Program} {w : World} {v : Value} {s : Src} (H : SrcOk P w v s) : ∀ (d : Nat) (seg a p : Int), 0 ≤ p → p ≤ 8192 → 0 ≤ (zJ8 s d seg a p).1 ∧ (zJ8 s d seg a p).1 ≤ 1000000000 ∧ ((zJ8 s d seg a p).2.2 = 0 → (zJ8 s d seg a p).1 ≤ 8192) := by
  have step : ∀ (d : Nat) (seg a p : Int), (∀ seg a p, 0 ≤ p → p ≤ 8192 → 0 ≤ (qM9 s d seg a p).1 ∧ (qM9 s d seg a p).1 ≤ 1000000000 ∧ ((qM9 s d seg a p).2.2 = 0 → (qM9 s d seg a p).1 ≤ 8192)) → 0 ≤ p → p ≤ 8192 → 0 ≤ (zJ8 s d seg a p).1 ∧ (zJ8 s d seg a p).1 ≤ 1000000000 ∧ ((zJ8 s d seg a p).2.2 = 0 → (zJ8 s d seg a p).1 ≤ 8192) := by
    intro d seg a p hf h0 h1
    obtain ⟨w0, w1⟩ := zJ3 (zT7 H seg a)
    rw [yA9]
    unfold qM8
    split
    · exact ⟨h0, by show p ≤ _; omega, fun _ => h1⟩
    · split
      · exact ⟨by simp only []; omega, by simp only []; omega, fun h => by simp at h⟩
      · split
        · exact ⟨by simp only []; omega, by simp only []; omega, fun h => by simp at h⟩
        · rename_i hp
          obtain ⟨k1, k2, k3⟩ := qK8 (hf (zA0 s seg a).1.seg) (a := kidA (zA0 s seg a).1) (p := p + (1 + zB8 (zA0 s seg a).1)) (by omega) (by omega) (kidN (zA0 s seg a).1).toNat
          split
          · rename_i he
            exact ⟨k1, k2, fun h => absurd h he⟩
          · rename_i he
            exact ⟨k1, k2, fun _ => k3 (by simpa using he)⟩
  intro d
  induction d with
  | zero => exact fun seg a p => step 0 seg a p (fun seg a p h0 h1 => ⟨h0, by show p ≤ _; omega, fun _ => h1⟩)
  | succ d ih => exact fun seg a p => step (d + 1) seg a p (fun seg a p h0 h1 => ih seg a p h0 h1)
theorem yP9 {P : Program} {w : World} {v : Value} {s : Src} (H : SrcOk P w v s) (o : Ob) : ∀ x ∈ nodL s o, inR .u64 x := qK6 H _ _ _
theorem yW5 (s : Src) (o : Ob) : ∀ x ∈ nodB s o, inR .u8 x := by
  unfold nodB
  split
  · exact yJ7 _ _ _ _
  · intro x hx; simp at hx
theorem yQ0 {o : Ob} {d : Nat} {j : Nat} (hok : ObK o) (h2 : ¬ (o.kind ≠ 0 ∧ (d == 0) = true)) (hj : (j : Int) < kidN o) : ∃ e, d = e + 1 := by
  cases d with
  | succ e => exact ⟨e, rfl⟩
  | zero =>
    exfalso
    have h0 : o.kind = 0 := by
      by_cases h : o.kind = 0
      · exact h
      · exact absurd ⟨h, rfl⟩ h2
    rcases hok with rfl | h | h
    · simp [kidN, Ob0] at hj; omega
    · omega
    · omega
/-! ### memory -/
theorem Kp.upd_new {F : List Nat} {w w1 w2 : World} {b : Nat} (K : Kp F w w1) (u : Upd b w1 w2) (hb : w.heap.size ≤ b) : Kp F w w2 := K.trans (Kp.of_upd u (List.mem_singleton.2 rfl)) fun x hx => by simp only [List.mem_singleton] at hx; subst hx; exact .inr hb
theorem yW6 {w : World} {base n m c sz : Nat} {T : TypeId} {ad : Option Addr} {xs : List Value} (h : w.ownsRow base T sz (.slice ad n c) m xs) : n = m := by
  rcases h.2 with ⟨hv, hm⟩ | ⟨q, cap, cur, hv, _⟩
  · simp only [Value.slice.injEq] at hv
    omega
  · simp only [Value.slice.injEq] at hv
    omega
theorem jA8 {F : List Nat} {w w' : World} {base n sz : Nat} {T : TypeId} {v : Value} {xs : List Value} (h : w.ownsRow base T sz v n xs) (k : Kp F w w') (hF : ∀ x ∈ F, x < base) : w'.ownsRow base T sz v n xs := by
  refine ⟨h.1, ?_⟩
  rcases h.2 with hn | ⟨q, cap, cur, rfl, hb, hg, rest⟩
  · exact .inl hn
  · exact .inr ⟨q, cap, cur, rfl, hb, k.heap hg (fun hm => by have := hF q hm; omega), rest⟩
/-! ### any arena -/
def zB3 (A : List (List Int)) : List Int := A.map fun s => (s.length : Int)
theorem zF0 (A : List (List Int)) : (zB3 A).length = A.length := by simp [zB3]
theorem zH3 (A : List (List Int)) (i : Nat) : (zB3 A).getD i 0 = (len2 A i : Int) := by
  by_cases hi : i < A.length
  · rw [zE5 (by rw [zF0]; exact hi)]
    simp only [zB3, List.getElem_map, len2]
    rw [zE5 hi]
  · rw [zR8 (by omega), List.getD_eq_getElem?_getD, List.getElem?_eq_none (by rw [zF0]; omega)]
    rfl
theorem qH3 {A : List (List Int)} {k : Nat} (h : k < A.length) : zB3 (A.take (k + 1)) = zB3 (A.take k) ++ [(len2 A k : Int)] := by
  simp only [zB3, len2]
  rw [List.take_add_one, List.getElem?_eq_getElem h, List.map_append, zE5 h]
  rfl
def zC7 (A : List (List Int)) : Bool := decide (1 ≤ A.length ∧ A.length ≤ 16 ∧ 1 ≤ len2 A 0 ∧ zC4 A ≤ 4096)
theorem yK0 {A : List (List Int)} (h : zC7 A = true) (hx : ∀ q ∈ A, ∀ x ∈ q, inR .u64 x) : OkA A := by
  unfold zC7 at h
  obtain ⟨h1, h2, h3, h4⟩ := qT h
  exact ⟨h1, h2, h3, h4, hx⟩
def decT (A : List (List Int)) : Nd × Int := if zC7 A = false then (.nil, 1) else (zJ8 (zB0 A) 32 0 0 0).2
end Go.Proofs.YtkkbbhpbcfcplaaGreat.K
namespace Go.Proofs.YtkkbbhpbcfcplaaGreat.K
open Go Go.RowKit Go.Proofs
attribute [local irreducible] Run1 OpG WL W AO zB6
theorem yD6 (w : World)  : zB6 Tryz.prog 141 #[] w (.agg #[.int .i64 0, .int .i64 2]) := by
 have G := Grow.rfl' w
 refine zA8 Tryz.func141 Tryz.ntmps141 Tryz.results141 rfl rfl ?_
 refine qZ 2 ?_
 refine stp (zA7 ?_)
 intro b1 w2 hb3 hc4 g5
 refine qZ 3 ?_
 refine stp (zA9 (v := .agg #[.int .i64 0, .int .i64 2]) (fun w => by kernel_rfl) ?_)
 refine stn (qS hc4 ?_)
 intro w6 hc7 u8
 have g9 := g5.upd u8 hb3
 have hge10 := Nat.le_trans G.size hb3
 replace G := G.tr g9
 clear u8 g5 hb3 hc4
 refine qZ 2 ?_
 exact ret1 (zA5 rfl (by assumption) (by rfl)) ⟨rfl, G⟩
theorem qB6 (w : World)  : zB6 Tryz.prog 151 #[] w (.agg #[.int .i64 2, .int .i64 30]) := by
 have G := Grow.rfl' w
 refine zA8 Tryz.func151 Tryz.ntmps151 Tryz.results151 rfl rfl ?_
 refine qZ 2 ?_
 refine stp (zA7 ?_)
 intro b1 w2 hb3 hc4 g5
 refine qZ 3 ?_
 refine stp (zA9 (v := .agg #[.int .i64 2, .int .i64 30]) (fun w => by kernel_rfl) ?_)
 refine stn (qS hc4 ?_)
 intro w6 hc7 u8
 have g9 := g5.upd u8 hb3
 have hge10 := Nat.le_trans G.size hb3
 replace G := G.tr g9
 clear u8 g5 hb3 hc4
 refine qZ 2 ?_
 exact ret1 (zA5 rfl (by assumption) (by rfl)) ⟨rfl, G⟩
theorem yD7 (w : World)  : zB6 Tryz.prog 143 #[] w (.agg #[.int .i64 32, .int .i64 16]) := by
 have G := Grow.rfl' w
 refine zA8 Tryz.func143 Tryz.ntmps143 Tryz.results143 rfl rfl ?_
 refine qZ 2 ?_
 refine stp (zA7 ?_)
 intro b1 w2 hb3 hc4 g5
 refine qZ 3 ?_
 refine stp (zA9 (v := .agg #[.int .i64 32, .int .i64 16]) (fun w => by kernel_rfl) ?_)
 refine stn (qS hc4 ?_)
 intro w6 hc7 u8
 have g9 := g5.upd u8 hb3
 have hge10 := Nat.le_trans G.size hb3
 replace G := G.tr g9
 clear u8 g5 hb3 hc4
 refine qZ 2 ?_
 exact ret1 (zA5 rfl (by assumption) (by rfl)) ⟨rfl, G⟩
theorem yD8 (w : World)  : zB6 Tryz.prog 144 #[] w (.agg #[.int .i64 48, .int .i64 16]) := by
 have G := Grow.rfl' w
 refine zA8 Tryz.func144 Tryz.ntmps144 Tryz.results144 rfl rfl ?_
 refine qZ 2 ?_
 refine stp (zA7 ?_)
 intro b1 w2 hb3 hc4 g5
 refine qZ 3 ?_
 refine stp (zA9 (v := .agg #[.int .i64 48, .int .i64 16]) (fun w => by kernel_rfl) ?_)
 refine stn (qS hc4 ?_)
 intro w6 hc7 u8
 have g9 := g5.upd u8 hb3
 have hge10 := Nat.le_trans G.size hb3
 replace G := G.tr g9
 clear u8 g5 hb3 hc4
 refine qZ 2 ?_
 exact ret1 (zA5 rfl (by assumption) (by rfl)) ⟨rfl, G⟩
theorem yD9 (w : World)  : zB6 Tryz.prog 145 #[] w (.agg #[.int .i64 32, .int .i64 3]) := by
 have G := Grow.rfl' w
 refine zA8 Tryz.func145 Tryz.ntmps145 Tryz.results145 rfl rfl ?_
 refine qZ 2 ?_
 refine stp (zA7 ?_)
 intro b1 w2 hb3 hc4 g5
 refine qZ 3 ?_
 refine stp (zA9 (v := .agg #[.int .i64 32, .int .i64 3]) (fun w => by kernel_rfl) ?_)
 refine stn (qS hc4 ?_)
 intro w6 hc7 u8
 have g9 := g5.upd u8 hb3
 have hge10 := Nat.le_trans G.size hb3
 replace G := G.tr g9
 clear u8 g5 hb3 hc4
 refine qZ 2 ?_
 exact ret1 (zA5 rfl (by assumption) (by rfl)) ⟨rfl, G⟩
theorem qV5 (w : World)  : zB6 Tryz.prog 146 #[] w (.agg #[.int .i64 35, .int .i64 29]) := by
 have G := Grow.rfl' w
 refine zA8 Tryz.func146 Tryz.ntmps146 Tryz.results146 rfl rfl ?_
 refine qZ 2 ?_
 refine stp (zA7 ?_)
 intro b1 w2 hb3 hc4 g5
 refine qZ 3 ?_
 refine stp (zA9 (v := .agg #[.int .i64 35, .int .i64 29]) (fun w => by kernel_rfl) ?_)
 refine stn (qS hc4 ?_)
 intro w6 hc7 u8
 have g9 := g5.upd u8 hb3
 have hge10 := Nat.le_trans G.size hb3
 replace G := G.tr g9
 clear u8 g5 hb3 hc4
 refine qZ 2 ?_
 exact ret1 (zA5 rfl (by assumption) (by rfl)) ⟨rfl, G⟩
theorem qR0 (w : World)  : zB6 Tryz.prog 149 #[] w (.agg #[.int .i64 2, .int .i64 1]) := by
 have G := Grow.rfl' w
 refine zA8 Tryz.func149 Tryz.ntmps149 Tryz.results149 rfl rfl ?_
 refine qZ 2 ?_
 refine stp (zA7 ?_)
 intro b1 w2 hb3 hc4 g5
 refine qZ 3 ?_
 refine stp (zA9 (v := .agg #[.int .i64 2, .int .i64 1]) (fun w => by kernel_rfl) ?_)
 refine stn (qS hc4 ?_)
 intro w6 hc7 u8
 have g9 := g5.upd u8 hb3
 have hge10 := Nat.le_trans G.size hb3
 replace G := G.tr g9
 clear u8 g5 hb3 hc4
 refine qZ 2 ?_
 exact ret1 (zA5 rfl (by assumption) (by rfl)) ⟨rfl, G⟩
theorem qV6 (w : World)  : zB6 Tryz.prog 147 #[] w (.agg #[.int .i64 3, .int .i64 29]) := by
 have G := Grow.rfl' w
 refine zA8 Tryz.func147 Tryz.ntmps147 Tryz.results147 rfl rfl ?_
 refine qZ 2 ?_
 refine stp (zA7 ?_)
 intro b1 w2 hb3 hc4 g5
 refine qZ 3 ?_
 refine stp (zA9 (v := .agg #[.int .i64 3, .int .i64 29]) (fun w => by kernel_rfl) ?_)
 refine stn (qS hc4 ?_)
 intro w6 hc7 u8
 have g9 := g5.upd u8 hb3
 have hge10 := Nat.le_trans G.size hb3
 replace G := G.tr g9
 clear u8 g5 hb3 hc4
 refine qZ 2 ?_
 exact ret1 (zA5 rfl (by assumption) (by rfl)) ⟨rfl, G⟩
theorem yK1 (w : World)  : zB6 Tryz.prog 148 #[] w (.agg #[.int .i64 32, .int .i64 32]) := by
 have G := Grow.rfl' w
 refine zA8 Tryz.func148 Tryz.ntmps148 Tryz.results148 rfl rfl ?_
 refine qZ 2 ?_
 refine stp (zA7 ?_)
 intro b1 w2 hb3 hc4 g5
 refine qZ 3 ?_
 refine stp (zA9 (v := .agg #[.int .i64 32, .int .i64 32]) (fun w => by kernel_rfl) ?_)
 refine stn (qS hc4 ?_)
 intro w6 hc7 u8
 have g9 := g5.upd u8 hb3
 have hge10 := Nat.le_trans G.size hb3
 replace G := G.tr g9
 clear u8 g5 hb3 hc4
 refine qZ 2 ?_
 exact ret1 (zA5 rfl (by assumption) (by rfl)) ⟨rfl, G⟩
theorem zL6 (w : World) (x at_ wide : Int) (h0 : 0 ≤ at_) (h1 : 0 ≤ wide) : zB6 Tryz.prog 142 #[.agg #[.int .i64 at_, .int .i64 wide], .int .u64 x] w (.int .u64 (getF at_ wide x)) := by
 have G := Grow.rfl' w
 refine zA8 Tryz.func142 Tryz.ntmps142 Tryz.results142 rfl rfl ?_
 refine qZ 2 ?_
 refine stp ?_
 refine qC ?_
 intro b1 w2 hb3 hc4 g5
 have hge6 := Nat.le_trans G.size hb3
 replace G := G.tr g5
 clear g5 hb3
 refine qO 3 ?_
 refine zM8 10 [[], [], [0], [2, 1, 0], [], [0], [1, 0], [2, 1, 0], [7, 6, 5, 4, 3, 2, 1, 0], [8, 7, 6, 5, 4, 3, 2, 1, 0]] mixed (by kernel_rfl) (by kernel_rfl) (by kernel_rfl) ?_
 intro w7 g8
 replace hc4 := g8.heap hc4
 replace G := G.tr g8
 clear g8
 refine qA 3 ?_
 apply zC0
 ·intro w_ g_; refine og rfl ?_; (refine yO8 rfl rfl ?_ ?_; omega); exact qX
 refine qA 2 ?_
 apply zC0
 ·intro w_ g_; refine og rfl ?_; (refine yH6 rfl rfl ?_ ?_; omega); exact qX
 apply zC0
 ·intro w_ g_; refine og rfl ?_; (first | (refine zM9 rfl rfl ?_ ?_; (constructor <;> omega)) | refine qD8 rfl rfl ?_); exact qX
 apply zC0
 ·intro w_ g_; exact og rfl (yZ9 rfl rfl qX)
 refine qA 1 ?_
 refine zI4 ?_
 intro w9 g10
 replace hc4 := g10.heap hc4
 replace G := G.tr g10
 clear g10
 refine qZ 2 ?_
 exact ret1 (zA1 rfl) ⟨rfl, G⟩
theorem yQ1 (w : World) (x : Int) (h0 : 0 ≤ x) (h1 : x ≤ 18446744073709551615) : zB6 Tryz.prog 142 #[.agg #[.int .i64 0, .int .i64 2], .int .u64 x] w (.int .u64 (x % 4)) := by
  have e : getF 0 2 x = x % 4 := (zR2 0 2 (by omega) (by omega) x h0 h1).trans (by simp)
  have h := zL6 w x 0 2 (by omega) (by omega)
  rw [e] at h
  exact h
theorem yK2 (w : World) (x : Int) (h0 : 0 ≤ x) (h1 : x ≤ 18446744073709551615) : zB6 Tryz.prog 142 #[.agg #[.int .i64 2, .int .i64 30], .int .u64 x] w (.int .u64 (x / 4 % 1073741824)) := by
  have e : getF 2 30 x = x / 4 % 1073741824 := (zR2 2 30 (by omega) (by omega) x h0 h1).trans (by simp)
  have h := zL6 w x 2 30 (by omega) (by omega)
  rw [e] at h
  exact h
theorem yQ2 (w : World) (x : Int) (h0 : 0 ≤ x) (h1 : x ≤ 18446744073709551615) : zB6 Tryz.prog 142 #[.agg #[.int .i64 32, .int .i64 16], .int .u64 x] w (.int .u64 (x / 4294967296 % 65536)) := by
  have e : getF 32 16 x = x / 4294967296 % 65536 := (zR2 32 16 (by omega) (by omega) x h0 h1).trans (by simp)
  have h := zL6 w x 32 16 (by omega) (by omega)
  rw [e] at h
  exact h
theorem yQ3 (w : World) (x : Int) (h0 : 0 ≤ x) (h1 : x ≤ 18446744073709551615) : zB6 Tryz.prog 142 #[.agg #[.int .i64 48, .int .i64 16], .int .u64 x] w (.int .u64 (x / 281474976710656 % 65536)) := by
  have e : getF 48 16 x = x / 281474976710656 % 65536 := (zR2 48 16 (by omega) (by omega) x h0 h1).trans (by simp)
  have h := zL6 w x 48 16 (by omega) (by omega)
  rw [e] at h
  exact h
theorem yQ4 (w : World) (x : Int) (h0 : 0 ≤ x) (h1 : x ≤ 18446744073709551615) : zB6 Tryz.prog 142 #[.agg #[.int .i64 32, .int .i64 3], .int .u64 x] w (.int .u64 (x / 4294967296 % 8)) := by
  have e : getF 32 3 x = x / 4294967296 % 8 := (zR2 32 3 (by omega) (by omega) x h0 h1).trans (by simp)
  have h := zL6 w x 32 3 (by omega) (by omega)
  rw [e] at h
  exact h
theorem yK3 (w : World) (x : Int) (h0 : 0 ≤ x) (h1 : x ≤ 18446744073709551615) : zB6 Tryz.prog 142 #[.agg #[.int .i64 35, .int .i64 29], .int .u64 x] w (.int .u64 (x / 34359738368 % 536870912)) := by
  have e : getF 35 29 x = x / 34359738368 % 536870912 := (zR2 35 29 (by omega) (by omega) x h0 h1).trans (by simp)
  have h := zL6 w x 35 29 (by omega) (by omega)
  rw [e] at h
  exact h
theorem yE0 (w : World) (x : Int) (h0 : 0 ≤ x) (h1 : x ≤ 18446744073709551615) : zB6 Tryz.prog 142 #[.agg #[.int .i64 2, .int .i64 1], .int .u64 x] w (.int .u64 (x / 4 % 2)) := by
  have e : getF 2 1 x = x / 4 % 2 := (zR2 2 1 (by omega) (by omega) x h0 h1).trans (by simp)
  have h := zL6 w x 2 1 (by omega) (by omega)
  rw [e] at h
  exact h
theorem yK4 (w : World) (x : Int) (h0 : 0 ≤ x) (h1 : x ≤ 18446744073709551615) : zB6 Tryz.prog 142 #[.agg #[.int .i64 3, .int .i64 29], .int .u64 x] w (.int .u64 (x / 8 % 536870912)) := by
  have e : getF 3 29 x = x / 8 % 536870912 := (zR2 3 29 (by omega) (by omega) x h0 h1).trans (by simp)
  have h := zL6 w x 3 29 (by omega) (by omega)
  rw [e] at h
  exact h
theorem yW7 (w : World) (x : Int) (h0 : 0 ≤ x) (h1 : x ≤ 18446744073709551615) : zB6 Tryz.prog 142 #[.agg #[.int .i64 32, .int .i64 32], .int .u64 x] w (.int .u64 (x / 4294967296 % 4294967296)) := by
  have e : getF 32 32 x = x / 4294967296 % 4294967296 := (zR2 32 32 (by omega) (by omega) x h0 h1).trans (by simp)
  have h := zL6 w x 32 32 (by omega) (by omega)
  rw [e] at h
  exact h
theorem qE2 (w : World) (n : Int) (h0 : 0 ≤ n) (h1 : n < 1073741824) : zB6 Tryz.prog 150 #[.int .u64 n, .int .i64 30] w (.int .i64 (qA6 n)) := by
 have G := Grow.rfl' w
 refine zA8 Tryz.func150 Tryz.ntmps150 Tryz.results150 rfl rfl ?_
 refine qO 7 ?_
 refine stp ?_
 (first | (refine qU7 rfl rfl rfl ?_ ?_; omega) | (refine qU8 rfl rfl rfl ?_ ?_; omega) | refine qI7 rfl rfl rfl ?_)
 refine stp ?_
 (first | (refine yI4 rfl rfl rfl ?_ ?_; omega) | (refine yI5 rfl rfl rfl ?_ ?_; omega) | refine qP1 rfl rfl rfl ?_)
 refine stp ?_
 (first | (refine zM9 rfl rfl ?_ ?_; (constructor <;> omega)) | refine qD8 rfl rfl ?_)
 refine qO 6 ?_
 refine stp ?_
 (refine yH6 rfl rfl ?_ ?_; omega)
 refine stp ?_
 (first | (refine zF7 rfl ?_ ?_; (constructor <;> omega)) | refine zI5 rfl ?_)
 refine qO 1 ?_
 refine stp ?_
 (refine yO8 rfl rfl ?_ ?_; omega)
 refine qO 3 ?_
 exact ret1 (zA1 rfl) ⟨congrArg (Value.int .i64) (yJ2 n h0 h1), G⟩
theorem zK9 (w : World) (x : Int) (hx0 : 0 ≤ x) (hx1 : x ≤ 18446744073709551615) : zB6 Tryz.prog 116 #[.int .u64 x] w (.tuple #[(decP x).v, .int .u16 (decE x)]) := by
 have G := Grow.rfl' w
 refine zA8 Tryz.func116 Tryz.ntmps116 Tryz.results116 rfl rfl ?_
 refine qZ 2 ?_
 refine stp (zA7 ?_)
 intro b1 w2 hb3 hc4 g5
 refine qO 6 ?_
 refine stp ?_
 refine qC ?_
 refine zA6 ?_
 have hge6 := Nat.le_trans G.size hb3
 replace G := G.tr g5
 clear g5 hb3
 refine zA2 rfl (fun h0 => ?_) (fun h0 => ?_)
 ·
  first | replace h0 := qT h0 | replace h0 := qF h0 | skip
  refine qZ 2 ?_
  refine stp (zA9 (v := .agg #[.int .i64 (0), .int .i64 (0), .int .i64 (0), .int .i64 (0), .int .i64 (0), .int .i64 (0), .int .i64 (0), .bool false]) (fun w => by kernel_rfl) ?_)
  refine stn (qS hc4 ?_)
  intro w10 hc11 u12
  replace G := G.upd u12 hge6
  clear u12 hc4
  refine qO 3 ?_
  subst h0
  refine ret2 (zA5 rfl (by assumption) (by rfl)) (zB1 rfl) ⟨?_, G⟩
  simp [decP, decE, Pt.v, Pt0, ]
 ·
  first | replace h0 := qT h0 | replace h0 := qF h0 | skip
  refine qZ 3 ?_
  refine stp (zA7 ?_)
  intro b13 w14 hb15 hc16 g17
  refine qZ 4 ?_
  have hge18 := Nat.le_trans G.size hb15
  have ne19 := qN hc4 hb15
  replace hc4 := g17.heap hc4
  replace G := G.tr g17
  clear g17 hb15
  refine stp (zA4 rfl (yD6 _) ?_)
  intro w20 g21
  replace hc4 := g21.heap hc4
  replace hc16 := g21.heap hc16
  replace G := G.tr g21
  clear g21
  refine qO 1 ?_
  refine stp (zA4 rfl (yQ1 _ _ hx0 hx1) ?_)
  intro w22 g23
  replace hc4 := g23.heap hc4
  replace hc16 := g23.heap hc16
  replace G := G.tr g23
  clear g23
  refine qO 9 ?_
  refine stp ?_
  refine qC ?_
  refine qO 2 ?_
  refine zA2 rfl (fun h1 => ?_) (fun h1 => ?_)
  ·
   first | replace h1 := qT h1 | replace h1 := qF h1 | skip
   refine zZ6 rfl ?_
   refine stp (zA4 rfl (yD7 _) ?_)
   intro w24 g25
   replace hc4 := g25.heap hc4
   replace hc16 := g25.heap hc16
   replace G := G.tr g25
   clear g25
   refine qO 1 ?_
   refine stp (zA4 rfl (yQ2 _ _ hx0 hx1) ?_)
   intro w26 g27
   replace hc4 := g27.heap hc4
   replace hc16 := g27.heap hc16
   replace G := G.tr g27
   clear g27
   refine stp ?_
   (first | (refine zF7 rfl ?_ ?_; (constructor <;> omega)) | refine zI5 rfl ?_)
   refine stp (zA4 rfl (yD8 _) ?_)
   intro w28 g29
   replace hc4 := g29.heap hc4
   replace hc16 := g29.heap hc16
   replace G := G.tr g29
   clear g29
   refine qO 1 ?_
   refine stp (zA4 rfl (yQ3 _ _ hx0 hx1) ?_)
   intro w30 g31
   replace hc4 := g31.heap hc4
   replace hc16 := g31.heap hc16
   replace G := G.tr g31
   clear g31
   refine stp ?_
   (first | (refine zF7 rfl ?_ ?_; (constructor <;> omega)) | refine zI5 rfl ?_)
   refine stp (zA9 (v := .agg #[.int .i64 (1), .int .i64 (0), .int .i64 (x / 4294967296 % 65536), .int .i64 (x / 281474976710656 % 65536), .int .i64 (0), .int .i64 (0), .int .i64 (0), .bool false]) (fun w => by kernel_rfl) ?_)
   refine stn (qS hc16 ?_)
   intro w35 hc36 u37
   replace hc4 := u37.heap hc4 ne19
   replace G := G.upd u37 hge18
   clear u37 hc16
   refine qZ 3 ?_
   refine stp (zA4 rfl (qB6 _) ?_)
   intro w38 g39
   replace hc4 := g39.heap hc4
   replace hc36 := g39.heap hc36
   replace G := G.tr g39
   clear g39
   refine qO 1 ?_
   refine stp (zA4 rfl (yK2 _ _ hx0 hx1) ?_)
   intro w40 g41
   replace hc4 := g41.heap hc4
   replace hc36 := g41.heap hc36
   replace G := G.tr g41
   clear g41
   refine stp (zA4 rfl (qB6 _) ?_)
   intro w42 g43
   replace hc4 := g43.heap hc4
   replace hc36 := g43.heap hc36
   replace G := G.tr g43
   clear g43
   refine stp (yI2 rfl (by rfl) ?_)
   refine stp (zA4 rfl (qE2 _ _ (by omega) (by omega)) ?_)
   intro w44 g45
   replace hc4 := g45.heap hc4
   replace hc36 := g45.heap hc36
   replace G := G.tr g45
   clear g45
   refine qZ 1 ?_
   refine stn (zB9 (v := .int _ _) rfl rfl (by rfl) hc36 (by rfl) (by rfl) ?_)
   intro w49 hc50 u51
   replace hc4 := u51.heap hc4 ne19
   replace G := G.upd u51 hge18
   clear u51 hc36
   refine qZ 3 ?_
   refine stp ?_
   (first | refine zD8 rfl (by assumption) (by rfl) ?_ | refine zI0 rfl (by assumption) (by rfl) (by rfl) ?_)
   refine stn (qS hc4 ?_)
   intro w55 hc56 u57
   replace hc50 := u57.heap hc50 ne19.symm
   replace G := G.upd u57 hge6
   clear u57 hc4
   refine qO 3 ?_
   refine ret2 (zA5 rfl (by assumption) (by rfl)) (zB1 rfl) ⟨?_, G⟩
   simp [decP, decE, Pt.v, Pt0, h0, h1]
  ·
   first | replace h1 := qT h1 | replace h1 := qF h1 | skip
   refine qZ 2 ?_
   refine stp ?_
   refine qC ?_
   refine qO 2 ?_
   refine zA2 rfl (fun h2 => ?_) (fun h2 => ?_)
   ·
    first | replace h2 := qT h2 | replace h2 := qF h2 | skip
    refine zZ6 rfl ?_
    refine stp (zA4 rfl (yD9 _) ?_)
    intro w58 g59
    replace hc4 := g59.heap hc4
    replace hc16 := g59.heap hc16
    replace G := G.tr g59
    clear g59
    refine qO 1 ?_
    refine stp (zA4 rfl (yQ4 _ _ hx0 hx1) ?_)
    intro w60 g61
    replace hc4 := g61.heap hc4
    replace hc16 := g61.heap hc16
    replace G := G.tr g61
    clear g61
    refine stp ?_
    (first | (refine zF7 rfl ?_ ?_; (constructor <;> omega)) | refine zI5 rfl ?_)
    refine stp (zA4 rfl (qV5 _) ?_)
    intro w62 g63
    replace hc4 := g63.heap hc4
    replace hc16 := g63.heap hc16
    replace G := G.tr g63
    clear g63
    refine qO 1 ?_
    refine stp (zA4 rfl (yK3 _ _ hx0 hx1) ?_)
    intro w64 g65
    replace hc4 := g65.heap hc4
    replace hc16 := g65.heap hc16
    replace G := G.tr g65
    clear g65
    refine stp ?_
    (first | (refine zF7 rfl ?_ ?_; (constructor <;> omega)) | refine zI5 rfl ?_)
    refine stp (zA9 (v := .agg #[.int .i64 (2), .int .i64 (0), .int .i64 (0), .int .i64 (0), .int .i64 (x / 4294967296 % 8), .int .i64 (x / 34359738368 % 536870912), .int .i64 (0), .bool false]) (fun w => by kernel_rfl) ?_)
    refine stn (qS hc16 ?_)
    intro w69 hc70 u71
    replace hc4 := u71.heap hc4 ne19
    replace G := G.upd u71 hge18
    clear u71 hc16
    refine qZ 3 ?_
    refine stp (zA4 rfl (qB6 _) ?_)
    intro w72 g73
    replace hc4 := g73.heap hc4
    replace hc70 := g73.heap hc70
    replace G := G.tr g73
    clear g73
    refine qO 1 ?_
    refine stp (zA4 rfl (yK2 _ _ hx0 hx1) ?_)
    intro w74 g75
    replace hc4 := g75.heap hc4
    replace hc70 := g75.heap hc70
    replace G := G.tr g75
    clear g75
    refine stp (zA4 rfl (qB6 _) ?_)
    intro w76 g77
    replace hc4 := g77.heap hc4
    replace hc70 := g77.heap hc70
    replace G := G.tr g77
    clear g77
    refine stp (yI2 rfl (by rfl) ?_)
    refine stp (zA4 rfl (qE2 _ _ (by omega) (by omega)) ?_)
    intro w78 g79
    replace hc4 := g79.heap hc4
    replace hc70 := g79.heap hc70
    replace G := G.tr g79
    clear g79
    refine qZ 1 ?_
    refine stn (zB9 (v := .int _ _) rfl rfl (by rfl) hc70 (by rfl) (by rfl) ?_)
    intro w83 hc84 u85
    replace hc4 := u85.heap hc4 ne19
    replace G := G.upd u85 hge18
    clear u85 hc70
    refine qZ 3 ?_
    refine stp ?_
    (first | refine zD8 rfl (by assumption) (by rfl) ?_ | refine zI0 rfl (by assumption) (by rfl) (by rfl) ?_)
    refine stn (qS hc4 ?_)
    intro w89 hc90 u91
    replace hc84 := u91.heap hc84 ne19.symm
    replace G := G.upd u91 hge6
    clear u91 hc4
    refine qO 3 ?_
    refine ret2 (zA5 rfl (by assumption) (by rfl)) (zB1 rfl) ⟨?_, G⟩
    simp [decP, decE, Pt.v, Pt0, h0, h1, h2]
   ·
    first | replace h2 := qT h2 | replace h2 := qF h2 | skip
    refine qZ 2 ?_
    refine stp ?_
    refine qC ?_
    refine qO 2 ?_
    refine zA2 rfl (fun h3 => ?_) (fun h3 => ?_)
    ·
     first | replace h3 := qT h3 | replace h3 := qF h3 | skip
     refine qZ 2 ?_
     refine stp (zA4 rfl (qV6 _) ?_)
     intro w92 g93
     replace hc4 := g93.heap hc4
     replace hc16 := g93.heap hc16
     replace G := G.tr g93
     clear g93
     refine qO 1 ?_
     refine stp (zA4 rfl (yK4 _ _ hx0 hx1) ?_)
     intro w94 g95
     replace hc4 := g95.heap hc4
     replace hc16 := g95.heap hc16
     replace G := G.tr g95
     clear g95
     refine stp ?_
     (first | (refine zF7 rfl ?_ ?_; (constructor <;> omega)) | refine zI5 rfl ?_)
     refine stp (zA4 rfl (yK1 _) ?_)
     intro w96 g97
     replace hc4 := g97.heap hc4
     replace hc16 := g97.heap hc16
     replace G := G.tr g97
     clear g97
     refine qO 1 ?_
     refine stp (zA4 rfl (yW7 _ _ hx0 hx1) ?_)
     intro w98 g99
     replace hc4 := g99.heap hc4
     replace hc16 := g99.heap hc16
     replace G := G.tr g99
     clear g99
     refine stp ?_
     (first | (refine zF7 rfl ?_ ?_; (constructor <;> omega)) | refine zI5 rfl ?_)
     refine stp (zA4 rfl (qR0 _) ?_)
     intro w100 g101
     replace hc4 := g101.heap hc4
     replace hc16 := g101.heap hc16
     replace G := G.tr g101
     clear g101
     refine qO 1 ?_
     refine stp (zA4 rfl (yE0 _ _ hx0 hx1) ?_)
     intro w102 g103
     replace hc4 := g103.heap hc4
     replace hc16 := g103.heap hc16
     replace G := G.tr g103
     clear g103
     refine stp (zD5 rfl rfl ?_)
     refine stp (zA9 (v := .agg #[.int .i64 (3), .int .i64 (x / 8 % 536870912), .int .i64 (0), .int .i64 (0), .int .i64 (0), .int .i64 (0), .int .i64 (x / 4294967296 % 4294967296), .bool (decide (x / 4 % 2 = 1))]) (fun w => by kernel_rfl) ?_)
     refine stn (qS hc4 ?_)
     intro w107 hc108 u109
     replace hc16 := u109.heap hc16 ne19.symm
     replace G := G.upd u109 hge6
     clear u109 hc4
     refine qO 3 ?_
     refine ret2 (zA5 rfl (by assumption) (by rfl)) (zB1 rfl) ⟨?_, G⟩
     simp [decP, decE, Pt.v, Pt0, h0, h1, h2, h3]
    ·
     first | replace h3 := qT h3 | replace h3 := qF h3 | skip
     have h4 : x % 4 = 3 := by omega
     refine qZ 2 ?_
     refine stp ?_
     (first | refine zD8 rfl (by assumption) (by rfl) ?_ | refine zI0 rfl (by assumption) (by rfl) (by rfl) ?_)
     refine stn (qS hc4 ?_)
     intro w113 hc114 u115
     replace hc16 := u115.heap hc16 ne19.symm
     replace G := G.upd u115 hge6
     clear u115 hc4
     refine qO 3 ?_
     refine ret2 (zA5 rfl (by assumption) (by rfl)) (zB1 rfl) ⟨?_, G⟩
     simp [decP, decE, Pt.v, Pt0, h0, h1, h2, h3, h4]
theorem zZ0 (w : World) (p : Pt) : zB6 Tryz.prog 117 #[.agg #[.int .i64 (p.kind), .int .i64 (p.off), .int .i64 (p.data), .int .i64 (p.ptrs), .int .i64 (p.size), .int .i64 (p.count), .int .i64 (p.seg), .bool p.dbl]] w (.tuple #[.int .i64 (zF4 p), .int .u16 (zF9 p)]) := by
 have G := Grow.rfl' w
 refine zA8 Tryz.func117 Tryz.ntmps117 Tryz.results117 rfl rfl ?_
 refine qZ 2 ?_
 refine stp ?_
 refine qC ?_
 intro b1 w2 hb3 hc4 g5
 have hge6 := Nat.le_trans G.size hb3
 replace G := G.tr g5
 clear g5 hb3
 refine qO 12 ?_
 refine stp ?_
 refine qC ?_
 refine qO 2 ?_
 refine zA2 rfl (fun h0 => ?_) (fun h0 => ?_)
 ·
  first | replace h0 := qT h0 | replace h0 := qF h0 | skip
  refine qO 6 ?_
  refine ret2 (zB1 rfl) (zB1 rfl) ⟨?_, G⟩
  simp [zF4, zF9, h0]
 ·
  first | replace h0 := qT h0 | replace h0 := qF h0 | skip
  refine qZ 2 ?_
  refine stp ?_
  refine qC ?_
  refine qO 2 ?_
  refine zA2 rfl (fun h1 => ?_) (fun h1 => ?_)
  ·
   first | replace h1 := qT h1 | replace h1 := qF h1 | skip
   refine qZ 6 ?_
   refine stp ?_
   (first | (refine zB5 rfl rfl ?_ ?_; (constructor <;> omega)) | refine zG6 rfl rfl ?_)
   refine qO 4 ?_
   refine ret2 (zB1 rfl) (zB1 rfl) ⟨?_, G⟩
   simp [zF4, zF9, h0, h1]
  ·
   first | replace h1 := qT h1 | replace h1 := qF h1 | skip
   refine qZ 2 ?_
   refine stp ?_
   refine qC ?_
   refine qO 2 ?_
   refine zA2 rfl (fun h3 => ?_) (fun h3 => ?_)
   ·
    first | replace h3 := qT h3 | replace h3 := qF h3 | skip
    refine qZ 6 ?_
    refine zA2 rfl (fun hd_ => ?_) (fun hd_ => ?_)
    ·
     first | replace hd_ := qT hd_ | replace hd_ := qF hd_ | skip
     refine qO 6 ?_
     refine ret2 (zB1 rfl) (zB1 rfl) ⟨?_, G⟩
     simp [zF4, zF9, h0, h1, h3, hd_]
    ·
     first | replace hd_ := qT hd_ | replace hd_ := qF hd_ | skip
     refine qO 7 ?_
     refine ret2 (zB1 rfl) (zB1 rfl) ⟨?_, G⟩
     simp [zF4, zF9, h0, h1, h3, hd_]
   ·
    first | replace h3 := qT h3 | replace h3 := qF h3 | skip
    refine qZ 2 ?_
    refine stp ?_
    refine qC ?_
    refine qO 2 ?_
    refine zA2 rfl (fun h2 => ?_) (fun h2 => ?_)
    ·
     first | replace h2 := qT h2 | replace h2 := qF h2 | skip
     refine qZ 15 ?_
     refine stp ?_
     refine qC ?_
     refine qO 2 ?_
     refine zA2 rfl (fun s2 => ?_) (fun s2 => ?_)
     ·
      first | replace s2 := qT s2 | replace s2 := qF s2 | skip
      refine qZ 6 ?_
      refine stp ?_
      (first | (refine zB5 rfl rfl ?_ ?_; (constructor <;> omega)) | refine zG6 rfl rfl ?_)
      refine stp ?_
      (first | (refine zM9 rfl rfl ?_ ?_; (constructor <;> omega)) | refine qD8 rfl rfl ?_)
      refine stp ?_
      (first | (refine qA0 rfl rfl ?_ ?_ ?_ ?_; omega; omega; (constructor <;> omega)) | (refine yH4 rfl rfl ?_ ?_; omega))
      refine qO 4 ?_
      refine ret2 (zB1 rfl) (zB1 rfl) ⟨?_, G⟩
      simp [zF4, zF9, h0, h1, h3, h2, s2]
     ·
      first | replace s2 := qT s2 | replace s2 := qF s2 | skip
      refine qZ 4 ?_
      refine stp ?_
      refine qC ?_
      refine qO 2 ?_
      refine zA2 rfl (fun s5 => ?_) (fun s5 => ?_)
      ·
       first | replace s5 := qT s5 | replace s5 := qF s5 | skip
       refine qO 10 ?_
       refine ret2 (zB1 rfl) (zB1 rfl) ⟨?_, G⟩
       simp [zF4, zF9, h0, h1, h3, h2, s2, s5]
      ·
       first | replace s5 := qT s5 | replace s5 := qF s5 | skip
       refine qZ 3 ?_
       refine stp ?_
       refine qC ?_
       refine qO 2 ?_
       refine zA2 rfl (fun s6 => ?_) (fun s6 => ?_)
       ·
        first | replace s6 := qT s6 | replace s6 := qF s6 | skip
        refine qO 10 ?_
        refine ret2 (zB1 rfl) (zB1 rfl) ⟨?_, G⟩
        simp [zF4, zF9, h0, h1, h3, h2, s2, s5, s6]
       ·
        first | replace s6 := qT s6 | replace s6 := qF s6 | skip
        refine qO 8 ?_
        refine ret2 (zB1 rfl) (zB1 rfl) ⟨?_, G⟩
        simp [zF4, zF9, h0, h1, h3, h2, s2, s5, s6]
    ·
     first | replace h2 := qT h2 | replace h2 := qF h2 | skip
     refine qO 7 ?_
     refine ret2 (zB1 rfl) (zB1 rfl) ⟨?_, G⟩
     simp [zF4, zF9, h0, h1, h3, h2]
theorem zJ9 (w : World) (x : Int) (a b : Nat) (hx0 : 0 ≤ x) (hx1 : x ≤ 18446744073709551615) (ha : a ≤ 63) (hb : b ≤ 62) : zB6 Tryz.prog 85 #[.int .u64 x, .int .i64 a, .int .i64 b] w (.int .u64 (x / 2 ^ a % 2 ^ b)) := by
 have G := Grow.rfl' w
 refine zA8 Tryz.func85 Tryz.ntmps85 Tryz.results85 rfl rfl ?_
 refine qO 10 ?_
 refine zF5 (fun m_ e_ w_ => ∃ (k : Nat), m_ = a - k ∧ Fr [(0, .int .u64 (x / 2 ^ k)), (1, .int .i64 a), (2, .int .i64 b), (7, .int .i64 k)] e_ ∧ (k ≤ a) ∧ Grow w w_) _ ⟨0, rfl, zC6 ⟨congrArg (Value.int .u64) (by simp), rfl, rfl, rfl, trivial⟩, by omega, G⟩ ?_
 clear G
 rintro m_ e_ w1 ⟨k, rfl, ⟨e2, rfl⟩, hk, G⟩
 refine qO 5 ?_
 refine stp ?_
 refine qC ?_
 refine zA6 ?_
 refine zA2 rfl (fun hlt => ?_) (fun hlt => ?_)
 ·
  first | replace hlt := qT hlt | replace hlt := qF hlt | skip
  have hk2 : k < a := by omega
  obtain ⟨hd0, hd1⟩ := qP3 x k hx0
  refine qO 5 ?_
  refine stp ?_
  (first | (refine qA0 rfl rfl ?_ ?_ ?_ ?_; omega; omega; (constructor <;> omega)) | (refine yH4 rfl rfl ?_ ?_; omega))
  refine qO 4 ?_
  refine stp ?_
  (first | (refine zB5 rfl rfl ?_ ?_; (constructor <;> omega)) | refine zG6 rfl rfl ?_)
  refine qO 2 ?_
  refine ⟨_, ?_, k + 1, rfl, zC6 ⟨congrArg (Value.int .u64) (yW0 x k).symm, rfl, rfl, rfl, trivial⟩, by omega, G⟩
  omega
 ·
  first | replace hlt := qT hlt | replace hlt := qF hlt | skip
  have hk2 : k = a := by omega
  subst hk2
  obtain ⟨hd0, hd1⟩ := qP3 x k hx0
  refine qO 11 ?_
  refine zF5 (fun m_ e_ w_ => ∃ (j : Nat), m_ = b - j ∧ Fr [(0, .int .u64 (x / 2 ^ k)), (8, .int .u64 (2 ^ j)), (2, .int .i64 b), (9, .int .i64 j)] e_ ∧ (j ≤ b) ∧ Grow w w_) _ ⟨0, rfl, zC6 ⟨rfl, rfl, rfl, rfl, trivial⟩, by omega, G⟩ ?_
  clear G
  rintro m_ e_ w3 ⟨j, rfl, ⟨e4, rfl⟩, hj, G⟩
  refine qO 5 ?_
  refine stp ?_
  refine qC ?_
  refine zA6 ?_
  refine zA2 rfl (fun hlt2 => ?_) (fun hlt2 => ?_)
  ·
   first | replace hlt2 := qT hlt2 | replace hlt2 := qF hlt2 | skip
   have hj2 : j < b := by omega
   obtain ⟨hp0, hp1, hp2⟩ := qA8 j (by omega)
   refine qO 5 ?_
   refine stp ?_
   (first | (refine zZ9 rfl rfl ?_ ?_; (constructor <;> omega)) | refine zU5 rfl rfl ?_)
   refine qO 4 ?_
   refine stp ?_
   (first | (refine zB5 rfl rfl ?_ ?_; (constructor <;> omega)) | refine zG6 rfl rfl ?_)
   refine qO 2 ?_
   refine ⟨_, ?_, j + 1, rfl, zC6 ⟨rfl, congrArg (Value.int .u64) hp2.symm, rfl, rfl, trivial⟩, by omega, G⟩
   omega
  ·
   first | replace hlt2 := qT hlt2 | replace hlt2 := qF hlt2 | skip
   have hj2 : j = b := by omega
   subst hj2
   obtain ⟨hp0, hp1, hp2⟩ := qA8 j (by omega)
   refine qO 5 ?_
   refine stp ?_
   (first | (refine zP1 rfl rfl ?_ ?_ ?_; omega; omega) | (refine yH5 rfl rfl ?_ ?_; omega))
   refine qO 3 ?_
   exact ret1 (zB1 rfl) ⟨rfl, G⟩
theorem yK5 (w : World) (x : Int) (h0 : 0 ≤ x) (h1 : x ≤ 18446744073709551615) : zB6 Tryz.prog 85 #[.int .u64 x, .int .i64 2, .int .i64 30] w (.int .u64 (x / 4 % 1073741824)) := by
  have h := zJ9 w x 2 30 h0 h1 (by omega) (by omega)
  rw [show x / 2 ^ 2 % 2 ^ 30 = x / 4 % 1073741824 from by simp] at h
  exact h
theorem yE1 (w : World) (x : Int) (h0 : 0 ≤ x) (h1 : x ≤ 18446744073709551615) : zB6 Tryz.prog 85 #[.int .u64 x, .int .i64 32, .int .i64 16] w (.int .u64 (x / 4294967296 % 65536)) := by
  have h := zJ9 w x 32 16 h0 h1 (by omega) (by omega)
  rw [show x / 2 ^ 32 % 2 ^ 16 = x / 4294967296 % 65536 from by simp] at h
  exact h
theorem yE2 (w : World) (x : Int) (h0 : 0 ≤ x) (h1 : x ≤ 18446744073709551615) : zB6 Tryz.prog 85 #[.int .u64 x, .int .i64 48, .int .i64 16] w (.int .u64 (x / 281474976710656 % 65536)) := by
  have h := zJ9 w x 48 16 h0 h1 (by omega) (by omega)
  rw [show x / 2 ^ 48 % 2 ^ 16 = x / 281474976710656 % 65536 from by simp] at h
  exact h
theorem yK6 (w : World) (x : Int) (h0 : 0 ≤ x) (h1 : x ≤ 18446744073709551615) : zB6 Tryz.prog 85 #[.int .u64 x, .int .i64 32, .int .i64 3] w (.int .u64 (x / 4294967296 % 8)) := by
  have h := zJ9 w x 32 3 h0 h1 (by omega) (by omega)
  rw [show x / 2 ^ 32 % 2 ^ 3 = x / 4294967296 % 8 from by simp] at h
  exact h
theorem yE3 (w : World) (x : Int) (h0 : 0 ≤ x) (h1 : x ≤ 18446744073709551615) : zB6 Tryz.prog 85 #[.int .u64 x, .int .i64 35, .int .i64 29] w (.int .u64 (x / 34359738368 % 536870912)) := by
  have h := zJ9 w x 35 29 h0 h1 (by omega) (by omega)
  rw [show x / 2 ^ 35 % 2 ^ 29 = x / 34359738368 % 536870912 from by simp] at h
  exact h
theorem yK7 (w : World) (x : Int) (h0 : 0 ≤ x) (h1 : x ≤ 18446744073709551615) : zB6 Tryz.prog 85 #[.int .u64 x, .int .i64 3, .int .i64 29] w (.int .u64 (x / 8 % 536870912)) := by
  have h := zJ9 w x 3 29 h0 h1 (by omega) (by omega)
  rw [show x / 2 ^ 3 % 2 ^ 29 = x / 8 % 536870912 from by simp] at h
  exact h
theorem yE4 (w : World) (x : Int) (h0 : 0 ≤ x) (h1 : x ≤ 18446744073709551615) : zB6 Tryz.prog 85 #[.int .u64 x, .int .i64 32, .int .i64 32] w (.int .u64 (x / 4294967296 % 4294967296)) := by
  have h := zJ9 w x 32 32 h0 h1 (by omega) (by omega)
  rw [show x / 2 ^ 32 % 2 ^ 32 = x / 4294967296 % 4294967296 from by simp] at h
  exact h
theorem yQ5 (w : World) (x : Int) (h0 : 0 ≤ x) (h1 : x ≤ 18446744073709551615) : zB6 Tryz.prog 85 #[.int .u64 x, .int .i64 2, .int .i64 1] w (.int .u64 (x / 4 % 2)) := by
  have h := zJ9 w x 2 1 h0 h1 (by omega) (by omega)
  rw [show x / 2 ^ 2 % 2 ^ 1 = x / 4 % 2 from by simp] at h
  exact h
theorem qN0 (w : World) (n : Int) (h0 : 0 ≤ n) (h1 : n < 1073741824) : zB6 Tryz.prog 86 #[.int .u64 n, .int .i64 30] w (.int .i64 (qA6 n)) := by
 have G := Grow.rfl' w
 refine zA8 Tryz.func86 Tryz.ntmps86 Tryz.results86 rfl rfl ?_
 refine qO 7 ?_
 refine stp ?_
 (first | (refine qU7 rfl rfl rfl ?_ ?_; omega) | (refine qU8 rfl rfl rfl ?_ ?_; omega) | refine qI7 rfl rfl rfl ?_)
 refine stp ?_
 (first | (refine yI4 rfl rfl rfl ?_ ?_; omega) | (refine yI5 rfl rfl rfl ?_ ?_; omega) | refine qP1 rfl rfl rfl ?_)
 refine qO 12 ?_
 refine zF5 (fun m_ e_ w_ => ∃ (k : Nat), m_ = 29 - k ∧ Fr [(0, .int .u64 n), (1, .int .i64 30), (5, .int .i64 (2 ^ k)), (6, .int .i64 (k + 1))] e_ ∧ (k ≤ 29) ∧ Grow w w_) _ ⟨0, rfl, zC6 ⟨rfl, rfl, rfl, rfl, trivial⟩, by omega, G⟩ ?_
 clear G
 rintro m_ e_ w1 ⟨k, rfl, ⟨e2, rfl⟩, hk, G⟩
 refine qO 5 ?_
 refine stp ?_
 refine qC ?_
 refine zA6 ?_
 refine zA2 rfl (fun hlt => ?_) (fun hlt => ?_)
 ·
  first | replace hlt := qT hlt | replace hlt := qF hlt | skip
  obtain ⟨hp0, hp1, hp2⟩ := qU9 k (by omega)
  refine qO 5 ?_
  refine stp ?_
  (first | (refine zZ9 rfl rfl ?_ ?_; (constructor <;> omega)) | refine zU5 rfl rfl ?_)
  refine qO 4 ?_
  refine stp ?_
  (first | (refine zB5 rfl rfl ?_ ?_; (constructor <;> omega)) | refine zG6 rfl rfl ?_)
  refine qO 2 ?_
  refine ⟨_, ?_, k + 1, rfl, zC6 ⟨rfl, rfl, congrArg (Value.int .i64) hp2.symm, rfl, trivial⟩, by omega, G⟩
  omega
 ·
  first | replace hlt := qT hlt | replace hlt := qF hlt | skip
  have hk2 : k = 29 := by omega
  subst hk2
  have hpw : (2 : Int) ^ 29 = 536870912 := rfl
  refine qO 5 ?_
  refine stp ?_
  (first | (refine zF7 rfl ?_ ?_; (constructor <;> omega)) | refine zI5 rfl ?_)
  refine stp ?_
  (first | (refine zZ9 rfl rfl ?_ ?_; (constructor <;> omega)) | refine zU5 rfl rfl ?_)
  refine stp ?_
  (first | (refine zP1 rfl rfl ?_ ?_ ?_; omega; omega) | (refine yH5 rfl rfl ?_ ?_; omega))
  refine stp ?_
  (first | (refine zF7 rfl ?_ ?_; (constructor <;> omega)) | refine zI5 rfl ?_)
  refine qO 7 ?_
  refine stp ?_
  refine qC ?_
  refine zA6 ?_
  refine zA2 rfl (fun hge => ?_) (fun hge => ?_)
  ·
   first | replace hge := qT hge | replace hge := qF hge | skip
   refine qO 4 ?_
   refine stp ?_
   (first | (refine zM9 rfl rfl ?_ ?_; (constructor <;> omega)) | refine qD8 rfl rfl ?_)
   refine qO 1 ?_
   refine stp ?_
   (first | (refine zM9 rfl rfl ?_ ?_; (constructor <;> omega)) | refine qD8 rfl rfl ?_)
   refine qO 3 ?_
   refine ret1 (zB1 rfl) ⟨congrArg (Value.int .i64) ?_, G⟩
   unfold qA6; rw [if_neg (by omega)]; omega
  ·
   first | replace hge := qT hge | replace hge := qF hge | skip
   refine qO 7 ?_
   refine ret1 (zB1 rfl) ⟨congrArg (Value.int .i64) ?_, G⟩
   unfold qA6; rw [if_pos (by omega)]; omega
theorem jC2 (w : World) (x m : Int) (b : Nat) (hx0 : 0 ≤ x) (hx1 : x ≤ 18446744073709551615) (hb : b ≤ 62) (hm : x % 2 ^ b = m) : zB6 Tryz.prog 85 #[.int .u64 x, .int .i64 0, .int .i64 b] w (.int .u64 m) := by
  have h := zJ9 w x 0 b hx0 hx1 (by omega) hb
  rw [Int.pow_zero, Int.ediv_one, hm] at h
  exact h
theorem zV7 (w : World) (x m : Int) (b : Nat) (hb : b ≤ 62) (hm : IntKind.u64.wrap x % 2 ^ b = m) : zB6 Tryz.prog 48 #[.int .i64 x, .int .i64 b] w (.int .u64 m) := by
 have G := Grow.rfl' w
 refine zA8 Tryz.func48 Tryz.ntmps48 Tryz.results48 rfl rfl ?_
 have hu := wrap_u64 x
 refine qO 7 ?_
 refine stp ?_
 (first | (refine zF7 rfl ?_ ?_; (constructor <;> omega)) | refine zI5 rfl ?_)
 refine qO 1 ?_
 refine stp (zA4 rfl (jC2 _ _ _ b (by omega) (by omega) hb hm) ?_)
 intro w1 g2
 replace G := G.tr g2
 clear g2
 refine qO 3 ?_
 exact ret1 (zB1 rfl) ⟨rfl, G⟩
theorem yB1 (w : World) (x : Int) : zB6 Tryz.prog 48 #[.int .i64 x, .int .i64 30] w (.int .u64 (x % 1073741824)) :=
  zV7 w x _ 30 (by omega) (by rw [wrap_u64]; show _ % (1073741824 : Int) = _; omega)
theorem yB2 (w : World) (x : Int) : zB6 Tryz.prog 48 #[.int .i64 x, .int .i64 16] w (.int .u64 (x % 65536)) :=
  zV7 w x _ 16 (by omega) (by rw [wrap_u64]; show _ % (65536 : Int) = _; omega)
theorem jA9 (w : World) (x : Int) : zB6 Tryz.prog 48 #[.int .i64 x, .int .i64 3] w (.int .u64 (x % 8)) :=
  zV7 w x _ 3 (by omega) (by rw [wrap_u64]; show _ % (8 : Int) = _; omega)
theorem yK8 (w : World) (x : Int) : zB6 Tryz.prog 48 #[.int .i64 x, .int .i64 29] w (.int .u64 (x % 536870912)) :=
  zV7 w x _ 29 (by omega) (by rw [wrap_u64]; show _ % (536870912 : Int) = _; omega)
theorem jB0 (w : World) (x : Int) : zB6 Tryz.prog 48 #[.int .i64 x, .int .i64 32] w (.int .u64 (x % 4294967296)) :=
  zV7 w x _ 32 (by omega) (by rw [wrap_u64]; show _ % (4294967296 : Int) = _; omega)
theorem zF1 (w : World) (x : Int) (hx0 : 0 ≤ x) (hx1 : x ≤ 18446744073709551615) : zB6 Tryz.prog 49 #[.int .u64 x] w (.tuple #[(decP x).v, .int .i64 (decE x)]) := by
 have G := Grow.rfl' w
 refine zA8 Tryz.func49 Tryz.ntmps49 Tryz.results49 rfl rfl ?_
 refine qZ 2 ?_
 refine stp (zA7 ?_)
 intro b1 w2 hb3 hc4 g5
 refine qO 6 ?_
 refine stp ?_
 refine qC ?_
 refine zA6 ?_
 have hge6 := Nat.le_trans G.size hb3
 replace G := G.tr g5
 clear g5 hb3
 refine zA2 rfl (fun h0 => ?_) (fun h0 => ?_)
 ·
  first | replace h0 := qT h0 | replace h0 := qF h0 | skip
  refine qZ 2 ?_
  refine stp (zA9 (v := .agg #[.int .i64 (0), .int .i64 (0), .int .i64 (0), .int .i64 (0), .int .i64 (0), .int .i64 (0), .int .i64 (0), .bool false]) (fun w => by kernel_rfl) ?_)
  refine stn (qS hc4 ?_)
  intro w10 hc11 u12
  replace G := G.upd u12 hge6
  clear u12 hc4
  refine qO 3 ?_
  subst h0
  refine ret2 (zA5 rfl (by assumption) (by rfl)) (zB1 rfl) ⟨?_, G⟩
  simp [decP, decE, Pt.v, Pt0]
 ·
  first | replace h0 := qT h0 | replace h0 := qF h0 | skip
  refine qO 4 ?_
  refine stp (zA4 rfl (yK5 _ _ (by omega) (by omega)) ?_)
  intro w13 g14
  replace hc4 := g14.heap hc4
  replace G := G.tr g14
  clear g14
  refine stp (zA4 rfl (qN0 _ _ (by omega) (by omega)) ?_)
  intro w15 g16
  replace hc4 := g16.heap hc4
  replace G := G.tr g16
  clear g16
  refine qO 6 ?_
  refine stp ?_
  (first | (refine zP1 rfl rfl ?_ ?_ ?_; omega; omega) | (refine yH5 rfl rfl ?_ ?_; omega))
  refine qZ 4 ?_
  refine stp ?_
  refine qC ?_
  refine qO 2 ?_
  refine zA2 rfl (fun h1 => ?_) (fun h1 => ?_)
  ·
   first | replace h1 := qT h1 | replace h1 := qF h1 | skip
   refine qO 4 ?_
   refine stp (zA4 rfl (yE1 _ _ (by omega) (by omega)) ?_)
   intro w17 g18
   replace hc4 := g18.heap hc4
   replace G := G.tr g18
   clear g18
   refine stp ?_
   (first | (refine zF7 rfl ?_ ?_; (constructor <;> omega)) | refine zI5 rfl ?_)
   refine qO 1 ?_
   refine stp (zA4 rfl (yE2 _ _ (by omega) (by omega)) ?_)
   intro w19 g20
   replace hc4 := g20.heap hc4
   replace G := G.tr g20
   clear g20
   refine stp ?_
   (first | (refine zF7 rfl ?_ ?_; (constructor <;> omega)) | refine zI5 rfl ?_)
   refine stp (zA9 (v := .agg #[.int .i64 (1), .int .i64 (qA6 (x / 4 % 1073741824)), .int .i64 (x / 4294967296 % 65536), .int .i64 (x / 281474976710656 % 65536), .int .i64 (0), .int .i64 (0), .int .i64 (0), .bool false]) (fun w => by kernel_rfl) ?_)
   refine stn (qS hc4 ?_)
   intro w24 hc25 u26
   replace G := G.upd u26 hge6
   clear u26 hc4
   refine qO 3 ?_
   refine ret2 (zA5 rfl (by assumption) (by rfl)) (zB1 rfl) ⟨?_, G⟩
   simp [decP, decE, Pt.v, Pt0, h0, h1]
  ·
   first | replace h1 := qT h1 | replace h1 := qF h1 | skip
   refine qZ 2 ?_
   refine stp ?_
   refine qC ?_
   refine qO 2 ?_
   refine zA2 rfl (fun h2 => ?_) (fun h2 => ?_)
   ·
    first | replace h2 := qT h2 | replace h2 := qF h2 | skip
    refine qO 4 ?_
    refine stp (zA4 rfl (yK6 _ _ (by omega) (by omega)) ?_)
    intro w27 g28
    replace hc4 := g28.heap hc4
    replace G := G.tr g28
    clear g28
    refine stp ?_
    (first | (refine zF7 rfl ?_ ?_; (constructor <;> omega)) | refine zI5 rfl ?_)
    refine qO 1 ?_
    refine stp (zA4 rfl (yE3 _ _ (by omega) (by omega)) ?_)
    intro w29 g30
    replace hc4 := g30.heap hc4
    replace G := G.tr g30
    clear g30
    refine stp ?_
    (first | (refine zF7 rfl ?_ ?_; (constructor <;> omega)) | refine zI5 rfl ?_)
    refine stp (zA9 (v := .agg #[.int .i64 (2), .int .i64 (qA6 (x / 4 % 1073741824)), .int .i64 (0), .int .i64 (0), .int .i64 (x / 4294967296 % 8), .int .i64 (x / 34359738368 % 536870912), .int .i64 (0), .bool false]) (fun w => by kernel_rfl) ?_)
    refine stn (qS hc4 ?_)
    intro w34 hc35 u36
    replace G := G.upd u36 hge6
    clear u36 hc4
    refine qO 3 ?_
    refine ret2 (zA5 rfl (by assumption) (by rfl)) (zB1 rfl) ⟨?_, G⟩
    simp [decP, decE, Pt.v, Pt0, h0, h1, h2]
   ·
    first | replace h2 := qT h2 | replace h2 := qF h2 | skip
    refine qZ 2 ?_
    refine stp ?_
    refine qC ?_
    refine qO 2 ?_
    refine zA2 rfl (fun h3 => ?_) (fun h3 => ?_)
    ·
     first | replace h3 := qT h3 | replace h3 := qF h3 | skip
     refine qO 3 ?_
     refine stp (zA4 rfl (yK7 _ _ (by omega) (by omega)) ?_)
     intro w37 g38
     replace hc4 := g38.heap hc4
     replace G := G.tr g38
     clear g38
     refine stp ?_
     (first | (refine zF7 rfl ?_ ?_; (constructor <;> omega)) | refine zI5 rfl ?_)
     refine qO 1 ?_
     refine stp (zA4 rfl (yE4 _ _ (by omega) (by omega)) ?_)
     intro w39 g40
     replace hc4 := g40.heap hc4
     replace G := G.tr g40
     clear g40
     refine stp ?_
     (first | (refine zF7 rfl ?_ ?_; (constructor <;> omega)) | refine zI5 rfl ?_)
     refine qO 1 ?_
     refine stp (zA4 rfl (yQ5 _ _ (by omega) (by omega)) ?_)
     intro w41 g42
     replace hc4 := g42.heap hc4
     replace G := G.tr g42
     clear g42
     refine stp (zD5 rfl rfl ?_)
     refine stp (zA9 (v := .agg #[.int .i64 (3), .int .i64 (x / 8 % 536870912), .int .i64 (0), .int .i64 (0), .int .i64 (0), .int .i64 (0), .int .i64 (x / 4294967296 % 4294967296), .bool (decide (x / 4 % 2 = 1))]) (fun w => by kernel_rfl) ?_)
     refine stn (qS hc4 ?_)
     intro w46 hc47 u48
     replace G := G.upd u48 hge6
     clear u48 hc4
     refine qO 3 ?_
     refine ret2 (zA5 rfl (by assumption) (by rfl)) (zB1 rfl) ⟨?_, G⟩
     simp [decP, decE, Pt.v, Pt0, h0, h1, h2, h3]
    ·
     first | replace h3 := qT h3 | replace h3 := qF h3 | skip
     have h4 : x % 4 = 3 := by omega
     refine qZ 3 ?_
     refine stp (zA9 (v := .agg #[.int .i64 (0), .int .i64 (0), .int .i64 (0), .int .i64 (0), .int .i64 (0), .int .i64 (0), .int .i64 (0), .bool false]) (fun w => by kernel_rfl) ?_)
     refine stn (qS hc4 ?_)
     intro w52 hc53 u54
     replace G := G.upd u54 hge6
     clear u54 hc4
     refine qO 3 ?_
     refine ret2 (zA5 rfl (by assumption) (by rfl)) (zB1 rfl) ⟨?_, G⟩
     simp [decP, decE, Pt.v, Pt0, h0, h1, h2, h3, h4]
theorem zK0 (w : World) (p : Pt) : zB6 Tryz.prog 29 #[.agg #[.int .i64 (p.kind), .int .i64 (p.off), .int .i64 (p.data), .int .i64 (p.ptrs), .int .i64 (p.size), .int .i64 (p.count), .int .i64 (p.seg), .bool p.dbl]] w (.tuple #[.int .u64 (encR p), .int .i64 (encE p)]) := by
 have G := Grow.rfl' w
 refine zA8 Tryz.func29 Tryz.ntmps29 Tryz.results29 rfl rfl ?_
 refine qZ 2 ?_
 refine stp ?_
 refine qC ?_
 intro b1 w2 hb3 hc4 g5
 have hge6 := Nat.le_trans G.size hb3
 replace G := G.tr g5
 clear g5 hb3
 refine qO 16 ?_
 refine stp ?_
 refine qC ?_
 refine qO 2 ?_
 refine zA2 rfl (fun h1 => ?_) (fun h1 => ?_)
 ·
  first | replace h1 := qT h1 | replace h1 := qF h1 | skip
  have hw : 4 * (p.off % 1073741824) + p.data % 65536 * 4294967296 + p.ptrs % 65536 * 281474976710656 = encW p := by unfold encW; rw [if_pos h1]; omega
  obtain ⟨hx0, hx1⟩ := zO6 p
  by_cases hd : decE (encW p) = 0
  ·
   refine zM8 15 [[], [0], [1, 0], [2, 1, 0], [], [0], [5, 4, 3, 1, 0], [6, 5, 4, 2, 1, 0], [7, 6, 5, 4, 3, 2, 1, 0], [], [0], [10, 9, 8, 6, 5, 4, 1, 0], [11, 10, 9, 7, 6, 5, 2, 1, 0], [12, 11, 10, 9, 8, 7, 6, 5, 4, 3, 2, 1, 0], [13, 12, 11, 10, 9, 8, 7, 6, 5, 4, 3, 2, 1, 0]] mixed (by kernel_rfl) (by kernel_rfl) (by kernel_rfl) ?_
   intro w7 g8
   replace hc4 := g8.heap hc4
   replace G := G.tr g8
   clear g8
   refine qA 2 ?_
   apply zC0
   ·intro w_ g_; refine og rfl ?_; refine zA4 rfl (yB1 _ _) ?_; intro w2_ g2_; exact ⟨g2_, rfl⟩
   apply zC0
   ·intro w_ g_; refine og rfl ?_; (first | (refine zZ9 rfl rfl ?_ ?_; (constructor <;> omega)) | refine zU5 rfl rfl ?_); exact qX
   refine qA 2 ?_
   apply zC0
   ·intro w_ g_; refine og rfl ?_; refine zA4 rfl (yB2 _ _) ?_; intro w2_ g2_; exact ⟨g2_, rfl⟩
   apply zC0
   ·intro w_ g_; refine og rfl ?_; (first | (refine qA1 (m := 4294967296) rfl rfl (by decide) (by decide) ?_ ?_; (constructor <;> omega)) | refine zT0 (m := 4294967296) rfl rfl (by decide) (by decide) ?_); exact qX
   apply zC0
   ·intro w_ g_; refine og rfl ?_; (first | (refine zB5 rfl rfl ?_ ?_; (constructor <;> omega)) | refine zG6 rfl rfl ?_); exact qX
   refine qA 2 ?_
   apply zC0
   ·intro w_ g_; refine og rfl ?_; refine zA4 rfl (yB2 _ _) ?_; intro w2_ g2_; exact ⟨g2_, rfl⟩
   apply zC0
   ·intro w_ g_; refine og rfl ?_; (first | (refine qA1 (m := 281474976710656) rfl rfl (by decide) (by decide) ?_ ?_; (constructor <;> omega)) | refine zT0 (m := 281474976710656) rfl rfl (by decide) (by decide) ?_); exact qX
   apply zC0
   ·intro w_ g_; refine og rfl ?_; (first | (refine zB5 rfl rfl ?_ ?_; (constructor <;> omega)) | refine zG6 rfl rfl ?_); exact qX
   refine qA 1 ?_
   refine zI4 ?_
   intro w9 g10
   replace hc4 := g10.heap hc4
   replace G := G.tr g10
   clear g10
   refine qO 4 ?_
   refine stp (zA4 rfl (by (try rw [hw]); exact zF1 _ _ hx0 hx1) ?_)
   intro w11 g12
   replace hc4 := g12.heap hc4
   replace G := G.tr g12
   clear g12
   refine qO 1 ?_
   refine stp (zC9 rfl rfl ?_)
   refine stp (zC9 rfl rfl ?_)
   refine stp (zA7 ?_)
   intro b13 w14 hb15 hc16 g17
   refine stn (qS hc16 ?_)
   intro w18 hc19 u20
   have g21 := g17.upd u20 hb15
   have hge22 := Nat.le_trans G.size hb15
   have ne23 := qN hc4 hb15
   replace hc4 := g21.heap hc4
   replace G := G.tr g21
   clear u20 g17 hb15 hc16
   refine qO 6 ?_
   refine stp ?_
   refine qC ?_
   refine qO 1 ?_
   refine stp ?_
   (first | refine zD8 rfl (by assumption) (by rfl) ?_ | refine zI0 rfl (by assumption) (by rfl) (by rfl) ?_)
   refine stp ?_
   (first | refine zD8 rfl (by assumption) (by rfl) ?_ | refine zI0 rfl (by assumption) (by rfl) (by rfl) ?_)
   refine stp (qJ8 rfl rfl (by rfl) ?_)
   refine stp ?_
   refine qC ?_
   refine zA6 ?_
   refine zA2 rfl (fun hc => ?_) (fun hc => ?_)
   ·
    first | replace hc := qT hc | replace hc := qF hc | skip
    refine qO 6 ?_
    refine ret2 (zB1 rfl) (zB1 rfl) ⟨?_, G⟩
    have hq : ¬ decP (encW p) = p := by
     intro hq
     rw [hq] at hc
     simp at hc
    simp [encR, encE, zV1, hd, hq]
   ·
    first | replace hc := qT hc | replace hc := qF hc | skip
    refine qO 8 ?_
    refine ret2 (zB1 rfl) (zB1 rfl) ⟨?_, G⟩
    have hq : decP (encW p) = p := by
     generalize decP (encW p) = q at hc ⊢
     cases q; cases p; simpa [and_assoc] using hc
    simp [encR, encE, zV1, hd, hq] <;> omega
  ·
   refine zM8 15 [[], [0], [1, 0], [2, 1, 0], [], [0], [5, 4, 3, 1, 0], [6, 5, 4, 2, 1, 0], [7, 6, 5, 4, 3, 2, 1, 0], [], [0], [10, 9, 8, 6, 5, 4, 1, 0], [11, 10, 9, 7, 6, 5, 2, 1, 0], [12, 11, 10, 9, 8, 7, 6, 5, 4, 3, 2, 1, 0], [13, 12, 11, 10, 9, 8, 7, 6, 5, 4, 3, 2, 1, 0]] mixed (by kernel_rfl) (by kernel_rfl) (by kernel_rfl) ?_
   intro w24 g25
   replace hc4 := g25.heap hc4
   replace G := G.tr g25
   clear g25
   refine qA 2 ?_
   apply zC0
   ·intro w_ g_; refine og rfl ?_; refine zA4 rfl (yB1 _ _) ?_; intro w2_ g2_; exact ⟨g2_, rfl⟩
   apply zC0
   ·intro w_ g_; refine og rfl ?_; (first | (refine zZ9 rfl rfl ?_ ?_; (constructor <;> omega)) | refine zU5 rfl rfl ?_); exact qX
   refine qA 2 ?_
   apply zC0
   ·intro w_ g_; refine og rfl ?_; refine zA4 rfl (yB2 _ _) ?_; intro w2_ g2_; exact ⟨g2_, rfl⟩
   apply zC0
   ·intro w_ g_; refine og rfl ?_; (first | (refine qA1 (m := 4294967296) rfl rfl (by decide) (by decide) ?_ ?_; (constructor <;> omega)) | refine zT0 (m := 4294967296) rfl rfl (by decide) (by decide) ?_); exact qX
   apply zC0
   ·intro w_ g_; refine og rfl ?_; (first | (refine zB5 rfl rfl ?_ ?_; (constructor <;> omega)) | refine zG6 rfl rfl ?_); exact qX
   refine qA 2 ?_
   apply zC0
   ·intro w_ g_; refine og rfl ?_; refine zA4 rfl (yB2 _ _) ?_; intro w2_ g2_; exact ⟨g2_, rfl⟩
   apply zC0
   ·intro w_ g_; refine og rfl ?_; (first | (refine qA1 (m := 281474976710656) rfl rfl (by decide) (by decide) ?_ ?_; (constructor <;> omega)) | refine zT0 (m := 281474976710656) rfl rfl (by decide) (by decide) ?_); exact qX
   apply zC0
   ·intro w_ g_; refine og rfl ?_; (first | (refine zB5 rfl rfl ?_ ?_; (constructor <;> omega)) | refine zG6 rfl rfl ?_); exact qX
   refine qA 1 ?_
   refine zI4 ?_
   intro w26 g27
   replace hc4 := g27.heap hc4
   replace G := G.tr g27
   clear g27
   refine qO 4 ?_
   refine stp (zA4 rfl (by (try rw [hw]); exact zF1 _ _ hx0 hx1) ?_)
   intro w28 g29
   replace hc4 := g29.heap hc4
   replace G := G.tr g29
   clear g29
   refine qO 1 ?_
   refine stp (zC9 rfl rfl ?_)
   refine stp (zC9 rfl rfl ?_)
   refine stp (zA7 ?_)
   intro b30 w31 hb32 hc33 g34
   refine stn (qS hc33 ?_)
   intro w35 hc36 u37
   have g38 := g34.upd u37 hb32
   have hge39 := Nat.le_trans G.size hb32
   have ne40 := qN hc4 hb32
   replace hc4 := g38.heap hc4
   replace G := G.tr g38
   clear u37 g34 hb32 hc33
   refine qO 6 ?_
   refine stp ?_
   refine qC ?_
   refine qO 1 ?_
   refine zA3 (zP6 rfl ?_)
   refine zA3 (zP6 rfl ?_)
   refine zA3 (zP6 rfl ?_)
   refine stp ?_
   refine qC ?_
   refine zA6 ?_
   refine zU8 rfl ?_
   refine qO 6 ?_
   refine ret2 (zB1 rfl) (zB1 rfl) ⟨?_, G⟩
   simp [encR, encE, zV1, hd]
 ·
  first | replace h1 := qT h1 | replace h1 := qF h1 | skip
  refine qZ 2 ?_
  refine stp ?_
  refine qC ?_
  refine qO 2 ?_
  refine zA2 rfl (fun h2 => ?_) (fun h2 => ?_)
  ·
   first | replace h2 := qT h2 | replace h2 := qF h2 | skip
   have hw : 1 + 4 * (p.off % 1073741824) + p.size % 8 * 4294967296 + p.count % 536870912 * 34359738368 = encW p := by unfold encW; rw [if_neg h1, if_pos h2]; omega
   obtain ⟨hx0, hx1⟩ := zO6 p
   by_cases hd : decE (encW p) = 0
   ·
    refine zM8 16 [[], [0], [1, 0], [2, 1, 0], [3, 2, 1, 0], [], [0], [6, 5, 4, 1, 0], [7, 6, 5, 2, 1, 0], [8, 7, 6, 5, 4, 3, 2, 1, 0], [], [0], [11, 10, 9, 6, 5, 4, 1, 0], [12, 11, 10, 7, 6, 5, 2, 1, 0], [13, 12, 11, 10, 9, 8, 7, 6, 5, 4, 3, 2, 1, 0], [14, 13, 12, 11, 10, 9, 8, 7, 6, 5, 4, 3, 2, 1, 0]] mixed (by kernel_rfl) (by kernel_rfl) (by kernel_rfl) ?_
    intro w41 g42
    replace hc4 := g42.heap hc4
    replace G := G.tr g42
    clear g42
    refine qA 2 ?_
    apply zC0
    ·intro w_ g_; refine og rfl ?_; refine zA4 rfl (yB1 _ _) ?_; intro w2_ g2_; exact ⟨g2_, rfl⟩
    apply zC0
    ·intro w_ g_; refine og rfl ?_; (first | (refine zZ9 rfl rfl ?_ ?_; (constructor <;> omega)) | refine zU5 rfl rfl ?_); exact qX
    apply zC0
    ·intro w_ g_; refine og rfl ?_; (first | (refine zB5 rfl rfl ?_ ?_; (constructor <;> omega)) | refine zG6 rfl rfl ?_); exact qX
    refine qA 2 ?_
    apply zC0
    ·intro w_ g_; refine og rfl ?_; refine zA4 rfl (jA9 _ _) ?_; intro w2_ g2_; exact ⟨g2_, rfl⟩
    apply zC0
    ·intro w_ g_; refine og rfl ?_; (first | (refine qA1 (m := 4294967296) rfl rfl (by decide) (by decide) ?_ ?_; (constructor <;> omega)) | refine zT0 (m := 4294967296) rfl rfl (by decide) (by decide) ?_); exact qX
    apply zC0
    ·intro w_ g_; refine og rfl ?_; (first | (refine zB5 rfl rfl ?_ ?_; (constructor <;> omega)) | refine zG6 rfl rfl ?_); exact qX
    refine qA 2 ?_
    apply zC0
    ·intro w_ g_; refine og rfl ?_; refine zA4 rfl (yK8 _ _) ?_; intro w2_ g2_; exact ⟨g2_, rfl⟩
    apply zC0
    ·intro w_ g_; refine og rfl ?_; (first | (refine qA1 (m := 34359738368) rfl rfl (by decide) (by decide) ?_ ?_; (constructor <;> omega)) | refine zT0 (m := 34359738368) rfl rfl (by decide) (by decide) ?_); exact qX
    apply zC0
    ·intro w_ g_; refine og rfl ?_; (first | (refine zB5 rfl rfl ?_ ?_; (constructor <;> omega)) | refine zG6 rfl rfl ?_); exact qX
    refine qA 1 ?_
    refine zI4 ?_
    intro w43 g44
    replace hc4 := g44.heap hc4
    replace G := G.tr g44
    clear g44
    refine qO 4 ?_
    refine stp (zA4 rfl (by (try rw [hw]); exact zF1 _ _ hx0 hx1) ?_)
    intro w45 g46
    replace hc4 := g46.heap hc4
    replace G := G.tr g46
    clear g46
    refine qO 1 ?_
    refine stp (zC9 rfl rfl ?_)
    refine stp (zC9 rfl rfl ?_)
    refine stp (zA7 ?_)
    intro b47 w48 hb49 hc50 g51
    refine stn (qS hc50 ?_)
    intro w52 hc53 u54
    have g55 := g51.upd u54 hb49
    have hge56 := Nat.le_trans G.size hb49
    have ne57 := qN hc4 hb49
    replace hc4 := g55.heap hc4
    replace G := G.tr g55
    clear u54 g51 hb49 hc50
    refine qO 6 ?_
    refine stp ?_
    refine qC ?_
    refine qO 1 ?_
    refine stp ?_
    (first | refine zD8 rfl (by assumption) (by rfl) ?_ | refine zI0 rfl (by assumption) (by rfl) (by rfl) ?_)
    refine stp ?_
    (first | refine zD8 rfl (by assumption) (by rfl) ?_ | refine zI0 rfl (by assumption) (by rfl) (by rfl) ?_)
    refine stp (qJ8 rfl rfl (by rfl) ?_)
    refine stp ?_
    refine qC ?_
    refine zA6 ?_
    refine zA2 rfl (fun hc => ?_) (fun hc => ?_)
    ·
     first | replace hc := qT hc | replace hc := qF hc | skip
     refine qO 6 ?_
     refine ret2 (zB1 rfl) (zB1 rfl) ⟨?_, G⟩
     have hq : ¬ decP (encW p) = p := by
      intro hq
      rw [hq] at hc
      simp at hc
     simp [encR, encE, zV1, hd, hq]
    ·
     first | replace hc := qT hc | replace hc := qF hc | skip
     refine qO 8 ?_
     refine ret2 (zB1 rfl) (zB1 rfl) ⟨?_, G⟩
     have hq : decP (encW p) = p := by
      generalize decP (encW p) = q at hc ⊢
      cases q; cases p; simpa [and_assoc] using hc
     simp [encR, encE, zV1, hd, hq] <;> omega
   ·
    refine zM8 16 [[], [0], [1, 0], [2, 1, 0], [3, 2, 1, 0], [], [0], [6, 5, 4, 1, 0], [7, 6, 5, 2, 1, 0], [8, 7, 6, 5, 4, 3, 2, 1, 0], [], [0], [11, 10, 9, 6, 5, 4, 1, 0], [12, 11, 10, 7, 6, 5, 2, 1, 0], [13, 12, 11, 10, 9, 8, 7, 6, 5, 4, 3, 2, 1, 0], [14, 13, 12, 11, 10, 9, 8, 7, 6, 5, 4, 3, 2, 1, 0]] mixed (by kernel_rfl) (by kernel_rfl) (by kernel_rfl) ?_
    intro w58 g59
    replace hc4 := g59.heap hc4
    replace G := G.tr g59
    clear g59
    refine qA 2 ?_
    apply zC0
    ·intro w_ g_; refine og rfl ?_; refine zA4 rfl (yB1 _ _) ?_; intro w2_ g2_; exact ⟨g2_, rfl⟩
    apply zC0
    ·intro w_ g_; refine og rfl ?_; (first | (refine zZ9 rfl rfl ?_ ?_; (constructor <;> omega)) | refine zU5 rfl rfl ?_); exact qX
    apply zC0
    ·intro w_ g_; refine og rfl ?_; (first | (refine zB5 rfl rfl ?_ ?_; (constructor <;> omega)) | refine zG6 rfl rfl ?_); exact qX
    refine qA 2 ?_
    apply zC0
    ·intro w_ g_; refine og rfl ?_; refine zA4 rfl (jA9 _ _) ?_; intro w2_ g2_; exact ⟨g2_, rfl⟩
    apply zC0
    ·intro w_ g_; refine og rfl ?_; (first | (refine qA1 (m := 4294967296) rfl rfl (by decide) (by decide) ?_ ?_; (constructor <;> omega)) | refine zT0 (m := 4294967296) rfl rfl (by decide) (by decide) ?_); exact qX
    apply zC0
    ·intro w_ g_; refine og rfl ?_; (first | (refine zB5 rfl rfl ?_ ?_; (constructor <;> omega)) | refine zG6 rfl rfl ?_); exact qX
    refine qA 2 ?_
    apply zC0
    ·intro w_ g_; refine og rfl ?_; refine zA4 rfl (yK8 _ _) ?_; intro w2_ g2_; exact ⟨g2_, rfl⟩
    apply zC0
    ·intro w_ g_; refine og rfl ?_; (first | (refine qA1 (m := 34359738368) rfl rfl (by decide) (by decide) ?_ ?_; (constructor <;> omega)) | refine zT0 (m := 34359738368) rfl rfl (by decide) (by decide) ?_); exact qX
    apply zC0
    ·intro w_ g_; refine og rfl ?_; (first | (refine zB5 rfl rfl ?_ ?_; (constructor <;> omega)) | refine zG6 rfl rfl ?_); exact qX
    refine qA 1 ?_
    refine zI4 ?_
    intro w60 g61
    replace hc4 := g61.heap hc4
    replace G := G.tr g61
    clear g61
    refine qO 4 ?_
    refine stp (zA4 rfl (by (try rw [hw]); exact zF1 _ _ hx0 hx1) ?_)
    intro w62 g63
    replace hc4 := g63.heap hc4
    replace G := G.tr g63
    clear g63
    refine qO 1 ?_
    refine stp (zC9 rfl rfl ?_)
    refine stp (zC9 rfl rfl ?_)
    refine stp (zA7 ?_)
    intro b64 w65 hb66 hc67 g68
    refine stn (qS hc67 ?_)
    intro w69 hc70 u71
    have g72 := g68.upd u71 hb66
    have hge73 := Nat.le_trans G.size hb66
    have ne74 := qN hc4 hb66
    replace hc4 := g72.heap hc4
    replace G := G.tr g72
    clear u71 g68 hb66 hc67
    refine qO 6 ?_
    refine stp ?_
    refine qC ?_
    refine qO 1 ?_
    refine zA3 (zP6 rfl ?_)
    refine zA3 (zP6 rfl ?_)
    refine zA3 (zP6 rfl ?_)
    refine stp ?_
    refine qC ?_
    refine zA6 ?_
    refine zU8 rfl ?_
    refine qO 6 ?_
    refine ret2 (zB1 rfl) (zB1 rfl) ⟨?_, G⟩
    simp [encR, encE, zV1, hd]
  ·
   first | replace h2 := qT h2 | replace h2 := qF h2 | skip
   refine qZ 2 ?_
   refine stp ?_
   refine qC ?_
   refine qO 2 ?_
   refine zA2 rfl (fun h3 => ?_) (fun h3 => ?_)
   ·
    first | replace h3 := qT h3 | replace h3 := qF h3 | skip
    refine qE9 ?_
    refine zM8 11 [[], [0], [1, 0], [2, 1, 0], [3, 2, 1, 0], [], [0], [6, 5, 4, 1, 0], [7, 6, 5, 2, 1, 0], [8, 7, 6, 5, 4, 3, 2, 1, 0], [9, 8, 7, 6, 5, 4, 3, 2, 1, 0]] mixed (by kernel_rfl) (by kernel_rfl) (by kernel_rfl) ?_
    intro w75 g76
    replace hc4 := g76.heap hc4
    replace G := G.tr g76
    clear g76
    refine qA 2 ?_
    apply zC0
    ·intro w_ g_; refine og rfl ?_; refine zA4 rfl (yK8 _ _) ?_; intro w2_ g2_; exact ⟨g2_, rfl⟩
    apply zC0
    ·intro w_ g_; refine og rfl ?_; (first | (refine zZ9 rfl rfl ?_ ?_; (constructor <;> omega)) | refine zU5 rfl rfl ?_); exact qX
    apply zC0
    ·intro w_ g_; refine og rfl ?_; (first | (refine zB5 rfl rfl ?_ ?_; (constructor <;> omega)) | refine zG6 rfl rfl ?_); exact qX
    refine qA 2 ?_
    apply zC0
    ·intro w_ g_; refine og rfl ?_; refine zA4 rfl (jB0 _ _) ?_; intro w2_ g2_; exact ⟨g2_, rfl⟩
    apply zC0
    ·intro w_ g_; refine og rfl ?_; (first | (refine qA1 (m := 4294967296) rfl rfl (by decide) (by decide) ?_ ?_; (constructor <;> omega)) | refine zT0 (m := 4294967296) rfl rfl (by decide) (by decide) ?_); exact qX
    apply zC0
    ·intro w_ g_; refine og rfl ?_; (first | (refine zB5 rfl rfl ?_ ?_; (constructor <;> omega)) | refine zG6 rfl rfl ?_); exact qX
    refine qA 1 ?_
    refine zI4 ?_
    intro w77 g78
    replace hc4 := g78.heap hc4
    replace G := G.tr g78
    clear g78
    refine qZ 6 ?_
    refine zA2 rfl (fun hd_ => ?_) (fun hd_ => ?_)
    ·
     first | replace hd_ := qT hd_ | replace hd_ := qF hd_ | skip
     have hw : 2 + 8 * (p.off % 536870912) + p.seg % 4294967296 * 4294967296 + 4 = encW p := by unfold encW; rw [if_neg h1, if_neg h2, if_pos h3, hd_]; simp; omega
     obtain ⟨hx0, hx1⟩ := zO6 p
     by_cases hd : decE (encW p) = 0
     ·
      refine qO 2 ?_
      refine stp ?_
      (first | (refine zB5 rfl rfl ?_ ?_; (constructor <;> omega)) | refine zG6 rfl rfl ?_)
      refine qO 5 ?_
      refine stp (zA4 rfl (by (try rw [hw]); exact zF1 _ _ hx0 hx1) ?_)
      intro w79 g80
      replace hc4 := g80.heap hc4
      replace G := G.tr g80
      clear g80
      refine qO 1 ?_
      refine stp (zC9 rfl rfl ?_)
      refine stp (zC9 rfl rfl ?_)
      refine stp (zA7 ?_)
      intro b81 w82 hb83 hc84 g85
      refine stn (qS hc84 ?_)
      intro w86 hc87 u88
      have g89 := g85.upd u88 hb83
      have hge90 := Nat.le_trans G.size hb83
      have ne91 := qN hc4 hb83
      replace hc4 := g89.heap hc4
      replace G := G.tr g89
      clear u88 g85 hb83 hc84
      refine qO 6 ?_
      refine stp ?_
      refine qC ?_
      refine qO 1 ?_
      refine stp ?_
      (first | refine zD8 rfl (by assumption) (by rfl) ?_ | refine zI0 rfl (by assumption) (by rfl) (by rfl) ?_)
      refine stp ?_
      (first | refine zD8 rfl (by assumption) (by rfl) ?_ | refine zI0 rfl (by assumption) (by rfl) (by rfl) ?_)
      refine stp (qJ8 rfl rfl (by rfl) ?_)
      refine stp ?_
      refine qC ?_
      refine zA6 ?_
      refine zA2 rfl (fun hc => ?_) (fun hc => ?_)
      ·
       first | replace hc := qT hc | replace hc := qF hc | skip
       refine qO 6 ?_
       refine ret2 (zB1 rfl) (zB1 rfl) ⟨?_, G⟩
       have hq : ¬ decP (encW p) = p := by
        intro hq
        rw [hq] at hc
        simp at hc
       simp [encR, encE, zV1, hd, hq]
      ·
       first | replace hc := qT hc | replace hc := qF hc | skip
       refine qO 8 ?_
       refine ret2 (zB1 rfl) (zB1 rfl) ⟨?_, G⟩
       have hq : decP (encW p) = p := by
        generalize decP (encW p) = q at hc ⊢
        cases q; cases p; simpa [and_assoc] using hc
       simp [encR, encE, zV1, hd, hq] <;> omega
     ·
      refine qO 2 ?_
      refine stp ?_
      (first | (refine zB5 rfl rfl ?_ ?_; (constructor <;> omega)) | refine zG6 rfl rfl ?_)
      refine qO 5 ?_
      refine stp (zA4 rfl (by (try rw [hw]); exact zF1 _ _ hx0 hx1) ?_)
      intro w92 g93
      replace hc4 := g93.heap hc4
      replace G := G.tr g93
      clear g93
      refine qO 1 ?_
      refine stp (zC9 rfl rfl ?_)
      refine stp (zC9 rfl rfl ?_)
      refine stp (zA7 ?_)
      intro b94 w95 hb96 hc97 g98
      refine stn (qS hc97 ?_)
      intro w99 hc100 u101
      have g102 := g98.upd u101 hb96
      have hge103 := Nat.le_trans G.size hb96
      have ne104 := qN hc4 hb96
      replace hc4 := g102.heap hc4
      replace G := G.tr g102
      clear u101 g98 hb96 hc97
      refine qO 6 ?_
      refine stp ?_
      refine qC ?_
      refine qO 1 ?_
      refine zA3 (zP6 rfl ?_)
      refine zA3 (zP6 rfl ?_)
      refine zA3 (zP6 rfl ?_)
      refine stp ?_
      refine qC ?_
      refine zA6 ?_
      refine zU8 rfl ?_
      refine qO 6 ?_
      refine ret2 (zB1 rfl) (zB1 rfl) ⟨?_, G⟩
      simp [encR, encE, zV1, hd]
    ·
     first | replace hd_ := qT hd_ | replace hd_ := qF hd_ | skip
     have hw : 2 + 8 * (p.off % 536870912) + p.seg % 4294967296 * 4294967296 = encW p := by unfold encW; rw [if_neg h1, if_neg h2, if_pos h3, hd_]; simp; omega
     obtain ⟨hx0, hx1⟩ := zO6 p
     by_cases hd : decE (encW p) = 0
     ·
      refine qO 4 ?_
      refine stp (zA4 rfl (by (try rw [hw]); exact zF1 _ _ hx0 hx1) ?_)
      intro w105 g106
      replace hc4 := g106.heap hc4
      replace G := G.tr g106
      clear g106
      refine qO 1 ?_
      refine stp (zC9 rfl rfl ?_)
      refine stp (zC9 rfl rfl ?_)
      refine stp (zA7 ?_)
      intro b107 w108 hb109 hc110 g111
      refine stn (qS hc110 ?_)
      intro w112 hc113 u114
      have g115 := g111.upd u114 hb109
      have hge116 := Nat.le_trans G.size hb109
      have ne117 := qN hc4 hb109
      replace hc4 := g115.heap hc4
      replace G := G.tr g115
      clear u114 g111 hb109 hc110
      refine qO 6 ?_
      refine stp ?_
      refine qC ?_
      refine qO 1 ?_
      refine stp ?_
      (first | refine zD8 rfl (by assumption) (by rfl) ?_ | refine zI0 rfl (by assumption) (by rfl) (by rfl) ?_)
      refine stp ?_
      (first | refine zD8 rfl (by assumption) (by rfl) ?_ | refine zI0 rfl (by assumption) (by rfl) (by rfl) ?_)
      refine stp (qJ8 rfl rfl (by rfl) ?_)
      refine stp ?_
      refine qC ?_
      refine zA6 ?_
      refine zA2 rfl (fun hc => ?_) (fun hc => ?_)
      ·
       first | replace hc := qT hc | replace hc := qF hc | skip
       refine qO 6 ?_
       refine ret2 (zB1 rfl) (zB1 rfl) ⟨?_, G⟩
       have hq : ¬ decP (encW p) = p := by
        intro hq
        rw [hq] at hc
        simp at hc
       simp [encR, encE, zV1, hd, hq]
      ·
       first | replace hc := qT hc | replace hc := qF hc | skip
       refine qO 8 ?_
       refine ret2 (zB1 rfl) (zB1 rfl) ⟨?_, G⟩
       have hq : decP (encW p) = p := by
        generalize decP (encW p) = q at hc ⊢
        cases q; cases p; simpa [and_assoc] using hc
       simp [encR, encE, zV1, hd, hq] <;> omega
     ·
      refine qO 4 ?_
      refine stp (zA4 rfl (by (try rw [hw]); exact zF1 _ _ hx0 hx1) ?_)
      intro w118 g119
      replace hc4 := g119.heap hc4
      replace G := G.tr g119
      clear g119
      refine qO 1 ?_
      refine stp (zC9 rfl rfl ?_)
      refine stp (zC9 rfl rfl ?_)
      refine stp (zA7 ?_)
      intro b120 w121 hb122 hc123 g124
      refine stn (qS hc123 ?_)
      intro w125 hc126 u127
      have g128 := g124.upd u127 hb122
      have hge129 := Nat.le_trans G.size hb122
      have ne130 := qN hc4 hb122
      replace hc4 := g128.heap hc4
      replace G := G.tr g128
      clear u127 g124 hb122 hc123
      refine qO 6 ?_
      refine stp ?_
      refine qC ?_
      refine qO 1 ?_
      refine zA3 (zP6 rfl ?_)
      refine zA3 (zP6 rfl ?_)
      refine zA3 (zP6 rfl ?_)
      refine stp ?_
      refine qC ?_
      refine zA6 ?_
      refine zU8 rfl ?_
      refine qO 6 ?_
      refine ret2 (zB1 rfl) (zB1 rfl) ⟨?_, G⟩
      simp [encR, encE, zV1, hd]
   ·
    first | replace h3 := qT h3 | replace h3 := qF h3 | skip
    have hw : 0 = encW p := by unfold encW; rw [if_neg h1, if_neg h2, if_neg h3]
    obtain ⟨hx0, hx1⟩ := zO6 p
    by_cases hd : decE (encW p) = 0
    ·
     refine qO 4 ?_
     refine stp (zA4 rfl (by (try rw [hw]); exact zF1 _ _ hx0 hx1) ?_)
     intro w131 g132
     replace hc4 := g132.heap hc4
     replace G := G.tr g132
     clear g132
     refine qO 1 ?_
     refine stp (zC9 rfl rfl ?_)
     refine stp (zC9 rfl rfl ?_)
     refine stp (zA7 ?_)
     intro b133 w134 hb135 hc136 g137
     refine stn (qS hc136 ?_)
     intro w138 hc139 u140
     have g141 := g137.upd u140 hb135
     have hge142 := Nat.le_trans G.size hb135
     have ne143 := qN hc4 hb135
     replace hc4 := g141.heap hc4
     replace G := G.tr g141
     clear u140 g137 hb135 hc136
     refine qO 6 ?_
     refine stp ?_
     refine qC ?_
     refine qO 1 ?_
     refine stp ?_
     (first | refine zD8 rfl (by assumption) (by rfl) ?_ | refine zI0 rfl (by assumption) (by rfl) (by rfl) ?_)
     refine stp ?_
     (first | refine zD8 rfl (by assumption) (by rfl) ?_ | refine zI0 rfl (by assumption) (by rfl) (by rfl) ?_)
     refine stp (qJ8 rfl rfl (by rfl) ?_)
     refine stp ?_
     refine qC ?_
     refine zA6 ?_
     refine zA2 rfl (fun hc => ?_) (fun hc => ?_)
     ·
      first | replace hc := qT hc | replace hc := qF hc | skip
      refine qO 6 ?_
      refine ret2 (zB1 rfl) (zB1 rfl) ⟨?_, G⟩
      have hq : ¬ decP (encW p) = p := by
       intro hq
       rw [hq] at hc
       simp at hc
      simp [encR, encE, zV1, hd, hq]
     ·
      first | replace hc := qT hc | replace hc := qF hc | skip
      refine qO 8 ?_
      refine ret2 (zB1 rfl) (zB1 rfl) ⟨?_, G⟩
      have hq : decP (encW p) = p := by
       generalize decP (encW p) = q at hc ⊢
       cases q; cases p; simpa [and_assoc] using hc
      simp [encR, encE, zV1, hd, hq] <;> omega
    ·
     refine qO 4 ?_
     refine stp (zA4 rfl (by (try rw [hw]); exact zF1 _ _ hx0 hx1) ?_)
     intro w144 g145
     replace hc4 := g145.heap hc4
     replace G := G.tr g145
     clear g145
     refine qO 1 ?_
     refine stp (zC9 rfl rfl ?_)
     refine stp (zC9 rfl rfl ?_)
     refine stp (zA7 ?_)
     intro b146 w147 hb148 hc149 g150
     refine stn (qS hc149 ?_)
     intro w151 hc152 u153
     have g154 := g150.upd u153 hb148
     have hge155 := Nat.le_trans G.size hb148
     have ne156 := qN hc4 hb148
     replace hc4 := g154.heap hc4
     replace G := G.tr g154
     clear u153 g150 hb148 hc149
     refine qO 6 ?_
     refine stp ?_
     refine qC ?_
     refine qO 1 ?_
     refine zA3 (zP6 rfl ?_)
     refine zA3 (zP6 rfl ?_)
     refine zA3 (zP6 rfl ?_)
     refine stp ?_
     refine qC ?_
     refine zA6 ?_
     refine zU8 rfl ?_
     refine qO 6 ?_
     refine ret2 (zB1 rfl) (zB1 rfl) ⟨?_, G⟩
     simp [encR, encE, zV1, hd]
theorem qE3 (w : World) (p : Pt) : zB6 Tryz.prog 103 #[.agg #[.int .i64 (p.kind), .int .i64 (p.off), .int .i64 (p.data), .int .i64 (p.ptrs), .int .i64 (p.size), .int .i64 (p.count), .int .i64 (p.seg), .bool p.dbl]] w (.tuple #[.int .i64 (zF4 p), .int .i64 (zF9 p)]) := by
 have G := Grow.rfl' w
 refine zA8 Tryz.func103 Tryz.ntmps103 Tryz.results103 rfl rfl ?_
 refine qZ 2 ?_
 refine stp ?_
 refine qC ?_
 intro b1 w2 hb3 hc4 g5
 have hge6 := Nat.le_trans G.size hb3
 replace G := G.tr g5
 clear g5 hb3
 refine qO 12 ?_
 refine stp ?_
 refine qC ?_
 refine qO 2 ?_
 refine zA2 rfl (fun h0 => ?_) (fun h0 => ?_)
 ·
  first | replace h0 := qT h0 | replace h0 := qF h0 | skip
  refine qO 6 ?_
  refine ret2 (zB1 rfl) (zB1 rfl) ⟨?_, G⟩
  simp [zF4, zF9, qA7, h0]
 ·
  first | replace h0 := qT h0 | replace h0 := qF h0 | skip
  refine qZ 2 ?_
  refine stp ?_
  refine qC ?_
  refine qO 2 ?_
  refine zA2 rfl (fun h1 => ?_) (fun h1 => ?_)
  ·
   first | replace h1 := qT h1 | replace h1 := qF h1 | skip
   refine qZ 6 ?_
   refine stp ?_
   (first | (refine zB5 rfl rfl ?_ ?_; (constructor <;> omega)) | refine zG6 rfl rfl ?_)
   refine qO 4 ?_
   refine ret2 (zB1 rfl) (zB1 rfl) ⟨?_, G⟩
   simp [zF4, zF9, qA7, h0, h1]
  ·
   first | replace h1 := qT h1 | replace h1 := qF h1 | skip
   refine qZ 2 ?_
   refine stp ?_
   refine qC ?_
   refine qO 2 ?_
   refine zA2 rfl (fun h2 => ?_) (fun h2 => ?_)
   ·
    first | replace h2 := qT h2 | replace h2 := qF h2 | skip
    refine qZ 5 ?_
    refine stp ?_
    refine qC ?_
    refine zA6 ?_
    refine zA2 rfl (fun s2 => ?_) (fun s2 => ?_)
    ·
     first | replace s2 := qT s2 | replace s2 := qF s2 | skip
     refine qZ 4 ?_
     refine stp ?_
     (first | (refine zB5 rfl rfl ?_ ?_; (constructor <;> omega)) | refine zG6 rfl rfl ?_)
     refine stp ?_
     (first | (refine qA0 rfl rfl ?_ ?_ ?_ ?_; omega; omega; (constructor <;> omega)) | (refine yH4 rfl rfl ?_ ?_; omega))
     refine qO 4 ?_
     refine ret2 (zB1 rfl) (zB1 rfl) ⟨?_, G⟩
     simp [zF4, zF9, qA7, h0, h1, h2, s2]
    ·
     first | replace s2 := qT s2 | replace s2 := qF s2 | skip
     by_cases s5 : p.size = 5
     ·
      refine qZ 5 ?_
      refine stp ?_
      refine qC ?_
      refine qO 1 ?_
      refine zA3 (zP6 rfl ?_)
      refine zA3 (zP6 rfl ?_)
      refine zA3 (zP6 rfl ?_)
      refine stp ?_
      refine qC ?_
      refine zA6 ?_
      refine zU8 rfl ?_
      refine qO 8 ?_
      refine ret2 (zB1 rfl) (zB1 rfl) ⟨?_, G⟩
      simp [zF4, zF9, qA7, h0, h1, h2, s2, s5]
     ·
      by_cases s6 : p.size = 6
      ·
       refine qZ 5 ?_
       refine stp ?_
       refine qC ?_
       refine qO 3 ?_
       refine stp ?_
       refine qC ?_
       refine stp ?_
       refine qC ?_
       refine zA6 ?_
       refine zU8 rfl ?_
       refine qO 8 ?_
       refine ret2 (zB1 rfl) (zB1 rfl) ⟨?_, G⟩
       simp [zF4, zF9, qA7, h0, h1, h2, s2, s5, s6]
      ·
       refine qZ 5 ?_
       refine stp ?_
       refine qC ?_
       refine qO 3 ?_
       refine stp ?_
       refine qC ?_
       refine stp ?_
       refine qC ?_
       refine zA6 ?_
       refine zN5 rfl ?_
       refine qO 7 ?_
       refine ret2 (zB1 rfl) (zB1 rfl) ⟨?_, G⟩
       simp [zF4, zF9, qA7, h0, h1, h2, s2, s5, s6]
   ·
    first | replace h2 := qT h2 | replace h2 := qF h2 | skip
    refine qZ 2 ?_
    refine stp ?_
    refine qC ?_
    refine qO 2 ?_
    refine zA2 rfl (fun h3 => ?_) (fun h3 => ?_)
    ·
     first | replace h3 := qT h3 | replace h3 := qF h3 | skip
     refine qZ 6 ?_
     refine zA2 rfl (fun hd_ => ?_) (fun hd_ => ?_)
     ·
      first | replace hd_ := qT hd_ | replace hd_ := qF hd_ | skip
      refine qO 6 ?_
      refine ret2 (zB1 rfl) (zB1 rfl) ⟨?_, G⟩
      simp [zF4, zF9, qA7, h0, h1, h2, h3, hd_]
     ·
      first | replace hd_ := qT hd_ | replace hd_ := qF hd_ | skip
      refine qO 7 ?_
      refine ret2 (zB1 rfl) (zB1 rfl) ⟨?_, G⟩
      simp [zF4, zF9, qA7, h0, h1, h2, h3, hd_]
    ·
     first | replace h3 := qT h3 | replace h3 := qF h3 | skip
     refine qO 7 ?_
     refine ret2 (zB1 rfl) (zB1 rfl) ⟨?_, G⟩
     simp [zF4, zF9, qA7, h0, h1, h2, h3]
theorem qR1 (w : World) {ad : Option Addr} {n c : Nat} {segs : List Value} {A : List (List Int)} (R : RowAt w 1 ad n segs) (hA : A.length = n) (hs : ∀ (i : Nat) (s : List Int), A[i]? = some s → ∃ v, segs[i]? = some v ∧ Row w 1 v s.length (zJ1 s)) (hn : n ≤ 1000) (hm : ∀ s ∈ A, s.length ≤ 100000) : zB6 Tryz.prog 109 #[.slice ad n c] w (.int .i64 (zC4 A)) := by
 have G := Grow.rfl' w
 refine zA8 Tryz.func109 Tryz.ntmps109 Tryz.results109 rfl rfl ?_
 refine qO 14 ?_
 refine zF5 (fun m_ e_ w_ => ∃ (k : Nat), m_ = n - k ∧ Fr [(0, .slice ad n c), (3, .int .i64 (zC4 (A.take k))), (4, .int .i64 (k : Int))] e_ ∧ (k ≤ n) ∧ Grow w w_) _ ⟨0, rfl, zC6 ⟨rfl, rfl, rfl, trivial⟩, by omega, G⟩ ?_
 clear G
 rintro m_ e_ w1 ⟨k, rfl, ⟨e2, rfl⟩, hk, G⟩
 refine qO 6 ?_
 refine stp ?_
 refine qC ?_
 refine zA6 ?_
 refine zA2 rfl (fun hlt => ?_) (fun hlt => ?_)
 ·
  first | replace hlt := qT hlt | replace hlt := qF hlt | skip
  have hi : k < A.length := by omega
  obtain ⟨v, hv, ad2, c2, rfl, hc1, hc2, R2⟩ := hs k A[k] (List.getElem?_eq_getElem hi)
  obtain ⟨b_, o_, cs_, T_, fr_, rfl, hb_, hx_⟩ := (R.grow G).at_ (by omega)
  have ht := zY5 hi
  have hb1 := qE1 (A := A.take k) (fun s h => hm s (List.mem_of_mem_take h))
  have hlk : (A.take k).length ≤ 1000 := by rw [List.length_take]; omega
  have hmk := hm A[k] (List.getElem_mem hi)
  refine qO 7 ?_
  refine stp ?_
  (refine zH2 rfl rfl ?_ ?_ ?_; omega; omega)
  refine stp (zG7 (v := .slice ad2 A[k].length c2) rfl hb_ (by rw [Int.toNat_natCast, Nat.mul_one]; exact zQ4 hx_ hv) ?_)
  refine qZ 1 ?_
  refine stp ?_
  (first | (refine zB5 rfl rfl ?_ ?_; (constructor <;> omega)) | refine zG6 rfl rfl ?_)
  refine qO 4 ?_
  refine stp ?_
  (first | (refine zB5 rfl rfl ?_ ?_; (constructor <;> omega)) | refine zG6 rfl rfl ?_)
  refine qO 2 ?_
  refine ⟨_, ?_, k + 1, rfl, zC6 ⟨rfl, congrArg (Value.int .i64) ht.symm, rfl, trivial⟩, by omega, G⟩
  omega
 ·
  first | replace hlt := qT hlt | replace hlt := qF hlt | skip
  have hk2 : k = A.length := by omega
  subst hk2
  refine qO 7 ?_
  refine ret1 (zB1 rfl) ⟨?_, G⟩
  rw [List.take_length]
theorem qH4 (w : World) {ad : Option Addr} {n c : Nat} {segs : List Value} {A : List (List Int)} (R : RowAt w 1 ad n segs) (hA : A.length = n) (hs : ∀ (i : Nat) (s : List Int), A[i]? = some s → ∃ v, segs[i]? = some v ∧ Row w 1 v s.length (zJ1 s)) (hn : n ≤ 1000) : Calls Tryz.prog 51 #[.slice ad n c] w (Ret fun v w' => w'.ownsRow w.heap.size 3 1 v n (A.map fun s => .int .i64 (s.length : Int)) ∧ Grow w w') := by
 have G := Grow.rfl' w
 refine zC2 Tryz.func51 Tryz.ntmps51 Tryz.results51 rfl rfl ?_
 refine qO 16 ?_
 refine zF5 (fun m_ e_ w_ => ∃ (k : Nat) (v : Value), m_ = n - k ∧ Fr [(3, v), (6, .slice ad n c), (7, .int .i64 (n : Int)), (8, .int .i64 (k : Int))] e_ ∧ (k ≤ n) ∧ (w_.ownsRow w.heap.size 3 1 v k ((A.take k).map fun s => .int .i64 (s.length : Int))) ∧ Grow w w_) _ ⟨0, .slice none 0 0, rfl, zC6 ⟨rfl, rfl, rfl, rfl, trivial⟩, by omega, World.ownsRow_nil _ _ _ _, G⟩ ?_
 clear G
 rintro m_ e_ w1 ⟨k, v, rfl, ⟨e2, rfl⟩, hk, own, G⟩
 refine qZ 2 ?_
 refine stp ?_
 refine qC ?_
 refine qZ 2 ?_
 refine zA2 rfl (fun hlt => ?_) (fun hlt => ?_)
 ·
  first | replace hlt := qT hlt | replace hlt := qF hlt | skip
  have hi : k < A.length := by omega
  obtain ⟨v2, hv2, ad2, c2, rfl, hc1, hc2, R2⟩ := hs k A[k] (List.getElem?_eq_getElem hi)
  obtain ⟨b_, o_, cs_, T_, fr_, rfl, hb_, hx_⟩ := (R.grow G).at_ (by omega)
  refine qZ 5 ?_
  refine stp ?_
  (refine zH2 rfl rfl ?_ ?_ ?_; omega; omega)
  refine stp (zG7 (v := .slice ad2 A[k].length c2) rfl hb_ (by rw [Int.toNat_natCast, Nat.mul_one]; exact zQ4 hx_ hv2) ?_)
  refine qO 6 ?_
  refine stp (zC3 (cs := #[.int .i64 (A[k].length : Int)]) (el := 3) (fun w => by kernel_rfl) ?_)
  intro bs w5 hbs hcs g5
  replace own := zB7 own g5
  replace hb_ := g5.heap hb_
  replace G := G.tr g5
  refine stp (zG1 rfl rfl rfl rfl own (Row.of_block (n := 1) hcs rfl rfl (by omega)) (fun q_ hq_ => by simp at hq_; subst hq_; rfl) (by simp only [maxLen]; omega) (by omega) G.size ?_)
  intro v6 w6 own6 gr6
  replace G := G.grown gr6 (zH8 own)
  refine qO 3 ?_
  refine stp ?_
  (first | (refine zB5 rfl rfl ?_ ?_; (constructor <;> omega)) | refine zG6 rfl rfl ?_)
  refine qO 2 ?_
  refine ⟨_, ?_, k + 1, v6, rfl, zC6 ⟨rfl, rfl, rfl, rfl, trivial⟩, by omega, (by rw [List.take_add_one, List.getElem?_eq_getElem hi, List.map_append]; exact own6), G⟩
  omega
 ·
  first | replace hlt := qT hlt | replace hlt := qF hlt | skip
  have hk2 : k = n := by omega
  subst hk2
  refine qO 7 ?_
  rw [List.take_of_length_le (by omega)] at own
  exact ret1 (zA1 rfl) ⟨own, G⟩
theorem yE5 (w : World) {ad : Option Addr} {n c : Nat} {xs : List Int} (hn : n = xs.length) (R : RowAt w 1 ad n (xs.map (.int .u8))) (hx : ∀ x ∈ xs, inR .u8 x) (h8 : n ≤ 8) : zB6 Tryz.prog 110 #[.slice ad n c] w (.int .u64 (getP xs)) := by
 have G := Grow.rfl' w
 refine zA8 Tryz.func110 Tryz.ntmps110 Tryz.results110 rfl rfl ?_
 refine qO 13 ?_
 refine stp ?_
 (first | (refine qU7 rfl rfl rfl ?_ ?_; omega) | (refine qU8 rfl rfl rfl ?_ ?_; omega) | refine qI7 rfl rfl rfl ?_)
 refine stp ?_
 (first | (refine zM9 rfl rfl ?_ ?_; (constructor <;> omega)) | refine qD8 rfl rfl ?_)
 refine qO 3 ?_
 refine zF5 (fun m_ e_ w_ => ∃ (k : Nat), m_ = n - k ∧ Fr [(0, .slice ad n c), (3, .int .u64 (getP (xs.drop (n - k)))), (4, .int .i64 ((n : Int) - 1 - k))] e_ ∧ (k ≤ n) ∧ Grow w w_) _ ⟨0, rfl, zC6 ⟨rfl, congrArg (Value.int .u64) (by rw [Nat.sub_zero, hn, List.drop_length]; rfl), congrArg (Value.int .i64) (by omega), trivial⟩, by omega, G⟩ ?_
 clear G
 rintro m_ e_ w1 ⟨k, rfl, ⟨e2, rfl⟩, hk2, G⟩
 refine qO 4 ?_
 refine stp ?_
 refine qC ?_
 refine zA6 ?_
 refine zA2 rfl (fun hge => ?_) (fun hge => ?_)
 ·
  first | replace hge := qT hge | replace hge := qF hge | skip
  have hk3 : k < n := by omega
  obtain ⟨b_, o_, cs_, T_, fr_, rfl, hb_, hx_⟩ := (R.grow G).at_ (by omega)
  have hyr := qC5 (xs.drop (n - k)) (fun x hq_ => hx x (List.mem_of_mem_drop hq_))
  have hpow := yW1 (show (xs.drop (n - k)).length ≤ 7 from by rw [List.length_drop]; omega)
  have hxi := hx (xs[n - 1 - k]'(by omega)) (List.getElem_mem _)
  simp only [inR] at hxi
  refine qO 5 ?_
  refine stp ?_
  (first | (refine zZ9 rfl rfl ?_ ?_; (constructor <;> omega)) | refine zU5 rfl rfl ?_)
  refine qO 2 ?_
  refine stp ?_
  (refine zH2 rfl rfl ?_ ?_ ?_; omega; omega)
  refine stp (zG7 (v := .int .u8 (xs[n - 1 - k]'(by omega))) rfl hb_ (by rw [show o_ + (((n : Int) - 1 - k).toNat) * 1 = o_ + (n - 1 - k) from by omega]; exact zQ4 hx_ (by rw [List.getElem?_map, List.getElem?_eq_getElem (by omega)]; rfl)) ?_)
  refine stp ?_
  (first | (refine zF7 rfl ?_ ?_; (constructor <;> omega)) | refine zI5 rfl ?_)
  refine stp ?_
  (first | (refine zB5 rfl rfl ?_ ?_; (constructor <;> omega)) | refine zG6 rfl rfl ?_)
  refine qO 4 ?_
  refine stp ?_
  (first | (refine zM9 rfl rfl ?_ ?_; (constructor <;> omega)) | refine qD8 rfl rfl ?_)
  refine qO 2 ?_
  refine ⟨_, ?_, k + 1, rfl, zC6 ⟨rfl, congrArg (Value.int .u64) (by rw [yJ3 hn hk3]; omega), congrArg (Value.int .i64) (by omega), trivial⟩, by omega, G⟩
  omega
 ·
  first | replace hge := qT hge | replace hge := qF hge | skip
  have hk3 : k = n := by omega
  subst hk3
  refine qO 7 ?_
  refine ret1 (zB1 rfl) ⟨?_, G⟩
  rw [Nat.sub_self]; rfl
theorem qJ0 (w : World) {c : List Value} {t : Nd} (T : NodeR w c t) (hw4 : t.words.length ≤ 4096) (hb4 : t.bytes.length ≤ 4096) (hk4 : t.kids.length ≤ 4096) : Calls Tryz.prog 79 #[.agg c.toArray] w (Ret fun v w' => w'.ownsRow w.heap.size 23 1 v t.content.length (t.content.map (.int .u64)) ∧ Grow w w') := by
 obtain @⟨kind, size, words, bytes, kids, ws, bs, ks, kc, hk, hs, hW, hwr, hB, hbr, hK, hKs⟩ := T
 obtain ⟨aw, cw, rfl, hcw, hcw2, RW⟩ := hW
 obtain ⟨ab, cb, rfl, hcb, hcb2, RB⟩ := hB
 obtain ⟨ak, ck, rfl, hck, hck2, RK⟩ := hK
 have lw := RW.lim
 have lb := RB.lim
 have lk := RK.lim
 simp only [inR] at hk hs
 simp only [Nd.words, Nd.bytes, Nd.kids] at hw4 hb4 hk4
 have G := Grow.rfl' w
 refine zC2 Tryz.func79 Tryz.ntmps79 Tryz.results79 rfl rfl ?_
 refine qZ 2 ?_
 refine stp ?_
 refine qC ?_
 intro b1 w2 hb3 hc4 g5
 have hge6 := Nat.le_trans G.size hb3
 replace G := G.tr g5
 clear g5 hb3
 refine qO 11 ?_
 refine stp ?_
 have own00 := World.ownsRow_nil w2 w.heap.size 23 1
 refine zG1 rfl rfl rfl rfl own00 ⟨_, cw, rfl, hcw, hcw2, RW.grow G⟩ (fun q_ hq_ => by obtain ⟨z, _, rfl⟩ := List.mem_map.1 hq_; rfl) (by simp only [maxLen]; omega) (by omega) G.size ?_
 intro v5 w5 own5 gr6
 replace G := G.grown gr6 (zH8 own00)
 replace hc4 := zI1 gr6 hc4 (zF3 own00 hc4 (by decide))
 refine qO 8 ?_
 refine zF5 (fun m_ e_ w_ => ∃ (k : Nat) (v : Value), m_ = bytes.length + 8 - 8 * k ∧ Fr [(1, .pointer (some ⟨b1, 0, none⟩)), (3, v), (4, .int .i64 ((8 * k : Nat) : Int))] e_ ∧ (8 * k < bytes.length + 8) ∧ (w_.heap[b1]? = some (.cells #[.int .i64 kind, .int .i64 size, .slice aw words.length cw, .slice ab bytes.length cb, .slice ak kids.length ck] 48 (0, 0))) ∧ (w_.ownsRow w.heap.size 23 1 v (words.length + k) ((words ++ (List.range k).map (zV2 bytes)).map (.int .u64))) ∧ Grow w w_) _ ⟨0, v5, rfl, zC6 ⟨rfl, rfl, rfl, trivial⟩, by omega, hc4, by simpa using own5, G⟩ ?_
 clear hc4
 clear G
 rintro m_ e_ w7 ⟨k, v, rfl, ⟨e8, rfl⟩, hk2, hc_, own, G⟩
 refine qO 7 ?_
 refine stp ?_
 refine qC ?_
 refine zA6 ?_
 refine zA2 rfl (fun hlt => ?_) (fun hlt => ?_)
 ·
  first | replace hlt := qT hlt | replace hlt := qF hlt | skip
  have hcn : zQ6 bytes.length k ≤ 8 := by unfold zQ6; omega
  have hcm : 8 * k + zQ6 bytes.length k ≤ bytes.length := by unfold zQ6; omega
  refine qO 9 ?_
  refine stp ?_
  (first | (refine zB5 rfl rfl ?_ ?_; (constructor <;> omega)) | refine zG6 rfl rfl ?_)
  refine qZ 3 ?_
  refine stp ?_
  refine qI7 rfl rfl rfl ?_
  rw [show (if (bytes.length : Int) < ((8 * k : Nat) : Int) + 8 then (bytes.length : Int) else ((8 * k : Nat) : Int) + 8) = ((8 * k + zQ6 bytes.length k : Nat) : Int) from by unfold zQ6; split <;> omega]
  refine stp ?_
  refine yI7 rfl rfl rfl (by omega) (by omega) (by omega) ?_
  rw [Int.toNat_natCast, Int.toNat_natCast, show 8 * k + zQ6 bytes.length k - 8 * k = zQ6 bytes.length k from by omega]
  have Rj : RowAt w 1 (if cb = 8 * k then ab else ab.map (·.add (8 * k * 1))) (zQ6 bytes.length k) (((bytes.drop (8 * k)).take 8).map (.int .u8)) := by
   have h := RB.sliceLH (l := 8 * k) (m := zQ6 bytes.length k) hcb hcm (by omega)
   simp only [Nat.mul_one, ← List.map_drop, ← List.map_take, yC7] at h ⊢; exact h
  have hlenj : zQ6 bytes.length k = ((bytes.drop (8 * k)).take 8).length := by rw [List.length_take, List.length_drop, zQ6]
  have hxj : ∀ x ∈ (bytes.drop (8 * k)).take 8, inR .u8 x := fun x hx_ => hbr x (List.mem_of_mem_drop (List.mem_of_mem_take hx_))
  refine stp (zA4 rfl (zJ0 (yE5 _ hlenj (Rj.grow G) hxj hcn) (y := .int .u64 (zV2 bytes k)) rfl) ?_)
  intro w9 g10
  replace hc_ := g10.heap hc_
  replace own := zB7 own g10
  replace G := G.tr g10
  clear g10
  refine stp (zC3 (cs := #[.int .u64 (zV2 bytes k)]) (el := 23) (fun w => by kernel_rfl) ?_)
  intro bs w5 hbs hcs g5
  replace hc_ := g5.heap hc_
  replace own := zB7 own g5
  replace G := G.tr g5
  refine stp (zG1 rfl rfl rfl rfl own (Row.of_block (n := 1) hcs rfl rfl (by omega)) (fun q_ hq_ => by simp at hq_; subst hq_; rfl) (by simp only [maxLen]; omega) (by omega) G.size ?_)
  intro v6 w6 own6 gr6
  replace G := G.grown gr6 (zH8 own)
  replace hc_ := zI1 gr6 hc_ (zF3 own hc_ (by decide))
  have e3 : (words ++ (List.range (k + 1)).map (zV2 bytes)).map (Value.int .u64) = (words ++ (List.range k).map (zV2 bytes)).map (Value.int .u64) ++ [.int .u64 (zV2 bytes k)] := by simp [List.range_succ]
  have own7 := own6
  rw [← e3, Nat.add_assoc] at own7
  refine qO 4 ?_
  refine stp ?_
  (first | (refine zB5 rfl rfl ?_ ?_; (constructor <;> omega)) | refine zG6 rfl rfl ?_)
  refine qO 2 ?_
  refine ⟨_, ?_, k + 1, v6, rfl, zC6 ⟨rfl, rfl, congrArg (Value.int .i64) (by omega), trivial⟩, by omega, hc_, own7, G⟩
  omega
 ·
  first | replace hlt := qT hlt | replace hlt := qF hlt | skip
  have hk3 : (bytes.length + 7) / 8 = k := by omega
  refine qO 7 ?_
  refine stp (yI8 (z := .int .u64 0) (by_ := 8) rfl rfl rfl rfl (by rfl) (by rfl) own (by omega) (by omega) G.size ?_)
  intro v9 w9 own9 gr9
  have G9 := G.grown gr9 (zH8 own)
  refine qO 8 ?_
  refine ret1 (zA1 rfl) ⟨?_, G9⟩
  have e1 : (Nd.mk kind size words bytes kids).content.length = words.length + k + kids.length := by simp only [Nd.content, qC6, List.length_append, List.length_map, List.length_range, List.length_replicate]; omega
  have e2 : (Nd.mk kind size words bytes kids).content.map (Value.int .u64) = (words ++ (List.range k).map (zV2 bytes)).map (Value.int .u64) ++ List.replicate kids.length (.int .u64 0) := by rw [← hk3]; simp [Nd.content, qC6]
  rw [e1, e2]
  exact own9
theorem yE6 (w : World) (n : Int) (h0 : 0 ≤ n) (h1 : n ≤ 140737488355328) : zB6 Tryz.prog 136 #[.int .i64 n, .int .i64 8] w (.int .i64 ((n + 7) / 8)) := by
 have G := Grow.rfl' w
 refine zA8 Tryz.func136 Tryz.ntmps136 Tryz.results136 rfl rfl ?_
 refine qZ 8 ?_
 refine stp (zF6 rfl rfl ?_)
 refine qZ 1 ?_
 refine qG 1 ?_
 refine zA3 (zB2 (s := .bool _) (v := .bool (decide (n > 9007199254740992))) rfl (zE3 _) (fun hc2 => ?_) ?_)
 ·
  have hc2_ := hc2
  try simp only [sb] at hc2_
  refine zN7 (gvt hc2) rfl ?_
  exact ⟨rfl, rfl⟩
 refine stp (zH6 rfl rfl rfl ?_)
 refine qZ 1 ?_
 refine qG 1 ?_
 refine zA3 (zB2 (s := .bool _) (v := .bool false) rfl (zE3 _) (fun hc4 => ?_) ?_)
 ·
  have hc4_ := hc4
  try simp only [sb] at hc4_
  refine yH8 (gvt hc4) rfl (by decide) ?_
  exact ⟨rfl, rfl⟩
 refine stp (zH6 rfl rfl rfl ?_)
 refine qZ 1 ?_
 refine qG 1 ?_
 refine zA3 (zB2 (s := .bool _) (v := .bool false) rfl (zE3 _) (fun hc6 => ?_) ?_)
 ·
  have hc6_ := hc6
  try simp only [sb] at hc6_
  refine yH9 (gvt hc6) rfl (by decide) ?_
  exact ⟨rfl, rfl⟩
 refine stp (zH6 rfl rfl rfl ?_)
 refine zA6 ?_
 refine zA2 (b := ((((decide (n < 0)) || (decide (n > 9007199254740992))) || false) || false)) rfl (fun h1 => ?_) (fun h1 => ?_)
 ·
  simp only [sb] at h1
  refine qZ 5 ?_
  refine ret1 (zA1 (v := .int .i64 0) rfl) ⟨?_, G⟩
  first | (exfalso; omega; done) | (congr 1; omega)
 ·
  simp only [sb] at h1
  refine qZ 5 ?_
  refine stp (zB5 rfl rfl ?_ ?_); constructor <;> omega
  refine stp (zM9 rfl rfl ?_ ?_); constructor <;> omega
  refine qZ 1 ?_
  refine stp (qA0 rfl rfl ?_ ?_ ?_ ?_); omega; omega; (constructor <;> omega)
  refine qZ 3 ?_
  refine ret1 (zA1 (v := .int .i64 (((n + 8) - 1) / 8)) rfl) ⟨?_, G⟩
  first | (exfalso; omega; done) | (congr 1; omega)
theorem yK9 (w : World) {c : List Value} {t : Nd} (T : NodeR w c t) : zB6 Tryz.prog 133 #[.agg c.toArray] w (.bool t.own) := by
 obtain @⟨kind, size, words, bytes, kids, ws, bs, ks, kc, hk, hs, hW, hwr, hB, hbr, hK, hKs⟩ := T
 obtain ⟨aw, cw, rfl, hcw, hcw2, RW⟩ := hW
 obtain ⟨ab, cb, rfl, hcb, hcb2, RB⟩ := hB
 obtain ⟨ak, ck, rfl, hck, hck2, RK⟩ := hK
 have lw := RW.lim
 have lb := RB.lim
 have lk := RK.lim
 simp only [inR] at hk hs
 have G := Grow.rfl' w
 refine zA8 Tryz.func133 Tryz.ntmps133 Tryz.results133 rfl rfl ?_
 refine qZ 2 ?_
 refine stp ?_
 refine qC ?_
 intro b1 w2 hb3 hc4 g5
 have hge6 := Nat.le_trans G.size hb3
 replace G := G.tr g5
 clear g5 hb3
 refine qZ 3 ?_
 refine zM8 12 [[], [0], [1, 0], [], [0], [1, 0], [], [0], [1, 0], [8, 7, 6], [9, 8, 7, 6, 5, 4, 0], [10, 9, 8, 7, 6, 5, 4, 3, 2, 1, 0]] mixed (by kernel_rfl) (by kernel_rfl) (by kernel_rfl) ?_
 intro w7 g8
 replace hc4 := g8.heap hc4
 replace G := G.tr g8
 clear g8
 refine qA 12 ?_
 refine zI4 ?_
 intro w9 g10
 replace hc4 := g10.heap hc4
 replace G := G.tr g10
 clear g10
 refine qZ 10 ?_
 refine stp (zD5 rfl rfl ?_)
 refine qZ 2 ?_
 refine zA2 (b := (decide (kind = 0))) rfl (fun h1 => ?_) (fun h1 => ?_)
 ·
  replace h1 := qT h1
  refine qZ 4 ?_
  refine stp (zD5 rfl rfl ?_)
  refine qZ 1 ?_
  refine qG 2 ?_
  refine zA3 (zB2 (s := .bool _) (v := .int .i64 ((words.length : Int) + (bytes.length : Int))) rfl (zE2 _) (fun hc13 => ?_) ?_)
  ·
   have hc13_ := qT hc13
   refine zB5 (gvt hc13) (gvt hc13) ?_ ?_; constructor <;> omega
   exact ⟨rfl, rfl⟩
  refine qG 1 ?_
  refine zA3 (zB2 (s := .bool _) (v := .int .i64 (((words.length : Int) + (bytes.length : Int)) + (kids.length : Int))) rfl (zE2 _) (fun hc15 => ?_) ?_)
  ·
   have hc15_ := qT hc15
   refine zB5 (gvt hc15) (gvt hc15) ?_ ?_; constructor <;> omega
   exact ⟨rfl, rfl⟩
  refine zA3 (zB2 (s := .bool _) (v := .bool (decide ((((words.length : Int) + (bytes.length : Int)) + (kids.length : Int)) = 0))) rfl (zE2 _) (fun hc16 => ?_) ?_)
  ·
   have hc16_ := qT hc16
   refine zD5 (gvt hc16) rfl ?_
   exact ⟨rfl, rfl⟩
  refine stp (zG8 rfl rfl rfl ?_)
  refine qZ 3 ?_
  refine ret1 (zA1 (v := .bool ((decide (size = 0)) && (decide ((((words.length : Int) + (bytes.length : Int)) + (kids.length : Int)) = 0)))) rfl) ⟨?_, G⟩
  simp [Nd.own, Bool.and_assoc, *]
 ·
  replace h1 := qF h1
  refine qZ 2 ?_
  refine stp (zD5 rfl rfl ?_)
  refine qZ 2 ?_
  refine zA2 (b := (decide (kind = 1))) rfl (fun h2 => ?_) (fun h2 => ?_)
  ·
   replace h2 := qT h2
   refine qZ 4 ?_
   refine stp (zD5 rfl rfl ?_)
   refine qZ 1 ?_
   refine qG 1 ?_
   refine zA3 (zB2 (s := .bool _) (v := .bool (decide ((bytes.length : Int) = 0))) rfl (zE2 _) (fun hc18 => ?_) ?_)
   ·
    have hc18_ := qT hc18
    refine zD5 (gvt hc18) rfl ?_
    exact ⟨rfl, rfl⟩
   refine stp (zG8 rfl rfl rfl ?_)
   refine qZ 1 ?_
   refine qG 2 ?_
   refine zA3 (zB2 (s := .bool _) (v := .int .i64 (if (kids.length : Int) > (words.length : Int) then (kids.length : Int) else (words.length : Int))) rfl (zE2 _) (fun hc21 => ?_) ?_)
   ·
    obtain ⟨hc21a, hc21b⟩ := and_t hc21
    have hc21a_ := qT hc21a
    have hc21b_ := qT hc21b
    refine qP1 rfl (gvt hc21) (gvt hc21) ?_
    exact ⟨rfl, rfl⟩
   refine zA3 (zB2 (s := .bool _) (v := .bool (decide ((if (kids.length : Int) > (words.length : Int) then (kids.length : Int) else (words.length : Int)) ≤ 100))) rfl (zE2 _) (fun hc22 => ?_) ?_)
   ·
    obtain ⟨hc22a, hc22b⟩ := and_t hc22
    have hc22a_ := qT hc22a
    have hc22b_ := qT hc22b
    refine zU7 (gvt hc22) rfl ?_
    exact ⟨rfl, rfl⟩
   refine stp (zG8 rfl rfl rfl ?_)
   refine qZ 3 ?_
   refine ret1 (zA1 (v := .bool (((decide (size = 0)) && (decide ((bytes.length : Int) = 0))) && (decide ((if (kids.length : Int) > (words.length : Int) then (kids.length : Int) else (words.length : Int)) ≤ 100)))) rfl) ⟨?_, G⟩
   simp [Nd.own, Bool.and_assoc, *]
  ·
   replace h2 := qF h2
   refine qZ 2 ?_
   refine stp (zD5 rfl rfl ?_)
   refine qZ 2 ?_
   refine zA2 (b := (decide (kind = 2))) rfl (fun h3 => ?_) (fun h3 => ?_)
   ·
    replace h3 := qT h3
    refine qZ 8 ?_
    refine stp (zD5 rfl rfl ?_)
    refine qZ 2 ?_
    refine zA2 (b := (decide (size = 2))) rfl (fun h4 => ?_) (fun h4 => ?_)
    ·
     replace h4 := qT h4
     refine qZ 4 ?_
     refine stp (zB5 rfl rfl ?_ ?_); constructor <;> omega
     refine stp (zD5 rfl rfl ?_)
     refine qZ 1 ?_
     refine qG 1 ?_
     refine zA3 (zB2 (s := .bool _) (v := .bool (decide ((bytes.length : Int) ≤ 4096))) rfl (zE2 _) (fun hc24 => ?_) ?_)
     ·
      have hc24_ := qT hc24
      refine zU7 (gvt hc24) rfl ?_
      exact ⟨rfl, rfl⟩
     refine stp (zG8 rfl rfl rfl ?_)
     refine qZ 3 ?_
     refine ret1 (zA1 (v := .bool ((decide (((words.length : Int) + (kids.length : Int)) = 0)) && (decide ((bytes.length : Int) ≤ 4096)))) rfl) ⟨?_, G⟩
     simp [Nd.own, Bool.and_assoc, *]
    ·
     replace h4 := qF h4
     refine qZ 2 ?_
     refine stp (zD5 rfl rfl ?_)
     refine qZ 2 ?_
     refine zA2 (b := (decide (size = 5))) rfl (fun h5 => ?_) (fun h5 => ?_)
     ·
      replace h5 := qT h5
      refine qZ 4 ?_
      refine stp (zB5 rfl rfl ?_ ?_); constructor <;> omega
      refine stp (zD5 rfl rfl ?_)
      refine qZ 1 ?_
      refine qG 1 ?_
      refine zA3 (zB2 (s := .bool _) (v := .bool (decide ((words.length : Int) ≤ 4096))) rfl (zE2 _) (fun hc26 => ?_) ?_)
      ·
       have hc26_ := qT hc26
       refine zU7 (gvt hc26) rfl ?_
       exact ⟨rfl, rfl⟩
      refine stp (zG8 rfl rfl rfl ?_)
      refine qZ 3 ?_
      refine ret1 (zA1 (v := .bool ((decide (((bytes.length : Int) + (kids.length : Int)) = 0)) && (decide ((words.length : Int) ≤ 4096)))) rfl) ⟨?_, G⟩
      simp [Nd.own, Bool.and_assoc, *]
     ·
      replace h5 := qF h5
      refine qZ 2 ?_
      refine stp (zD5 rfl rfl ?_)
      refine qZ 2 ?_
      refine zA2 (b := (decide (size = 6))) rfl (fun h6 => ?_) (fun h6 => ?_)
      ·
       replace h6 := qT h6
       refine qZ 4 ?_
       refine stp (zB5 rfl rfl ?_ ?_); constructor <;> omega
       refine stp (zD5 rfl rfl ?_)
       refine qZ 1 ?_
       refine qG 1 ?_
       refine zA3 (zB2 (s := .bool _) (v := .bool (decide ((kids.length : Int) ≤ 4096))) rfl (zE2 _) (fun hc28 => ?_) ?_)
       ·
        have hc28_ := qT hc28
        refine zU7 (gvt hc28) rfl ?_
        exact ⟨rfl, rfl⟩
       refine stp (zG8 rfl rfl rfl ?_)
       refine qZ 3 ?_
       refine ret1 (zA1 (v := .bool ((decide (((bytes.length : Int) + (words.length : Int)) = 0)) && (decide ((kids.length : Int) ≤ 4096)))) rfl) ⟨?_, G⟩
       simp [Nd.own, Bool.and_assoc, *]
      ·
       replace h6 := qF h6
       refine qZ 6 ?_
       refine ret1 (zA1 (v := .bool false) rfl) ⟨?_, G⟩
       simp [Nd.own, Bool.and_assoc, *]
   ·
    replace h3 := qF h3
    refine qZ 6 ?_
    refine ret1 (zA1 (v := .bool false) rfl) ⟨?_, G⟩
    simp [Nd.own, Bool.and_assoc, *]
theorem qV7 (w : World) {c : List Value} {t : Nd} (T : NodeR w c t) : zB6 Tryz.prog 74 #[.agg c.toArray] w (.int .i64 t.need) := by
 obtain @⟨kind, size, words, bytes, kids, ws, bs, ks, kc, hk, hs, hW, hwr, hB, hbr, hK, hKs⟩ := T
 obtain ⟨aw, cw, rfl, hcw, hcw2, RW⟩ := hW
 obtain ⟨ab, cb, rfl, hcb, hcb2, RB⟩ := hB
 obtain ⟨ak, ck, rfl, hck, hck2, RK⟩ := hK
 have lw := RW.lim
 have lb := RB.lim
 have lk := RK.lim
 simp only [inR] at hk hs
 have G := Grow.rfl' w
 refine zA8 Tryz.func74 Tryz.ntmps74 Tryz.results74 rfl rfl ?_
 refine qZ 2 ?_
 refine stp ?_
 refine qC ?_
 intro b1 w2 hb3 hc4 g5
 have hge6 := Nat.le_trans G.size hb3
 replace G := G.tr g5
 clear g5 hb3
 refine qZ 11 ?_
 refine stp (zD5 rfl rfl ?_)
 refine qZ 2 ?_
 refine zA2 (b := (decide (kind = 1))) rfl (fun h1 => ?_) (fun h1 => ?_)
 ·
  replace h1 := qT h1
  refine qZ 8 ?_
  refine stp (zB5 rfl rfl ?_ ?_); constructor <;> omega
  refine qZ 3 ?_
  refine ret1 (zA1 (v := .int .i64 ((words.length : Int) + (kids.length : Int))) rfl) ⟨?_, G⟩
  simp [Nd.need, *]
 ·
  replace h1 := qF h1
  refine qZ 2 ?_
  refine stp (zD5 rfl rfl ?_)
  refine qZ 2 ?_
  refine zA2 (b := (decide (kind = 2))) rfl (fun h2 => ?_) (fun h2 => ?_)
  ·
   replace h2 := qT h2
   refine qZ 8 ?_
   refine stp (zB5 rfl rfl ?_ ?_); constructor <;> omega
   refine qZ 3 ?_
   refine stp (zB5 rfl rfl ?_ ?_); constructor <;> omega
   refine stp (qA0 rfl rfl ?_ ?_ ?_ ?_); omega; omega; (constructor <;> omega)
   refine stp (zB5 rfl rfl ?_ ?_); constructor <;> omega
   refine qZ 3 ?_
   refine ret1 (zA1 (v := .int .i64 (((words.length : Int) + (kids.length : Int)) + (((bytes.length : Int) + 7) / 8))) rfl) ⟨?_, G⟩
   simp [Nd.need, *]
  ·
   replace h2 := qF h2
   refine qZ 6 ?_
   refine ret1 (zA1 (v := .int .i64 0) rfl) ⟨?_, G⟩
   simp [Nd.need, *]
theorem qV8 (w : World) {ad : Option Addr} {c n fid : Nat} {fst cap : Array Value} {kc : List Value} [FuncI Tryz.prog fid] (R : RowAt w 5 ad n kc) (p : Nat → Bool) (hf : ∀ i, i < n → ∀ w', Grow w w' → zB6 Tryz.prog fid (fst.toList ++ ([Value.agg ((kc.drop (i * 5)).take 5).toArray] ++ cap.toList)).toArray w' (.bool (p i))) : zB6 Tryz.prog 158 #[.slice ad n c, .func (.func fid) fst cap] w (.int .i64 (zR7 p n 0)) := by
 have ln := R.lim
 have G := Grow.rfl' w
 refine zA8 Tryz.func158 Tryz.ntmps158 Tryz.results158 rfl rfl ?_
 refine qZ 12 ?_
 refine zF5 (fun m_ e_ w_ => ∃ (k : Nat), m_ = n - k ∧ Fr [(0, .slice ad n c), (1, .func (.func fid) fst cap), (7, .int .i64 (n : Int)), (8, .int .i64 (k : Int))] e_ ∧ (k ≤ n) ∧ (∀ j, j < k → p j = false) ∧ Grow w w_) _ ⟨0, rfl, zC6 ⟨rfl, rfl, rfl, rfl, trivial⟩, by omega, fun j hj => by omega, G⟩ ?_
 clear G
 rintro m_ e_ w1 ⟨k, rfl, ⟨e2, rfl⟩, hk, hno, G⟩
 refine qZ 2 ?_
 refine stp (zF6 rfl rfl ?_)
 refine qZ 2 ?_
 refine zA2 (b := (decide ((k : Int) < (n : Int)))) rfl (fun hlt => ?_) (fun hlt => ?_)
 ·
  replace hlt := qT hlt
  refine qZ 13 ?_
  refine stp (zC8 (R.grow G) rfl rfl ?_ ?_); omega
  refine stp (zL5 (R.grow G) rfl (by decide) (by rw [R.len]; omega) rfl ?_)
  refine stp (zA4 (v := .bool (p k)) rfl (hf k (by omega) _ G) ?_)
  intro w3 g4
  replace G := G.tr g4
  clear g4
  refine zA6 ?_
  refine zA2 (b := (p k)) rfl (fun hpk => ?_) (fun hpk => ?_)
  ·
   refine qZ 6 ?_
   refine ret1 (zA1 (v := .int .i64 (k : Int)) rfl) ⟨?_, G⟩
   rw [qC8 n 0 k (by omega) (by omega) hpk (fun j _ hj => hno j hj)]
  ·
   refine qZ 2 ?_
   refine stp (zB5 rfl rfl ?_ ?_); constructor <;> omega
   refine qZ 2 ?_
   refine ⟨_, ?_, k + 1, rfl, zC6 ⟨rfl, rfl, rfl, rfl, trivial⟩, by omega, fun j hj => by rcases Nat.lt_succ_iff_lt_or_eq.1 hj with h | h; exact hno j h; subst h; exact hpk, G⟩
   omega
 ·
  replace hlt := qF hlt
  have hk2 : k = n := by omega
  subst hk2
  refine qZ 6 ?_
  refine ret1 (zA1 (v := .int .i64 (-1)) rfl) ⟨?_, G⟩
  rw [qC7 _ _ (fun j _ hj => hno j (by omega))]
theorem qJ1 (w : World) {ad : Option Addr} {c n fid : Nat} {fst cap : Array Value} {kc : List Value} [FuncI Tryz.prog fid] (R : RowAt w 5 ad n kc) (p : Nat → Bool) (hf : ∀ i, i < n → ∀ w', Grow w w' → zB6 Tryz.prog fid (fst.toList ++ ([Value.agg ((kc.drop (i * 5)).take 5).toArray] ++ cap.toList)).toArray w' (.bool (p i))) : zB6 Tryz.prog 134 #[.slice ad n c, .func (.func fid) fst cap] w (.bool ((List.range' 0 n).any p)) := by
 have G := Grow.rfl' w
 refine zA8 Tryz.func134 Tryz.ntmps134 Tryz.results134 rfl rfl ?_
 refine qZ 8 ?_
 refine stp (zA4 (v := .int .i64 (zR7 p n 0)) rfl (qV8 _ (R.grow G) p (fun i hi w' g' => hf i hi w' (G.tr g'))) ?_)
 intro w1 g2
 replace G := G.tr g2
 clear g2
 refine stp (zP7 rfl rfl ?_)
 refine qZ 3 ?_
 refine ret1 (zA1 (v := .bool (decide ((zR7 p n 0) ≥ 0))) rfl) ⟨?_, G⟩
 rw [← qP4]
theorem qR2 (w : World) {c : List Value} {left : Int} {bx : Nat} {T : TypeId} {b : Bool} (h5 : c.length = 5) (h0 : 0 ≤ left) (h1 : left ≤ 32) (hbx : w.heap[bx]? = some (.cells #[.int .i64 left] T (0, 0))) (hr : ∀ w', Grow w w' → zB6 Tryz.prog 106 #[.agg c.toArray, .int .i64 (left - 1)] w' (.bool b)) : zB6 Tryz.prog 135 #[.agg c.toArray, .pointer (some ⟨bx, 0, none⟩)] w (.bool (!b)) := by
 obtain ⟨x0, x1, x2, x3, x4, rfl⟩ := five h5
 have G := Grow.rfl' w
 refine zA8 Tryz.func135 Tryz.ntmps135 Tryz.results135 rfl rfl ?_
 refine qZ 2 ?_
 refine stp ?_
 refine qC ?_
 intro b1 w2 hb3 hc4 g5
 have hge6 := Nat.le_trans G.size hb3
 replace hbx := g5.heap hbx
 replace G := G.tr g5
 clear g5 hb3
 refine qZ 6 ?_
 refine stp (zM9 rfl rfl ?_ ?_); constructor <;> omega
 refine stp (zA4 (v := .bool b) rfl (hr _ G) ?_)
 intro w7 g8
 replace hbx := g8.heap hbx
 replace hc4 := g8.heap hc4
 replace G := G.tr g8
 clear g8
 refine stp (zN8 rfl ?_)
 refine qZ 3 ?_
 refine ret1 (zA1 (v := .bool (!b)) rfl) ⟨?_, G⟩
 rfl
theorem qV9 : ∀ (n_ : Nat) (w : World) {c : List Value} {t : Nd} (T : NodeR w c t) {left : Nat} (hl : left ≤ 32), t.sz ≤ n_ → zB6 Tryz.prog 106 #[.agg c.toArray, .int .i64 (left : Int)] w (.bool (t.right left)) := by
 intro n_
 induction n_ with
 | zero => intro w c t T left hl hm_; exact absurd hm_ (by have := t.sz_pos; omega)
 | succ n_ ih_ =>
 intro w c t T left hl hm_
 have T0 := T
 obtain @⟨kind, size, words, bytes, kids, ws, bs, ks, kc, hk, hs, hW, hwr, hB, hbr, hK, hKs⟩ := T
 obtain ⟨aw, cw, rfl, hcw, hcw2, RW⟩ := hW
 obtain ⟨ab, cb, rfl, hcb, hcb2, RB⟩ := hB
 obtain ⟨ak, ck, rfl, hck, hck2, RK⟩ := hK
 have lw := RW.lim
 have lb := RB.lim
 have lk := RK.lim
 simp only [inR] at hk hs
 have G := Grow.rfl' w
 refine zA8 Tryz.func106 Tryz.ntmps106 Tryz.results106 rfl rfl ?_
 refine qZ 2 ?_
 refine stp ?_
 refine qC ?_
 intro b1 w2 hb3 hc4 g5
 have hge6 := Nat.le_trans G.size hb3
 replace G := G.tr g5
 clear g5 hb3
 refine stp ?_
 refine qC ?_
 intro b7 w8 hb9 hc10 g11
 have hge12 := Nat.le_trans G.size hb9
 replace hc4 := g11.heap hc4
 replace G := G.tr g11
 clear g11 hb9
 refine qZ 6 ?_
 refine stp (zA4 (v := .bool ((Nd.mk kind size words bytes kids).own)) rfl (yK9 _ (T0.grow G)) ?_)
 intro w13 g14
 replace hc4 := g14.heap hc4
 replace hc10 := g14.heap hc10
 replace G := G.tr g14
 clear g14
 refine stp (zN8 rfl ?_)
 refine qZ 1 ?_
 refine qG 2 ?_
 refine zA3 (zB2 (s := .bool _) (v := .bool (decide (kind ≠ 0))) rfl (zE3 _) (fun hc17 => ?_) ?_)
 ·
  have hc17_ := hc17
  try simp only [sb] at hc17_
  refine zG9 (gvt hc17) rfl ?_
  exact ⟨rfl, rfl⟩
 refine qG 1 ?_
 refine zA3 (zB2 (s := gv (!(!((Nd.mk kind size words bytes kids).own))) (.bool (decide (kind ≠ 0)))) (b := true) (v := .int .i64 (left : Int)) rfl (zK1 _ _) (fun hc19 => ?_) ?_)
 ·
  obtain ⟨hc19a, hc19b⟩ := and_t hc19
  have hc19a_ := hc19a
  try simp only [sb] at hc19a_
  have hc19b_ := qT hc19b
  refine zG7 (v := .int .i64 (left : Int)) rfl hc10 rfl ?_
  exact ⟨rfl, rfl⟩
 refine zA3 (zB2 (s := gv (!(!((Nd.mk kind size words bytes kids).own))) (.bool (decide (kind ≠ 0)))) (b := true) (v := .bool (decide ((left : Int) = 0))) rfl (zK1 _ _) (fun hc20 => ?_) ?_)
 ·
  obtain ⟨hc20a, hc20b⟩ := and_t hc20
  have hc20a_ := hc20a
  try simp only [sb] at hc20a_
  have hc20b_ := qT hc20b
  refine zD5 (gvt hc20) rfl ?_
  exact ⟨rfl, rfl⟩
 refine zA3 (zB2 (s := .bool _) (v := .bool ((decide (kind ≠ 0)) && (decide ((left : Int) = 0)))) rfl (zE3 _) (fun hc21 => ?_) ?_)
 ·
  have hc21_ := hc21
  try simp only [sb] at hc21_
  refine qB2 hc21 (gvt hc21) rfl rfl ?_
  exact ⟨rfl, rfl⟩
 refine stp (zH6 rfl rfl rfl ?_)
 refine zA6 ?_
 refine zA2 (b := ((!((Nd.mk kind size words bytes kids).own)) || ((decide (kind ≠ 0)) && (decide ((left : Int) = 0))))) rfl (fun h1 => ?_) (fun h1 => ?_)
 ·
  simp only [sb] at h1
  refine qZ 5 ?_
  refine ret1 (zA1 (v := .bool false) rfl) ⟨?_, G⟩
  rcases h1 with h | ⟨h2, h3⟩
  ·simp [Nd.right, h]
  ·simp [Nd.right, h2, show left = 0 from by omega]
 ·
  simp only [sb] at h1
  refine qZ 5 ?_
  refine stp (qJ6 (vs := []) (us := [.pointer (some ⟨b7, 0, none⟩)]) rfl rfl ?_)
  refine stp ?_
  have kid : ∀ i, i < kids.length → ∀ w', Grow w13 w' → zB6 Tryz.prog 135 ((#[] : Array Value).toList ++ ([Value.agg ((kc.drop (i * 5)).take 5).toArray] ++ (#[Value.pointer (some ⟨b7, 0, none⟩)] : Array Value).toList)).toArray w' (.bool (!((kids.getD i (.mk 0 0 [] [] [])).right (left - 1)))) := by
   intro i hi w' g'
   have hat := KidsR.at_ i kids[i] (hKs.grow (G.tr g')) (by simp [hi])
   have hsz := Nd.szs_at kids i kids[i] (by simp [hi])
   have hl0 : ¬ left = 0 := fun h0 => by have hk := yA2 h1.1 (h1.2.resolve_right (by omega)); rw [hk] at hi; exact absurd hi (by simp)
   have hleft : ((left : Int) - 1) = ((left - 1 : Nat) : Int) := by omega
   rw [List.getD_eq_getElem?_getD, List.getElem?_eq_getElem hi, Option.getD_some]
   refine qR2 _ (left := (left : Int)) hat.len (by omega) (by omega) (g'.heap hc10) (fun w2_ g2_ => ?_)
   rw [hleft]
   exact ih_ w2_ (hat.grow g2_) (by omega) (by simp only [Nd.sz] at hm_; omega)
  refine zA4 (v := .bool ((List.range' 0 kids.length).any (fun i => !((kids.getD i (.mk 0 0 [] [] [])).right (left - 1))))) rfl (qJ1 _ (RK.grow G) (fun i => !((kids.getD i (.mk 0 0 [] [] [])).right (left - 1))) kid) ?_
  intro w22 g23
  replace hc4 := g23.heap hc4
  replace hc10 := g23.heap hc10
  replace G := G.tr g23
  clear g23
  refine stp (zN8 rfl ?_)
  refine qZ 3 ?_
  refine ret1 (zA1 (v := .bool (!((List.range' 0 kids.length).any (fun i => !((kids.getD i (.mk 0 0 [] [] [])).right (left - 1)))))) rfl) ⟨?_, G⟩
  rw [Nd.right, h1.1, qK2]
  rcases h1.2 with h | h
  ·simp [h]
  ·simp [show ¬ left = 0 from by omega]
theorem qW0 (w : World) {c : List Value} {t : Nd} (T : NodeR w c t) : zB6 Tryz.prog 71 #[.agg c.toArray] w (.bool (t.right 32)) := by
 have h5 := T.len
 obtain ⟨x0, x1, x2, x3, x4, rfl⟩ := five h5
 have G := Grow.rfl' w
 refine zA8 Tryz.func71 Tryz.ntmps71 Tryz.results71 rfl rfl ?_
 refine qZ 2 ?_
 refine stp ?_
 refine qC ?_
 intro b1 w2 hb3 hc4 g5
 have hge6 := Nat.le_trans G.size hb3
 replace G := G.tr g5
 clear g5 hb3
 refine qZ 5 ?_
 refine stp (zA4 (v := .bool (t.right 32)) rfl (qV9 _ _ (T.grow G) (left := 32) (by omega) (Nat.le_refl _)) ?_)
 intro w7 g8
 replace hc4 := g8.heap hc4
 replace G := G.tr g8
 clear g8
 refine qZ 3 ?_
 refine ret1 (zA1 (v := .bool (t.right 32)) rfl) ⟨?_, G⟩
 rfl
theorem yE7 : ∀ (n_ : Nat) (w : World) {c : List Value} {t : Nd} (T : NodeR w c t) {left : Nat} (hl : left ≤ 32), t.sz ≤ n_ → zB6 Tryz.prog 73 #[.agg c.toArray, .int .i64 (left : Int)] w (.bool (t.right left)) := by
 intro n_
 induction n_ with
 | zero => intro w c t T left hl hm_; exact absurd hm_ (by have := t.sz_pos; omega)
 | succ n_ ih_ =>
 intro w c t T left hl hm_
 have T0 := T
 obtain @⟨kind, size, words, bytes, kids, ws, bs, ks, kc, hk, hs, hW, hwr, hB, hbr, hK, hKs⟩ := T
 obtain ⟨aw, cw, rfl, hcw, hcw2, RW⟩ := hW
 obtain ⟨ab, cb, rfl, hcb, hcb2, RB⟩ := hB
 obtain ⟨ak, ck, rfl, hck, hck2, RK⟩ := hK
 have lw := RW.lim
 have lb := RB.lim
 have lk := RK.lim
 simp only [inR] at hk hs
 have G := Grow.rfl' w
 refine zA8 Tryz.func73 Tryz.ntmps73 Tryz.results73 rfl rfl ?_
 refine qZ 2 ?_
 refine stp ?_
 refine qC ?_
 intro b1 w2 hb3 hc4 g5
 have hge6 := Nat.le_trans G.size hb3
 replace G := G.tr g5
 clear g5 hb3
 refine qZ 7 ?_
 refine stp (zD5 rfl rfl ?_)
 refine zA6 ?_
 refine zA2 (b := (decide (kind = 0))) rfl (fun h1 => ?_) (fun h1 => ?_)
 ·
  replace h1 := qT h1
  refine qZ 4 ?_
  refine stp (zD5 rfl rfl ?_)
  refine qZ 1 ?_
  refine qG 6 ?_
  refine zA3 (zB2 (s := .bool _) (v := .int .i64 ((words.length : Int) + (bytes.length : Int))) rfl (zE2 _) (fun hc13 => ?_) ?_)
  ·
   have hc13_ := qT hc13
   refine zB5 (gvt hc13) (gvt hc13) ?_ ?_; constructor <;> omega
   exact ⟨rfl, rfl⟩
  refine qG 3 ?_
  refine zA3 (zB2 (s := .bool _) (v := .int .i64 (((words.length : Int) + (bytes.length : Int)) + (kids.length : Int))) rfl (zE2 _) (fun hc17 => ?_) ?_)
  ·
   have hc17_ := qT hc17
   refine zB5 (gvt hc17) (gvt hc17) ?_ ?_; constructor <;> omega
   exact ⟨rfl, rfl⟩
  refine zA3 (zB2 (s := .bool _) (v := .bool (decide ((((words.length : Int) + (bytes.length : Int)) + (kids.length : Int)) = 0))) rfl (zE2 _) (fun hc18 => ?_) ?_)
  ·
   have hc18_ := qT hc18
   refine zD5 (gvt hc18) rfl ?_
   exact ⟨rfl, rfl⟩
  refine stp (zG8 rfl rfl rfl ?_)
  refine qZ 3 ?_
  refine ret1 (zA1 (v := .bool ((decide (size = 0)) && (decide ((((words.length : Int) + (bytes.length : Int)) + (kids.length : Int)) = 0)))) rfl) ⟨?_, G⟩
  by_cases hs0 : size = 0 <;> by_cases hz : (words.length : Int) + bytes.length + kids.length = 0
  ·have hk := qE0 hz; subst hk; simp [Nd.right, Nd.rights, Nd.own, h1, hs0]
  ·simp only [Nd.right, Nd.own, h1, hs0, hz, if_true, decide_true, decide_false, Bool.and_false, Bool.false_and]
  ·simp [Nd.right, Nd.own, h1, hs0]
  ·simp [Nd.right, Nd.own, h1, hs0]
 ·
  replace h1 := qF h1
  refine qZ 22 ?_
  refine jA3 (fun e_ w_ => Fr [(1, .int .i64 (left : Int)), (2, .pointer (some ⟨b1, 0, none⟩)), (4, .bool false), (7, .int .i64 (kids.length : Int)), (8, .bool ((Nd.mk kind size words bytes kids).own))] e_ ∧ (w_.heap[b1]? = some (.cells #[.int .i64 kind, .int .i64 size, .slice aw words.length cw, .slice ab bytes.length cb, .slice ak kids.length ck] 48 (0, 0))) ∧ Grow w w_) ?_ ?_
  ·-- the parts
   refine qZ 3 ?_
   refine stp (zD5 rfl rfl ?_)
   refine qZ 1 ?_
   refine qG 2 ?_
   refine zA3 (zB2 (s := .bool _) (v := .bool (decide (size = 0))) rfl (zE2 _) (fun hc21 => ?_) ?_)
   ·
    have hc21_ := qT hc21
    refine zD5 (gvt hc21) rfl ?_
    exact ⟨rfl, rfl⟩
   refine stp (zG8 rfl rfl rfl ?_)
   refine qZ 1 ?_
   refine qG 1 ?_
   refine zA3 (zB2 (s := .bool _) (v := .bool (decide ((words.length : Int) ≤ 100))) rfl (zE2 _) (fun hc23 => ?_) ?_)
   ·
    obtain ⟨hc23a, hc23b⟩ := and_t hc23
    have hc23a_ := qT hc23a
    have hc23b_ := qT hc23b
    refine zU7 (gvt hc23) rfl ?_
    exact ⟨rfl, rfl⟩
   refine stp (zG8 rfl rfl rfl ?_)
   refine qZ 1 ?_
   refine zA3 (zB2 (s := .bool _) (v := .int .i64 (bytes.length : Int)) rfl (zE2 _) (fun hc24 => ?_) ?_)
   ·
    obtain ⟨hc24a, hc24b⟩ := and_t hc24
    obtain ⟨hc24aa, hc24ab⟩ := and_t hc24a
    have hc24aa_ := qT hc24aa
    have hc24ab_ := qT hc24ab
    have hc24b_ := qT hc24b
    refine zD3 rfl ?_
    exact ⟨rfl, rfl⟩
   refine zA3 (zB2 (s := .bool _) (v := .bool (decide ((bytes.length : Int) = 0))) rfl (zE2 _) (fun hc25 => ?_) ?_)
   ·
    obtain ⟨hc25a, hc25b⟩ := and_t hc25
    obtain ⟨hc25aa, hc25ab⟩ := and_t hc25a
    have hc25aa_ := qT hc25aa
    have hc25ab_ := qT hc25ab
    have hc25b_ := qT hc25b
    refine zD5 (gvt hc25) rfl ?_
    exact ⟨rfl, rfl⟩
   refine stp (zG8 rfl rfl rfl ?_)
   refine qZ 1 ?_
   refine zA3 (zB2 (s := .bool _) (v := .int .i64 (kids.length : Int)) rfl (zE2 _) (fun hc26 => ?_) ?_)
   ·
    obtain ⟨hc26a, hc26b⟩ := and_t hc26
    obtain ⟨hc26aa, hc26ab⟩ := and_t hc26a
    obtain ⟨hc26aaa, hc26aab⟩ := and_t hc26aa
    have hc26aaa_ := qT hc26aaa
    have hc26aab_ := qT hc26aab
    have hc26ab_ := qT hc26ab
    have hc26b_ := qT hc26b
    refine zD3 rfl ?_
    exact ⟨rfl, rfl⟩
   refine zA3 (zB2 (s := .bool _) (v := .bool (decide ((kids.length : Int) ≤ 100))) rfl (zE2 _) (fun hc27 => ?_) ?_)
   ·
    obtain ⟨hc27a, hc27b⟩ := and_t hc27
    obtain ⟨hc27aa, hc27ab⟩ := and_t hc27a
    obtain ⟨hc27aaa, hc27aab⟩ := and_t hc27aa
    have hc27aaa_ := qT hc27aaa
    have hc27aab_ := qT hc27aab
    have hc27ab_ := qT hc27ab
    have hc27b_ := qT hc27b
    refine zU7 (gvt hc27) rfl ?_
    exact ⟨rfl, rfl⟩
   refine stp (zG8 rfl rfl rfl ?_)
   refine qZ 6 ?_
   refine stp (zD5 rfl rfl ?_)
   refine zA6 ?_
   refine zA2 (b := (decide (kind = 2))) rfl (fun h2 => ?_) (fun h2 => ?_)
   ·
    replace h2 := qT h2
    refine qZ 3 ?_
    refine stp (zD5 rfl rfl ?_)
    refine qZ 1 ?_
    refine qG 1 ?_
    refine zA3 (zB2 (s := .bool _) (v := .bool (decide ((words.length : Int) = 0))) rfl (zE2 _) (fun hc29 => ?_) ?_)
    ·
     have hc29_ := qT hc29
     refine zD5 (gvt hc29) rfl ?_
     exact ⟨rfl, rfl⟩
    refine stp (zG8 rfl rfl rfl ?_)
    refine qZ 1 ?_
    refine qG 1 ?_
    refine zA3 (zB2 (s := .bool _) (v := .bool (decide ((kids.length : Int) = 0))) rfl (zE2 _) (fun hc31 => ?_) ?_)
    ·
     obtain ⟨hc31a, hc31b⟩ := and_t hc31
     have hc31a_ := qT hc31a
     have hc31b_ := qT hc31b
     refine zD5 (gvt hc31) rfl ?_
     exact ⟨rfl, rfl⟩
    refine stp (zG8 rfl rfl rfl ?_)
    refine qZ 1 ?_
    refine zA3 (zB2 (s := .bool _) (v := .int .i64 (bytes.length : Int)) rfl (zE2 _) (fun hc32 => ?_) ?_)
    ·
     obtain ⟨hc32a, hc32b⟩ := and_t hc32
     obtain ⟨hc32aa, hc32ab⟩ := and_t hc32a
     have hc32aa_ := qT hc32aa
     have hc32ab_ := qT hc32ab
     have hc32b_ := qT hc32b
     refine zD3 rfl ?_
     exact ⟨rfl, rfl⟩
    refine zA3 (zB2 (s := .bool _) (v := .bool (decide ((bytes.length : Int) ≤ 4096))) rfl (zE2 _) (fun hc33 => ?_) ?_)
    ·
     obtain ⟨hc33a, hc33b⟩ := and_t hc33
     obtain ⟨hc33aa, hc33ab⟩ := and_t hc33a
     have hc33aa_ := qT hc33aa
     have hc33ab_ := qT hc33ab
     have hc33b_ := qT hc33b
     refine zU7 (gvt hc33) rfl ?_
     exact ⟨rfl, rfl⟩
    refine stp (zG8 rfl rfl rfl ?_)
    refine qZ 1 ?_
    refine qG 2 ?_
    refine zA3 (zB2 (s := .bool _) (v := .bool (decide (size = 5))) rfl (zE3 _) (fun hc36 => ?_) ?_)
    ·
     have hc36_ := hc36
     try simp only [sb] at hc36_
     refine zD5 (gvt hc36) rfl ?_
     exact ⟨rfl, rfl⟩
    refine qG 1 ?_
    refine zA3 (zB2 (s := gv (!((((decide (size = 2)) && (decide ((words.length : Int) = 0))) && (decide ((kids.length : Int) = 0))) && (decide ((bytes.length : Int) ≤ 4096)))) (.bool (decide (size = 5)))) (b := true) (v := .int .i64 (bytes.length : Int)) rfl (zK1 _ _) (fun hc38 => ?_) ?_)
    ·
     obtain ⟨hc38a, hc38b⟩ := and_t hc38
     have hc38a_ := hc38a
     try simp only [sb] at hc38a_
     have hc38b_ := qT hc38b
     refine zD3 rfl ?_
     exact ⟨rfl, rfl⟩
    refine zA3 (zB2 (s := gv (!((((decide (size = 2)) && (decide ((words.length : Int) = 0))) && (decide ((kids.length : Int) = 0))) && (decide ((bytes.length : Int) ≤ 4096)))) (.bool (decide (size = 5)))) (b := true) (v := .bool (decide ((bytes.length : Int) = 0))) rfl (zK1 _ _) (fun hc39 => ?_) ?_)
    ·
     obtain ⟨hc39a, hc39b⟩ := and_t hc39
     have hc39a_ := hc39a
     try simp only [sb] at hc39a_
     have hc39b_ := qT hc39b
     refine zD5 (gvt hc39) rfl ?_
     exact ⟨rfl, rfl⟩
    refine zA3 (zB2 (s := .bool _) (v := .bool ((decide (size = 5)) && (decide ((bytes.length : Int) = 0)))) rfl (zE3 _) (fun hc40 => ?_) ?_)
    ·
     have hc40_ := hc40
     try simp only [sb] at hc40_
     refine qB2 hc40 (gvt hc40) rfl rfl ?_
     exact ⟨rfl, rfl⟩
    refine qG 1 ?_
    refine zA3 (zB2 (s := gv (!((((decide (size = 2)) && (decide ((words.length : Int) = 0))) && (decide ((kids.length : Int) = 0))) && (decide ((bytes.length : Int) ≤ 4096)))) (.bool ((decide (size = 5)) && (decide ((bytes.length : Int) = 0))))) (b := true) (v := .int .i64 (kids.length : Int)) rfl (zK1 _ _) (fun hc42 => ?_) ?_)
    ·
     obtain ⟨hc42a, hc42b⟩ := and_t hc42
     have hc42a_ := hc42a
     try simp only [sb] at hc42a_
     obtain ⟨hc42ba, hc42bb⟩ := and_t hc42b
     have hc42ba_ := qT hc42ba
     have hc42bb_ := qT hc42bb
     refine zD3 rfl ?_
     exact ⟨rfl, rfl⟩
    refine zA3 (zB2 (s := gv (!((((decide (size = 2)) && (decide ((words.length : Int) = 0))) && (decide ((kids.length : Int) = 0))) && (decide ((bytes.length : Int) ≤ 4096)))) (.bool ((decide (size = 5)) && (decide ((bytes.length : Int) = 0))))) (b := true) (v := .bool (decide ((kids.length : Int) = 0))) rfl (zK1 _ _) (fun hc43 => ?_) ?_)
    ·
     obtain ⟨hc43a, hc43b⟩ := and_t hc43
     have hc43a_ := hc43a
     try simp only [sb] at hc43a_
     obtain ⟨hc43ba, hc43bb⟩ := and_t hc43b
     have hc43ba_ := qT hc43ba
     have hc43bb_ := qT hc43bb
     refine zD5 (gvt hc43) rfl ?_
     exact ⟨rfl, rfl⟩
    refine zA3 (zB2 (s := .bool _) (v := .bool (((decide (size = 5)) && (decide ((bytes.length : Int) = 0))) && (decide ((kids.length : Int) = 0)))) rfl (zE3 _) (fun hc44 => ?_) ?_)
    ·
     have hc44_ := hc44
     try simp only [sb] at hc44_
     refine qB2 hc44 (gvt hc44) rfl rfl ?_
     exact ⟨rfl, rfl⟩
    refine qG 1 ?_
    refine zA3 (zB2 (s := gv (!((((decide (size = 2)) && (decide ((words.length : Int) = 0))) && (decide ((kids.length : Int) = 0))) && (decide ((bytes.length : Int) ≤ 4096)))) (.bool (((decide (size = 5)) && (decide ((bytes.length : Int) = 0))) && (decide ((kids.length : Int) = 0))))) (b := true) (v := .int .i64 (words.length : Int)) rfl (zK1 _ _) (fun hc46 => ?_) ?_)
    ·
     obtain ⟨hc46a, hc46b⟩ := and_t hc46
     have hc46a_ := hc46a
     try simp only [sb] at hc46a_
     obtain ⟨hc46ba, hc46bb⟩ := and_t hc46b
     obtain ⟨hc46baa, hc46bab⟩ := and_t hc46ba
     have hc46baa_ := qT hc46baa
     have hc46bab_ := qT hc46bab
     have hc46bb_ := qT hc46bb
     refine zD3 rfl ?_
     exact ⟨rfl, rfl⟩
    refine zA3 (zB2 (s := gv (!((((decide (size = 2)) && (decide ((words.length : Int) = 0))) && (decide ((kids.length : Int) = 0))) && (decide ((bytes.length : Int) ≤ 4096)))) (.bool (((decide (size = 5)) && (decide ((bytes.length : Int) = 0))) && (decide ((kids.length : Int) = 0))))) (b := true) (v := .bool (decide ((words.length : Int) ≤ 4096))) rfl (zK1 _ _) (fun hc47 => ?_) ?_)
    ·
     obtain ⟨hc47a, hc47b⟩ := and_t hc47
     have hc47a_ := hc47a
     try simp only [sb] at hc47a_
     obtain ⟨hc47ba, hc47bb⟩ := and_t hc47b
     obtain ⟨hc47baa, hc47bab⟩ := and_t hc47ba
     have hc47baa_ := qT hc47baa
     have hc47bab_ := qT hc47bab
     have hc47bb_ := qT hc47bb
     refine zU7 (gvt hc47) rfl ?_
     exact ⟨rfl, rfl⟩
    refine zA3 (zB2 (s := .bool _) (v := .bool ((((decide (size = 5)) && (decide ((bytes.length : Int) = 0))) && (decide ((kids.length : Int) = 0))) && (decide ((words.length : Int) ≤ 4096)))) rfl (zE3 _) (fun hc48 => ?_) ?_)
    ·
     have hc48_ := hc48
     try simp only [sb] at hc48_
     refine qB2 hc48 (gvt hc48) rfl rfl ?_
     exact ⟨rfl, rfl⟩
    refine stp (zH6 rfl rfl rfl ?_)
    refine qZ 1 ?_
    refine qG 2 ?_
    refine zA3 (zB2 (s := .bool _) (v := .bool (decide (size = 6))) rfl (zE3 _) (fun hc51 => ?_) ?_)
    ·
     have hc51_ := hc51
     try simp only [sb] at hc51_
     refine zD5 (gvt hc51) rfl ?_
     exact ⟨rfl, rfl⟩
    refine qG 1 ?_
    refine zA3 (zB2 (s := gv (!(((((decide (size = 2)) && (decide ((words.length : Int) = 0))) && (decide ((kids.length : Int) = 0))) && (decide ((bytes.length : Int) ≤ 4096))) || ((((decide (size = 5)) && (decide ((bytes.length : Int) = 0))) && (decide ((kids.length : Int) = 0))) && (decide ((words.length : Int) ≤ 4096))))) (.bool (decide (size = 6)))) (b := true) (v := .int .i64 (bytes.length : Int)) rfl (zK1 _ _) (fun hc53 => ?_) ?_)
    ·
     obtain ⟨hc53a, hc53b⟩ := and_t hc53
     have hc53a_ := hc53a
     try simp only [sb] at hc53a_
     have hc53b_ := qT hc53b
     refine zD3 rfl ?_
     exact ⟨rfl, rfl⟩
    refine zA3 (zB2 (s := gv (!(((((decide (size = 2)) && (decide ((words.length : Int) = 0))) && (decide ((kids.length : Int) = 0))) && (decide ((bytes.length : Int) ≤ 4096))) || ((((decide (size = 5)) && (decide ((bytes.length : Int) = 0))) && (decide ((kids.length : Int) = 0))) && (decide ((words.length : Int) ≤ 4096))))) (.bool (decide (size = 6)))) (b := true) (v := .bool (decide ((bytes.length : Int) = 0))) rfl (zK1 _ _) (fun hc54 => ?_) ?_)
    ·
     obtain ⟨hc54a, hc54b⟩ := and_t hc54
     have hc54a_ := hc54a
     try simp only [sb] at hc54a_
     have hc54b_ := qT hc54b
     refine zD5 (gvt hc54) rfl ?_
     exact ⟨rfl, rfl⟩
    refine zA3 (zB2 (s := .bool _) (v := .bool ((decide (size = 6)) && (decide ((bytes.length : Int) = 0)))) rfl (zE3 _) (fun hc55 => ?_) ?_)
    ·
     have hc55_ := hc55
     try simp only [sb] at hc55_
     refine qB2 hc55 (gvt hc55) rfl rfl ?_
     exact ⟨rfl, rfl⟩
    refine qG 1 ?_
    refine zA3 (zB2 (s := gv (!(((((decide (size = 2)) && (decide ((words.length : Int) = 0))) && (decide ((kids.length : Int) = 0))) && (decide ((bytes.length : Int) ≤ 4096))) || ((((decide (size = 5)) && (decide ((bytes.length : Int) = 0))) && (decide ((kids.length : Int) = 0))) && (decide ((words.length : Int) ≤ 4096))))) (.bool ((decide (size = 6)) && (decide ((bytes.length : Int) = 0))))) (b := true) (v := .int .i64 (words.length : Int)) rfl (zK1 _ _) (fun hc57 => ?_) ?_)
    ·
     obtain ⟨hc57a, hc57b⟩ := and_t hc57
     have hc57a_ := hc57a
     try simp only [sb] at hc57a_
     obtain ⟨hc57ba, hc57bb⟩ := and_t hc57b
     have hc57ba_ := qT hc57ba
     have hc57bb_ := qT hc57bb
     refine zD3 rfl ?_
     exact ⟨rfl, rfl⟩
    refine zA3 (zB2 (s := gv (!(((((decide (size = 2)) && (decide ((words.length : Int) = 0))) && (decide ((kids.length : Int) = 0))) && (decide ((bytes.length : Int) ≤ 4096))) || ((((decide (size = 5)) && (decide ((bytes.length : Int) = 0))) && (decide ((kids.length : Int) = 0))) && (decide ((words.length : Int) ≤ 4096))))) (.bool ((decide (size = 6)) && (decide ((bytes.length : Int) = 0))))) (b := true) (v := .bool (decide ((words.length : Int) = 0))) rfl (zK1 _ _) (fun hc58 => ?_) ?_)
    ·
     obtain ⟨hc58a, hc58b⟩ := and_t hc58
     have hc58a_ := hc58a
     try simp only [sb] at hc58a_
     obtain ⟨hc58ba, hc58bb⟩ := and_t hc58b
     have hc58ba_ := qT hc58ba
     have hc58bb_ := qT hc58bb
     refine zD5 (gvt hc58) rfl ?_
     exact ⟨rfl, rfl⟩
    refine zA3 (zB2 (s := .bool _) (v := .bool (((decide (size = 6)) && (decide ((bytes.length : Int) = 0))) && (decide ((words.length : Int) = 0)))) rfl (zE3 _) (fun hc59 => ?_) ?_)
    ·
     have hc59_ := hc59
     try simp only [sb] at hc59_
     refine qB2 hc59 (gvt hc59) rfl rfl ?_
     exact ⟨rfl, rfl⟩
    refine qG 1 ?_
    refine zA3 (zB2 (s := gv (!(((((decide (size = 2)) && (decide ((words.length : Int) = 0))) && (decide ((kids.length : Int) = 0))) && (decide ((bytes.length : Int) ≤ 4096))) || ((((decide (size = 5)) && (decide ((bytes.length : Int) = 0))) && (decide ((kids.length : Int) = 0))) && (decide ((words.length : Int) ≤ 4096))))) (.bool (((decide (size = 6)) && (decide ((bytes.length : Int) = 0))) && (decide ((words.length : Int) = 0))))) (b := true) (v := .int .i64 (kids.length : Int)) rfl (zK1 _ _) (fun hc61 => ?_) ?_)
    ·
     obtain ⟨hc61a, hc61b⟩ := and_t hc61
     have hc61a_ := hc61a
     try simp only [sb] at hc61a_
     obtain ⟨hc61ba, hc61bb⟩ := and_t hc61b
     obtain ⟨hc61baa, hc61bab⟩ := and_t hc61ba
     have hc61baa_ := qT hc61baa
     have hc61bab_ := qT hc61bab
     have hc61bb_ := qT hc61bb
     refine zD3 rfl ?_
     exact ⟨rfl, rfl⟩
    refine zA3 (zB2 (s := gv (!(((((decide (size = 2)) && (decide ((words.length : Int) = 0))) && (decide ((kids.length : Int) = 0))) && (decide ((bytes.length : Int) ≤ 4096))) || ((((decide (size = 5)) && (decide ((bytes.length : Int) = 0))) && (decide ((kids.length : Int) = 0))) && (decide ((words.length : Int) ≤ 4096))))) (.bool (((decide (size = 6)) && (decide ((bytes.length : Int) = 0))) && (decide ((words.length : Int) = 0))))) (b := true) (v := .bool (decide ((kids.length : Int) ≤ 4096))) rfl (zK1 _ _) (fun hc62 => ?_) ?_)
    ·
     obtain ⟨hc62a, hc62b⟩ := and_t hc62
     have hc62a_ := hc62a
     try simp only [sb] at hc62a_
     obtain ⟨hc62ba, hc62bb⟩ := and_t hc62b
     obtain ⟨hc62baa, hc62bab⟩ := and_t hc62ba
     have hc62baa_ := qT hc62baa
     have hc62bab_ := qT hc62bab
     have hc62bb_ := qT hc62bb
     refine zU7 (gvt hc62) rfl ?_
     exact ⟨rfl, rfl⟩
    refine zA3 (zB2 (s := .bool _) (v := .bool ((((decide (size = 6)) && (decide ((bytes.length : Int) = 0))) && (decide ((words.length : Int) = 0))) && (decide ((kids.length : Int) ≤ 4096)))) rfl (zE3 _) (fun hc63 => ?_) ?_)
    ·
     have hc63_ := hc63
     try simp only [sb] at hc63_
     refine qB2 hc63 (gvt hc63) rfl rfl ?_
     exact ⟨rfl, rfl⟩
    refine stp (zH6 rfl rfl rfl ?_)
    refine qZ 2 ?_
    exact ⟨zC6 ⟨rfl, rfl, rfl, rfl, congrArg Value.bool (by first | exact yA4 h2 | exact yA3 h1 h2), trivial⟩, hc4, G⟩
   ·
    replace h2 := qF h2
    refine zX6 ?_
    exact ⟨zC6 ⟨rfl, rfl, rfl, rfl, congrArg Value.bool (by first | exact yA4 h2 | exact yA3 h1 h2), trivial⟩, hc4, G⟩
  ·-- behind them
   clear hc4
   clear G
   rintro e_ w64 ⟨⟨e65, rfl⟩, hc4, G⟩
   refine qZ 4 ?_
   refine stp (zN8 rfl ?_)
   refine qZ 1 ?_
   refine qG 1 ?_
   refine zA3 (zB2 (s := .bool _) (v := .bool (decide ((left : Int) = 0))) rfl (zE3 _) (fun hc67 => ?_) ?_)
   ·
    have hc67_ := hc67
    try simp only [sb] at hc67_
    refine zD5 (gvt hc67) rfl ?_
    exact ⟨rfl, rfl⟩
   refine stp (zH6 rfl rfl rfl ?_)
   refine zA6 ?_
   refine zA2 (b := ((!((Nd.mk kind size words bytes kids).own)) || (decide ((left : Int) = 0)))) rfl (fun h4 => ?_) (fun h4 => ?_)
   ·
    simp only [sb] at h4
    refine qZ 5 ?_
    refine ret1 (zA1 (v := .bool false) rfl) ⟨?_, G⟩
    rcases h4 with h | h
    ·simp [Nd.right, h]
    ·simp [Nd.right, h1, show left = 0 from by omega]
   ·
    simp only [sb] at h4
    refine qZ 7 ?_
    refine zF5 (fun m_ e_ w_ => ∃ (k : Nat), m_ = kids.length - k ∧ Fr [(1, .int .i64 (left : Int)), (2, .pointer (some ⟨b1, 0, none⟩)), (7, .int .i64 (kids.length : Int)), (9, .int .i64 (k : Int))] e_ ∧ (k ≤ kids.length) ∧ (Nd.rights (kids.take k) (left - 1) = true) ∧ (w_.heap[b1]? = some (.cells #[.int .i64 kind, .int .i64 size, .slice aw words.length cw, .slice ab bytes.length cb, .slice ak kids.length ck] 48 (0, 0))) ∧ Grow w w_) _ ⟨0, rfl, zC6 ⟨rfl, rfl, rfl, rfl, trivial⟩, by omega, by simp [Nd.rights], hc4, G⟩ ?_
    clear hc4
    clear G
    rintro m_ e_ w68 ⟨k, rfl, ⟨e69, rfl⟩, hk2, hyes, hc4, G⟩
    refine qZ 5 ?_
    refine stp (zF6 rfl rfl ?_)
    refine zA6 ?_
    refine zA2 (b := (decide ((k : Int) < (kids.length : Int)))) rfl (fun hlt => ?_) (fun hlt => ?_)
    ·
     replace hlt := qT hlt
     have hi : k < kids.length := by omega
     have hat := KidsR.at_ k kids[k] hKs (by simp [hi])
     have hsz := Nd.szs_at kids k kids[k] (by simp [hi])
     refine qZ 8 ?_
     refine stp (zC8 (RK.grow G) rfl rfl ?_ ?_); omega
     refine stp (zL5 (RK.grow G) rfl (by decide) (by rw [RK.len]; omega) rfl ?_)
     refine qZ 1 ?_
     refine stp (zM9 rfl rfl ?_ ?_); constructor <;> omega
     refine stp (zA4 (v := .bool (kids[k].right (left - 1))) rfl ((by have h := ih_ _ (hat.grow G) (left := left - 1) (by omega) (by simp only [Nd.sz] at hm_; omega); rw [← show ((left : Int) - 1) = ((left - 1 : Nat) : Int) from by omega] at h; exact h)) ?_)
     intro w70 g71
     replace hc4 := g71.heap hc4
     replace G := G.tr g71
     clear g71
     refine stp (zN8 rfl ?_)
     refine zA6 ?_
     refine zA2 (b := (!(kids[k].right (left - 1)))) rfl (fun h7 => ?_) (fun h7 => ?_)
     ·
      simp only [sb] at h7
      refine qZ 5 ?_
      refine ret1 (zA1 (v := .bool false) rfl) ⟨?_, G⟩
      have := qD9 hi h7
      simp [Nd.right, this]
     ·
      simp only [sb] at h7
      refine qZ 3 ?_
      refine stp (zB5 rfl rfl ?_ ?_); constructor <;> omega
      refine qZ 2 ?_
      refine ⟨_, ?_, k + 1, rfl, zC6 ⟨rfl, rfl, rfl, rfl, trivial⟩, by omega, (by rw [List.take_add_one, List.getElem?_eq_getElem hi, qB0, hyes]; simp [Nd.rights, h7]), hc4, G⟩
      omega
    ·
     replace hlt := qF hlt
     have hk2 : k = kids.length := by omega
     subst hk2
     rw [List.take_length] at hyes
     refine qZ 6 ?_
     refine ret1 (zA1 (v := .bool true) rfl) ⟨?_, G⟩
     simp [Nd.right, h4, h1, hyes]
     omega
theorem qR3 (w : World) {c : List Value} {t : Nd} (T : NodeR w c t) : zB6 Tryz.prog 41 #[.agg c.toArray] w (.bool (t.right 32)) := by
 have h5 := T.len
 obtain ⟨x0, x1, x2, x3, x4, rfl⟩ := five h5
 have G := Grow.rfl' w
 refine zA8 Tryz.func41 Tryz.ntmps41 Tryz.results41 rfl rfl ?_
 refine qZ 2 ?_
 refine stp ?_
 refine qC ?_
 intro b1 w2 hb3 hc4 g5
 have hge6 := Nat.le_trans G.size hb3
 replace G := G.tr g5
 clear g5 hb3
 refine qZ 5 ?_
 refine stp (zA4 (v := .bool (t.right 32)) rfl (yE7 _ _ (T.grow G) (left := 32) (by omega) (Nat.le_refl _)) ?_)
 intro w7 g8
 replace hc4 := g8.heap hc4
 replace G := G.tr g8
 clear g8
 refine qZ 3 ?_
 refine ret1 (zA1 (v := .bool (t.right 32)) rfl) ⟨?_, G⟩
 rfl
theorem zP3 (w : World) {c : List Value} {t : Nd} (T : NodeR w c t) (off : Int) (hk12 : t.kind = 1 ∨ t.kind = 2) : zB6 Tryz.prog 76 #[.agg c.toArray, .int .i64 off] w (.int .u64 (t.near off)) := by
 obtain @⟨kind, size, words, bytes, kids, ws, bs, ks, kc, hk, hs, hW, hwr, hB, hbr, hK, hKs⟩ := T
 obtain ⟨aw, cw, rfl, hcw, hcw2, RW⟩ := hW
 obtain ⟨ab, cb, rfl, hcb, hcb2, RB⟩ := hB
 obtain ⟨ak, ck, rfl, hck, hck2, RK⟩ := hK
 have lw := RW.lim
 have lb := RB.lim
 have lk := RK.lim
 simp only [inR] at hk hs
 simp only [Nd.kind] at hk12
 have G := Grow.rfl' w
 refine zA8 Tryz.func76 Tryz.ntmps76 Tryz.results76 rfl rfl ?_
 refine qZ 2 ?_
 refine stp ?_
 refine qC ?_
 intro b1 w2 hb3 hc4 g5
 have hge6 := Nat.le_trans G.size hb3
 replace G := G.tr g5
 clear g5 hb3
 refine qO 13 ?_
 refine stp (zA9 (v := .agg #[.int .i64 (kind), .int .i64 (off), .int .i64 ((words.length : Int)), .int .i64 ((kids.length : Int)), .int .i64 (0), .int .i64 (0), .int .i64 (0), .bool false]) (fun w => by kernel_rfl) ?_)
 refine stp (zA7 ?_)
 intro b7 w8 hb9 hc10 g11
 refine stn (qS hc10 ?_)
 intro w12 hc13 u14
 have g15 := g11.upd u14 hb9
 have hge16 := Nat.le_trans G.size hb9
 have ne17 := qN hc4 hb9
 replace hc4 := g15.heap hc4
 replace G := G.tr g15
 clear u14 g11 hb9 hc10
 refine qZ 6 ?_
 refine stp ?_
 refine qC ?_
 refine zA6 ?_
 refine zA2 rfl (fun k2 => ?_) (fun k2 => ?_)
 ·
  first | replace k2 := qT k2 | replace k2 := qF k2 | skip
  refine qO 10 ?_
  refine stp ?_
  (first | (refine zB5 rfl rfl ?_ ?_; (constructor <;> omega)) | refine zG6 rfl rfl ?_)
  refine qZ 3 ?_
  refine stp ?_
  (first | (refine zB5 rfl rfl ?_ ?_; (constructor <;> omega)) | refine zG6 rfl rfl ?_)
  refine stp (zA9 (v := .agg #[.int .i64 (2), .int .i64 (off), .int .i64 (0), .int .i64 (0), .int .i64 (size), .int .i64 (((words.length : Int) + kids.length + bytes.length)), .int .i64 (0), .bool false]) (fun w => by kernel_rfl) ?_)
  refine stn (qS hc13 ?_)
  intro w21 hc22 u23
  replace hc4 := u23.heap hc4 ne17
  replace G := G.upd u23 hge16
  clear u23 hc13
  refine qZ 3 ?_
  refine stp ?_
  (first | refine zD8 rfl (by assumption) (by rfl) ?_ | refine zI0 rfl (by assumption) (by rfl) (by rfl) ?_)
  refine stp (zA4 rfl (zK0 _ ⟨2, off, 0, 0, size, ((words.length : Int) + kids.length + bytes.length), 0, false⟩) ?_)
  intro w24 g25
  replace hc4 := g25.heap hc4
  replace hc22 := g25.heap hc22
  replace G := G.tr g25
  clear g25
  refine qO 1 ?_
  refine stp (zC9 rfl rfl ?_)
  refine stp (zC9 rfl rfl ?_)
  refine qO 9 ?_
  refine ret1 (zB1 rfl) ⟨?_, G⟩
  subst k2
  simp [Nd.near, Nd.ptr]
 ·
  first | replace k2 := qT k2 | replace k2 := qF k2 | skip
  have k1 : kind = 1 := by omega
  refine qZ 3 ?_
  refine stp ?_
  (first | refine zD8 rfl (by assumption) (by rfl) ?_ | refine zI0 rfl (by assumption) (by rfl) (by rfl) ?_)
  refine stp (zA4 rfl (zK0 _ ⟨kind, off, (words.length : Int), (kids.length : Int), 0, 0, 0, false⟩) ?_)
  intro w26 g27
  replace hc4 := g27.heap hc4
  replace hc13 := g27.heap hc13
  replace G := G.tr g27
  clear g27
  refine qO 1 ?_
  refine stp (zC9 rfl rfl ?_)
  refine stp (zC9 rfl rfl ?_)
  refine qO 9 ?_
  refine ret1 (zB1 rfl) ⟨?_, G⟩
  simp [Nd.near, Nd.ptr, k1]
theorem qK9 (w : World) (seg at_ : Int) : zB6 Tryz.prog 78 #[.int .i64 seg, .int .i64 at_] w (.int .u64 (farP seg at_)) := by
 have G := Grow.rfl' w
 refine zA8 Tryz.func78 Tryz.ntmps78 Tryz.results78 rfl rfl ?_
 refine qO 8 ?_
 refine stp (zA9 (v := .agg #[.int .i64 (3), .int .i64 (at_), .int .i64 (0), .int .i64 (0), .int .i64 (0), .int .i64 (0), .int .i64 (seg), .bool false]) (fun w => by kernel_rfl) ?_)
 refine stp (zA4 rfl (zK0 _ ⟨3, at_, 0, 0, 0, 0, seg, false⟩) ?_)
 intro w1 g2
 replace G := G.tr g2
 clear g2
 refine qO 1 ?_
 refine stp (zC9 rfl rfl ?_)
 refine stp (zC9 rfl rfl ?_)
 refine qO 9 ?_
 exact ret1 (zB1 rfl) ⟨rfl, G⟩
theorem zS2 (w : World) {base q i : Nat} {so : Value} {segs : List Value} {A : List (List Int)} {lim x : Int} {full : Bool} (h : OwnA 37 23 w base so segs A) (hbw : base ≤ w.heap.size) (hS : Sml A) (hq : q < A.length) (hi : i < len2 A q) : Calls Tryz.prog 75 #[.agg #[so, .int .i64 lim, .bool full], .int .i64 (q : Int), .int .i64 (i : Int), .int .u64 x] w (Ret fun v w' => LayV 37 23 w' base lim v ⟨setP A q i x, full⟩ ∧ Grow w w') := by
 have hA := hS.len
 have hAs := hS.all
 have hAq := hS.seg q
 have hsl := h.len
 obtain ⟨ado, co, sa, sc, rfl, hco, hco2, RO, hsf⟩ := h.fn (by omega)
 obtain ⟨hu, owu⟩ := hsf q hq
 have G := Grow.rfl' w
 refine zC2 Tryz.func75 Tryz.ntmps75 Tryz.results75 rfl rfl ?_
 refine qZ 2 ?_
 refine stp ?_
 refine qC ?_
 intro b1 w2 hb3 hc4 g5
 have hge6 := Nat.le_trans G.size hb3
 replace G := G.tr g5
 clear g5 hb3
 refine stp (zA7 ?_)
 intro b7 w8 hb9 hc10 g11
 refine qZ 9 ?_
 have hge12 := Nat.le_trans G.size hb9
 have ne13 := qN hc4 hb9
 replace hc4 := g11.heap hc4
 replace G := G.tr g11
 clear g11 hb9
 refine qZ 1 ?_
 refine stp ?_
 have own00 := World.ownsRow_nil w8 w.heap.size 37 1
 refine zG1 rfl rfl rfl rfl own00 ⟨_, co, rfl, hco, hco2, RO.grow G⟩ h.one (by simp only [maxLen]; omega) (by omega) G.size ?_
 intro v14 w15 own5 gr6
 have g6 := qM5 gr6
 replace hc4 := g6.heap hc4
 replace hc10 := g6.heap hc10
 replace G := G.tr g6
 clear g6 gr6 own00
 rw [Nat.zero_add, List.nil_append] at own5
 obtain ⟨g5, c5, cur5, rfl, hg5b, hg5, hc51, hc52, hc53, hc54⟩ := zT5 own5 (by omega)
 have R5 := zI3 own5 (by omega)
 obtain ⟨_, _, h5_, _, _, R5⟩ := R5
 cases h5_
 refine qZ 11 ?_
 refine stp (zC8 R5 rfl rfl ?_ ?_); omega
 refine stp (zC5 (v := .slice (sa q) (len2 A q) (sc q)) (m := 0) R5 rfl (by rw [Nat.mul_one]; exact hu) ?_)
 refine stp ?_
 have own00 := World.ownsRow_nil w15 w.heap.size 23 1
 refine zG1 rfl rfl rfl rfl own00 (zI3 (zB7 owu G) (by omega)) (fun q_ hq_ => by obtain ⟨z, _, rfl⟩ := List.mem_map.1 hq_; rfl) (by simp only [maxLen]; omega) (by omega) G.size ?_
 intro v16 w17 own6 gr6
 have g6 := qM5 gr6
 replace hc4 := g6.heap hc4
 replace hc10 := g6.heap hc10
 replace own5 := zB7 own5 g6
 replace hg5 := g6.heap hg5
 replace R5 := R5.grow g6
 replace G := G.tr g6
 clear g6 gr6 own00
 rw [Nat.zero_add, List.nil_append] at own6
 obtain ⟨g6, c6, cur6, rfl, hg6b, hg6, hc61, hc62, hc63, hc64⟩ := zT5 own6 (by omega)
 refine qZ 2 ?_
 have n56 : g5 ≠ g6 := fun he => by rw [he, hg6] at hg5; simp at hg5
 have m4 : g6 ≠ b1 := fun he => by rw [he, hc4] at hg6; simp at hg6
 have p4 : g5 ≠ b1 := fun he => by rw [he, hc4] at hg5; simp at hg5
 have m8 : g6 ≠ b7 := fun he => by rw [he, hc10] at hg6; simp at hg6
 have p8 : g5 ≠ b7 := fun he => by rw [he, hc10] at hg5; simp at hg5
 refine qZ 5 ?_
 refine stp ?_
 refine zH2 (b := g6) (o := 0) rfl rfl (by omega) (by omega) ?_
 rw [Int.toNat_natCast, Nat.zero_add, Nat.mul_one]
 refine stn (zB9 (v := .int .u64 x) rfl rfl rfl hg6 (Nat.ble_eq_true_of_le (by omega)) rfl ?_)
 intro w7 hs6 u7
 replace own6 := zT6 (i := i) (x := .int .u64 x) own6 hg6 hs6 (by simp)
 replace own5 := zG5 own5 u7 (zF3 own5 hg6 (by decide))
 replace hg5 := u7.heap hg5 n56
 replace hc4 := u7.heap hc4 m4.symm
 replace hc10 := u7.heap hc10 m8.symm
 replace G := G.upd u7 hg6b
 clear hg6
 have hg6 := hs6
 clear hs6 R5
 refine qZ 6 ?_
 refine stp ?_
 refine zH2 (b := g5) (o := 0) rfl rfl (by omega) (by omega) ?_
 rw [Int.toNat_natCast, Nat.zero_add, Nat.mul_one]
 refine stn (zB9 (v := .slice (some ⟨g6, 0, none⟩) (len2 A q) c6) rfl rfl rfl hg5 (Nat.ble_eq_true_of_le (by omega)) rfl ?_)
 intro w8 hs5 u8
 replace own5 := zT6 (i := q) (x := .slice (some ⟨g6, 0, none⟩) (len2 A q) c6) own5 hg5 hs5 (by simp)
 replace own6 := zG5 own6 u8 (zF3 own6 hg5 (by decide))
 replace hg6 := u8.heap hg6 n56.symm
 replace hc4 := u8.heap hc4 p4.symm
 replace hc10 := u8.heap hc10 p8.symm
 replace G := G.upd u8 hg5b
 clear hg5
 have hg5 := hs5
 clear hs5
 refine qZ 5 ?_
 refine stn (zB9 (v := .slice (some ⟨g5, 0, none⟩) A.length c5) rfl rfl (by rfl) hc4 (by rfl) (by rfl) ?_)
 intro w18 hc19 u20
 replace own5 := zG5 own5 u20 (zF3 own5 hc4 (by decide))
 replace own6 := zG5 own6 u20 (zF3 own6 hc4 (by decide))
 replace hc10 := u20.heap hc10 (by omega)
 replace G := G.upd u20 hge6
 clear u20 hc4
 refine qZ 4 ?_
 refine stn (qS hc10 ?_)
 intro w21 hc22 u23
 replace own5 := zG5 own5 u23 (zF3 own5 hc10 (by decide))
 replace own6 := zG5 own6 u23 (zF3 own6 hc10 (by decide))
 replace hc19 := u23.heap hc19 (by omega)
 replace G := G.upd u23 hge12
 clear u23 hc10
 refine qZ 2 ?_
 have hcp := OwnA.copy (q := q) (u := .slice (some ⟨g6, 0, none⟩) (len2 A q) c6) (ws := (A.getD q []).set i x) (so' := .slice (some ⟨g5, 0, none⟩) A.length c5) h hbw G (Nat.le_of_lt hq) (by rw [List.length_set, zJ1, List.map_set]; exact own6) (by have e1 : growB A q = A := (by unfold growB; rw [if_neg (by omega)]); have e2 : growV segs q = segs := (by unfold growV; rw [if_neg (by omega)]); rw [e1, e2]; exact zT3 own5 hbw)
 rw [show growB A q = A from by unfold growB; rw [if_neg (by omega)]] at hcp
 refine ret1 (zA5 rfl hc22 (by rfl)) ⟨⟨_, _, rfl, hcp⟩, G⟩
theorem zZ1 (w : World) {base q : Nat} {so lv : Value} {segs : List Value} {A : List (List Int)} {l : List Int} {lim : Int} {full : Bool} (h : OwnA 37 23 w base so segs A) (hbw : base ≤ w.heap.size) (hS : Sml A) (hq : q ≤ A.length) (lR : Row w 1 lv l.length (zJ1 l)) (hl : l.length ≤ 10000) : Calls Tryz.prog 77 #[.agg #[so, .int .i64 lim, .bool full], .int .i64 (q : Int), lv] w (Ret fun v w' => LayV 37 23 w' base lim v (zO3 lim ⟨A, full⟩ q l) ∧ Grow w w') := by
 have hA := hS.len
 have hAs := hS.all
 have hAq := hS.seg q
 have hsl := h.len
 obtain ⟨ado, co, sa, sc, rfl, hco, hco2, RO, hsf⟩ := h.fn (by omega)
 obtain ⟨adu, cu, hu, owu⟩ := h.growV hq
 obtain ⟨adl, cl, rfl, hcl, hcl2, RL⟩ := lR
 have hgl := qQ0 (q := q) hsl
 have hgb := zQ7 A q
 have G := Grow.rfl' w
 refine zC2 Tryz.func77 Tryz.ntmps77 Tryz.results77 rfl rfl ?_
 refine qZ 2 ?_
 refine stp ?_
 refine qC ?_
 intro b1 w2 hb3 hc4 g5
 have hge6 := Nat.le_trans G.size hb3
 replace G := G.tr g5
 clear g5 hb3
 refine stp (zA7 ?_)
 intro b7 w8 hb9 hc10 g11
 refine qZ 9 ?_
 have hge12 := Nat.le_trans G.size hb9
 have ne13 := qN hc4 hb9
 replace hc4 := g11.heap hc4
 replace G := G.tr g11
 clear g11 hb9
 refine qZ 1 ?_
 refine stp ?_
 have own00 := World.ownsRow_nil w8 w.heap.size 37 1
 refine zG1 rfl rfl rfl rfl own00 ⟨_, co, rfl, hco, hco2, RO.grow G⟩ h.one (by simp only [maxLen]; omega) (by omega) G.size ?_
 intro v14 w15 own5 gr6
 have g6 := qM5 gr6
 replace hc4 := g6.heap hc4
 replace hc10 := g6.heap hc10
 replace G := G.tr g6
 clear g6 gr6 own00
 rw [Nat.zero_add, List.nil_append] at own5
 obtain ⟨ad5, c5, rfl, hc5⟩ := zR9 own5
 refine qZ 2 ?_
 refine qK0 (fun e_ w_ => ∃ (v5 : Value), Fr [(1, .int .i64 (q : Int)), (2, .slice adl l.length cl), (3, .pointer (some ⟨b1, 0, none⟩)), (6, .pointer (some ⟨b7, 0, none⟩)), (7, v5)] e_ ∧ (w_.heap[b1]? = some (.cells #[.slice ado A.length co, .int .i64 lim, .bool full] 99 (0, 0))) ∧ (w_.heap[b7]? = some (.cells #[.slice none 0 0, .int .i64 0, .bool false] 99 (0, 0))) ∧ (w_.ownsRow w.heap.size 37 1 v5 (growB A q).length (growV segs q)) ∧ Grow w w_) ?_ ?_
 ·-- the parts
  refine qZ 5 ?_
  refine stp (zD5 rfl rfl ?_)
  refine zA6 ?_
  refine zA2 (b := (decide ((q : Int) = (A.length : Int)))) rfl (fun hq0 => ?_) (fun hq0 => ?_)
  ·
   replace hq0 := qT hq0
   have hqA : q = A.length := by omega
   refine qZ 2 ?_
   refine stp (zC3 (cs := #[.slice none 0 0]) (el := 37) (fun w => by kernel_rfl) ?_)
   intro bs16 w17 hb18 hc19 g20
   have hge21 := Nat.le_trans G.size hb18
   have ne22 := qN hc4 hb18
   have ne23 := qN hc10 hb18
   replace hc4 := g20.heap hc4
   replace hc10 := g20.heap hc10
   replace own5 := zB7 own5 g20
   replace G := G.tr g20
   clear g20
   refine stp (zG1 rfl rfl rfl rfl own5 (Row.of_block (n := 1) hc19 rfl rfl (by omega)) (fun q_ hq_ => by simp at hq_; subst hq_; rfl) (by simp only [maxLen]; omega) (by omega) G.size ?_)
   intro v24 w25 own6 gr6
   replace G := G.grown gr6 (zH8 own5)
   replace hc4 := zI1 gr6 hc4 (zF3 own5 hc4 (by decide))
   replace hc10 := zI1 gr6 hc10 (zF3 own5 hc10 (by decide))
   refine stp (zJ5 (v := v24) rfl ?_)
   refine zA6 ?_
   have e1 : (growB A q).length = A.length + 1 := by rw [hgb, if_pos hqA]
   have e2 : growV segs q = segs ++ [.slice none 0 0] := by unfold growV; rw [if_pos (by omega)]
   have own6' : w25.ownsRow w.heap.size 37 1 v24 (growB A q).length (growV segs q) := by rw [e1, e2]; exact own6
   exact ⟨v24, zC6 ⟨rfl, rfl, rfl, rfl, rfl, trivial⟩, hc4, hc10, own6', G⟩
  ·
   replace hq0 := qF hq0
   have hqA : ¬ q = A.length := by omega
   refine zX6 ?_
   have e1 : (growB A q).length = A.length := by rw [hgb, if_neg hqA]
   have e2 : growV segs q = segs := by unfold growV; rw [if_neg (by omega)]
   have own5' : w15.ownsRow w.heap.size 37 1 (.slice ad5 A.length c5) (growB A q).length (growV segs q) := by rw [e1, e2]; exact own5
   exact ⟨_, zC6 ⟨rfl, rfl, rfl, rfl, rfl, trivial⟩, hc4, hc10, own5', G⟩
 ·-- behind them
  clear hc4 hc10 own5
  clear G
  rintro e_ w26 ⟨v5, ⟨e27, rfl⟩, hc4, hc10, own5, G⟩
  have hqB := (qB1 hq).1
  have hgb2 := (qB1 hq).2
  obtain ⟨g5, c5, cur5, rfl, hg5b, hg5, hc51, hc52, hc53, hc54⟩ := zT5 own5 (by omega)
  have R5 := zI3 own5 (by omega)
  obtain ⟨_, _, h5_, _, _, R5⟩ := R5
  cases h5_
  refine qZ 9 ?_
  refine stp (zC8 R5 rfl rfl ?_ ?_); omega
  refine stp (zC5 (v := .slice adu (len2 A q) cu) (m := 0) R5 rfl (by rw [Nat.mul_one]; exact hu) ?_)
  refine stp ?_
  have own00 := World.ownsRow_nil w26 w.heap.size 23 1
  refine zG1 rfl rfl rfl rfl own00 (zI3 (zB7 owu G) (by omega)) (fun q_ hq_ => by obtain ⟨z, _, rfl⟩ := List.mem_map.1 hq_; rfl) (by simp only [maxLen]; omega) (by omega) G.size ?_
  intro v28 w29 own6 gr6
  have g6 := qM5 gr6
  replace hc4 := g6.heap hc4
  replace hc10 := g6.heap hc10
  replace own5 := zB7 own5 g6
  replace hg5 := g6.heap hg5
  replace R5 := R5.grow g6
  replace G := G.tr g6
  clear g6 gr6 own00
  rw [Nat.zero_add, List.nil_append] at own6
  refine stp (zJ5 (v := v28) rfl ?_)
  refine qZ 3 ?_
  refine stp (zH5 (v := v28) rfl ?_)
  refine qZ 1 ?_
  refine stp ?_
  clear R5
  refine zG1 rfl rfl rfl rfl own6 ⟨_, cl, rfl, hcl, hcl2, RL.grow G⟩ (fun q_ hq_ => by obtain ⟨z, _, rfl⟩ := List.mem_map.1 hq_; rfl) (by simp only [maxLen]; omega) (by omega) G.size ?_
  intro v30 w31 own7 gr6
  replace G := G.grown gr6 (zH8 own6)
  replace hc4 := zI1 gr6 hc4 (zF3 own6 hc4 (by decide))
  replace hc10 := zI1 gr6 hc10 (zF3 own6 hc10 (by decide))
  replace own5 := yA5 own5 own6 (by decide) gr6
  replace hg5 := zI1 gr6 hg5 (zF3 own6 hg5 (by decide))
  clear own6 gr6
  have own7' : w31.ownsRow w.heap.size 23 1 v30 (A.getD q [] ++ l).length (zJ1 (A.getD q [] ++ l)) := by rw [List.length_append, zJ1, List.map_append]; exact own7
  clear own7
  obtain ⟨ad7, c7, rfl, hc7⟩ := zR9 own7'
  refine qZ 7 ?_
  refine stp ?_
  refine zH2 (b := g5) (o := 0) rfl rfl (by omega) (by omega) ?_
  rw [Int.toNat_natCast, Nat.zero_add, Nat.mul_one]
  refine stn (zB9 (v := .slice ad7 (A.getD q [] ++ l).length c7) rfl rfl rfl hg5 (Nat.ble_eq_true_of_le (by omega)) rfl ?_)
  intro w8 hs5 u8
  replace own5 := zT6 (i := q) (x := .slice ad7 (A.getD q [] ++ l).length c7) own5 hg5 hs5 (by simp)
  replace own7' := zG5 own7' u8 (zF3 own7' hg5 (by decide))
  replace hc4 := u8.heap hc4 (fun he_ => by rw [he_, hg5] at hc4; simp at hc4)
  replace hc10 := u8.heap hc10 (fun he_ => by rw [he_, hg5] at hc10; simp at hc10)
  replace G := G.upd u8 hg5b
  clear hg5 hs5
  have hcp := OwnA.copy (q := q) (u := .slice ad7 (A.getD q [] ++ l).length c7) (ws := A.getD q [] ++ l) (so' := .slice (some ⟨g5, 0, none⟩) (growB A q).length c5) h hbw G hq own7' (zT3 own5 hbw)
  have hgA : (growB A q).set q (A.getD q [] ++ l) = zM2 A q l := by unfold zM2; rw [qC9]
  rw [hgA] at hcp
  have hnr := Near.more A q l hq
  have hS9 : ∀ s ∈ zM2 A q l, s.length ≤ 100000 := by
   intro s hm
   obtain ⟨j, hj, rfl⟩ := List.getElem_of_mem hm
   have h1_ := hnr.seg j
   have h2_ := hS.seg j
   rw [len2, zE5 hj] at h1_
   omega
  have hlen9 : (growB A q).length = (zM2 A q l).length := by rw [zK7, zQ7]
  clear own5 own7'
  refine qZ 5 ?_
  refine stn (zB9 (v := .slice (some ⟨g5, 0, none⟩) ((growB A q).length) c5) rfl rfl (by rfl) hc4 (by rfl) (by rfl) ?_)
  intro w32 hc33 u34
  replace hc10 := u34.heap hc10 ne13.symm
  replace hcp := hcp.upd u34 hc4 (by decide) (by decide)
  replace G := G.upd u34 hge6
  clear u34 hc4
  refine qZ 6 ?_
  refine qG 4 ?_
  refine zA3 (zB2 (s := .bool _) (v := .bool (decide (((A.getD q [] ++ l).length : Int) > lim))) rfl (zE3 _) (fun hc39 => ?_) ?_)
  ·
   have hc39_ := hc39
   try simp only [sb] at hc39_
   refine zN7 (gvt hc39) (gvt hc39) ?_
   exact ⟨rfl, rfl⟩
  refine stp (zH6 rfl rfl rfl ?_)
  refine qZ 1 ?_
  refine qG 2 ?_
  refine zA3 (zB2 (s := .bool _) (v := .bool (decide (((growB A q).length : Int) > 16))) rfl (zE3 _) (fun hc42 => ?_) ?_)
  ·
   have hc42_ := hc42
   try simp only [sb] at hc42_
   refine zN7 (gvt hc42) rfl ?_
   exact ⟨rfl, rfl⟩
  refine stp (zH6 rfl rfl rfl ?_)
  refine qZ 1 ?_
  refine qG 1 ?_
  refine zA3 (zX8 (s := .bool ((full || (decide (((A.getD q [] ++ l).length : Int) > lim))) || (decide (((growB A q).length : Int) > 16)))) (b := false) (v := .int .i64 (zC4 (zM2 A q l))) rfl (zE3 _) (fun hc44 => ?_) ?_)
  ·
   have hc44_ := hc44
   try simp only [sb] at hc44_
   exact zM7 (l := ([.slice (some ⟨g5, 0, none⟩) ((growB A q).length) c5] : List Value)) rfl (by show ([gv (!((full || (decide (((A.getD q [] ++ l).length : Int) > lim))) || (decide (((growB A q).length : Int) > 16)))) (.slice (some ⟨g5, 0, none⟩) ((growB A q).length) c5)] : List Value) = _; rw [gvt hc44]) (qR1 _ (hcp.rowat (by omega)).2 hlen9.symm (hcp.rows hS9) (by omega) hS9) (fun w2_ g2_ => ⟨rfl, g2_⟩)
  intro w45 g46
  replace hc10 := g46.heap hc10
  replace hcp := hcp.grow g46
  replace hc33 := g46.heap hc33
  replace G := G.tr g46
  clear g46
  refine zA3 (zB2 (s := .bool _) (v := .bool (decide ((zC4 (zM2 A q l)) > 4096))) rfl (zE3 _) (fun hc47 => ?_) ?_)
  ·
   have hc47_ := hc47
   try simp only [sb] at hc47_
   refine zN7 (gvt hc47) rfl ?_
   exact ⟨rfl, rfl⟩
  refine stp (zH6 rfl rfl rfl ?_)
  refine qZ 1 ?_
  refine stn (zB9 (v := .bool (((full || (decide (((A.getD q [] ++ l).length : Int) > lim))) || (decide (((growB A q).length : Int) > 16))) || (decide ((zC4 (zM2 A q l)) > 4096)))) rfl rfl (by rfl) hc33 (by rfl) (by rfl) ?_)
  intro w48 hc49 u50
  replace hc10 := u50.heap hc10 ne13.symm
  replace hcp := hcp.upd u50 hc33 (by decide) (by decide)
  replace G := G.upd u50 hge6
  clear u50 hc33
  refine qZ 4 ?_
  refine stn (qS hc10 ?_)
  intro w51 hc52 u53
  replace hcp := hcp.upd u53 hc10 (by decide) (by decide)
  replace hc49 := u53.heap hc49 ne13
  replace G := G.upd u53 hge12
  clear u53 hc10
  refine qZ 2 ?_
  have hfo := yW2 full ((A.getD q [] ++ l).length : Int) ((growB A q).length : Int) (zC4 (zM2 A q l)) lim
  refine ret1 (zA5 rfl hc52 (by rfl)) ⟨⟨_, _, ?_, hcp⟩, G⟩
  rw [hfo]
  simp only [zO3, qV0, hlen9]
  rw [show len2 (zM2 A q l) q = (A.getD q [] ++ l).length from by simp only [len2]; rw [zM3 A q q l hq, if_pos rfl]]
  rfl
theorem yE8 : ∀ (n_ : Nat) (w : World) {base s i : Nat} {so : Value} {segs : List Value} {S : Lay} {lim : Int} {c : List Value} {t : Nd} (h : OwnA 37 23 w base so segs S.A) (hbw : base ≤ w.heap.size) (T : NodeR w c t) (hR : t.fine) (hone : 1 ≤ S.A.length) (hl1 : 1 ≤ lim) (hl2 : lim ≤ 4096) (hF : S.full = false → Fit lim S.A ∧ s < S.A.length ∧ i < len2 S.A s), t.sz ≤ n_ → Calls Tryz.prog 42 #[.agg #[so, .int .i64 lim, .bool S.full], .agg c.toArray, .int .i64 (s : Int), .int .i64 (i : Int)] w (Ret fun v w' => LayV 37 23 w' base lim v (t.lay lim S s i) ∧ Grow w w') := by
 intro n_
 induction n_ with
 | zero => intro w base s i so segs S lim c t h hbw T hR hone hl1 hl2 hF hm_; exact absurd hm_ (by have := t.sz_pos; omega)
 | succ n_ ih_ =>
 intro w base s i so segs S lim c t h hbw T hR hone hl1 hl2 hF hm_
 obtain ⟨ads, ns, cs, rfl⟩ := zE0 h.out
 have Tk := T
 obtain @⟨kind, size, words, bytes, kids, ws, bs, ks, kc, hk, hs, hW, hwr, hB, hbr, hK, hKs⟩ := T
 obtain ⟨aw, cw, rfl, hcw, hcw2, RW⟩ := hW
 obtain ⟨ab, cb, rfl, hcb, hcb2, RB⟩ := hB
 obtain ⟨ak, ck, rfl, hck, hck2, RK⟩ := hK
 have lw := RW.lim
 have lb := RB.lim
 have lk := RK.lim
 simp only [inR] at hk hs
 have T0 := Tk
 obtain ⟨hkd, hlw, hlb, hlk, hnn, hnm, hkn, hb1⟩ := Nd.own_b (Nd.fine_own hR)
 have G := Grow.rfl' w
 refine zC2 Tryz.func42 Tryz.ntmps42 Tryz.results42 rfl rfl ?_
 refine qZ 2 ?_
 refine stp ?_
 refine qC ?_
 intro b1 w2 hb3 hc4 g5
 have hge6 := Nat.le_trans G.size hb3
 replace h := h.grow g5
 replace G := G.tr g5
 clear g5 hb3
 refine stp ?_
 refine qC ?_
 intro b7 w8 hb9 hc10 g11
 have hge12 := Nat.le_trans G.size hb9
 have ne13 := qN hc4 hb9
 replace h := h.grow g11
 replace hc4 := g11.heap hc4
 replace G := G.tr g11
 clear g11 hb9
 refine stp (zA7 ?_)
 intro b14 w15 hb16 hc17 g18
 refine qZ 5 ?_
 have hge19 := Nat.le_trans G.size hb16
 have ne20 := qN hc4 hb16
 have ne21 := qN hc10 hb16
 replace h := h.grow g18
 replace hc4 := g18.heap hc4
 replace hc10 := g18.heap hc10
 replace G := G.tr g18
 clear g18 hb16
 refine qZ 1 ?_
 refine stp (zD5 rfl rfl ?_)
 refine qZ 1 ?_
 refine qG 2 ?_
 refine stp (zH6 rfl rfl rfl ?_)
 refine zA6 ?_
 refine zA2 (b := ((decide (kind = 0)) || S.full)) rfl (fun h1 => ?_) (fun h1 => ?_)
 ·
  simp only [sb] at h1
  have hl : (Nd.mk kind size words bytes kids).lay lim S s i = S := by simp only [Nd.lay]; rw [if_pos h1]
  refine qZ 3 ?_
  refine stn (qS hc17 ?_)
  intro w24 hc25 u26
  replace h := h.upd u26 hc17 (by decide) (by decide)
  replace hc4 := u26.heap hc4 ne20
  replace hc10 := u26.heap hc10 ne21
  replace G := G.upd u26 hge19
  clear u26 hc17
  refine qZ 2 ?_
  rw [hl]
  refine ret1 (zA5 rfl hc25 (by rfl)) ⟨⟨_, _, rfl, h⟩, G⟩
 ·
  simp only [sb] at h1
  obtain ⟨h1k, h1f⟩ := h1
  obtain ⟨F, hsA, hiA⟩ := hF h1f
  have FS := F.sml hl2
  have hA16 := F.most
  have htn := zN1 S.A
  refine qZ 4 ?_
  refine stp (zA4 (v := .int .i64 ((Nd.mk kind size words bytes kids).need)) rfl (qV7 _ (T0.grow G)) ?_)
  intro w27 g28
  replace h := h.grow g28
  replace hc4 := g28.heap hc4
  replace hc10 := g28.heap hc10
  replace hc17 := g28.heap hc17
  replace G := G.tr g28
  clear g28
  refine qZ 6 ?_
  refine stp (zD5 rfl rfl ?_)
  refine zA6 ?_
  refine zA2 (b := (decide (((Nd.mk kind size words bytes kids).need) = 0))) rfl (fun h2 => ?_) (fun h2 => ?_)
  ·
   replace h2 := qT h2
   refine qZ 9 ?_
   refine stp (zD5 rfl rfl ?_)
   refine zA6 ?_
   refine zA2 (b := (decide (kind = 1))) rfl (fun h3 => ?_) (fun h3 => ?_)
   ·
    replace h3 := qT h3
    have hl : (Nd.mk kind size words bytes kids).lay lim S s i = ⟨setP S.A s i ((Nd.mk kind size words bytes kids).near (-1)), S.full⟩ := by simp only [Nd.lay]; rw [if_neg (by simp [h1k, h1f]), if_pos h2, if_pos h3]
    refine qZ 4 ?_
    refine zM8 7 [[], [], [], [], [], [1, 0], [5, 4, 3, 2, 1, 0]] mixed (by kernel_rfl) (by kernel_rfl) (by kernel_rfl) ?_
    intro w29 g30
    replace h := h.grow g30
    replace hc4 := g30.heap hc4
    replace hc10 := g30.heap hc10
    replace hc17 := g30.heap hc17
    replace G := G.tr g30
    clear g30
    refine qA 5 ?_
    apply zC0
    ·intro w_ g_; refine og rfl ?_; exact zA4 (v := .int .u64 ((Nd.mk kind size words bytes kids).near (-1))) rfl (zP3 _ (T0.grow (G.tr g_)) (-1) (by simp only [Nd.kind]; omega)) (fun w2_ g2_ => ⟨g2_, rfl⟩)
    refine zY2 (fun w_ v_ => LayV 37 23 w_ base lim v_ (⟨setP (S.A) s i ((Nd.mk kind size words bytes kids).near (-1)), S.full⟩)) (fun _ _ _ g_ h_ => h_.grow g_) ?_ ?_
    ·intro w_ g_
     refine og rfl ?_
     refine zD7 rfl (zS2 _ (h.grow g_) (Nat.le_trans hbw (G.tr g_).size) FS hsA hiA) ?_
     rintro v2_ w2_ ⟨hl_, g2_⟩
     exact ⟨g2_, hl_⟩
    refine zI4 ?_
    intro w31 g32
    replace h := h.grow g32
    replace hc4 := g32.heap hc4
    replace hc10 := g32.heap hc10
    replace hc17 := g32.heap hc17
    replace G := G.tr g32
    clear g32
    intro v_p hv_p
    obtain ⟨so_p, segs_p, rfl, h_p⟩ := hv_p
    obtain ⟨ad_p, n_p, c_p, rfl⟩ := zE0 h_p.out
    refine stn (qS hc17 ?_)
    intro w33 hc34 u35
    replace h := h.upd u35 hc17 (by decide) (by decide)
    replace hc4 := u35.heap hc4 ne20
    replace hc10 := u35.heap hc10 ne21
    replace h_p := h_p.upd u35 hc17 (by decide) (by decide)
    replace G := G.upd u35 hge19
    clear u35 hc17
    refine qZ 2 ?_
    rw [hl]
    refine ret1 (zA5 rfl hc34 (by rfl)) ⟨⟨_, _, rfl, h_p⟩, G⟩
   ·
    replace h3 := qF h3
    have hl : (Nd.mk kind size words bytes kids).lay lim S s i = ⟨setP S.A s i ((Nd.mk kind size words bytes kids).near (0)), S.full⟩ := by simp only [Nd.lay]; rw [if_neg (by simp [h1k, h1f]), if_pos h2, if_neg h3]
    refine qZ 2 ?_
    refine zM8 7 [[], [], [], [], [], [1, 0], [5, 4, 3, 2, 1, 0]] mixed (by kernel_rfl) (by kernel_rfl) (by kernel_rfl) ?_
    intro w36 g37
    replace h := h.grow g37
    replace hc4 := g37.heap hc4
    replace hc10 := g37.heap hc10
    replace hc17 := g37.heap hc17
    replace G := G.tr g37
    clear g37
    refine qA 5 ?_
    apply zC0
    ·intro w_ g_; refine og rfl ?_; exact zA4 (v := .int .u64 ((Nd.mk kind size words bytes kids).near 0)) rfl (zP3 _ (T0.grow (G.tr g_)) (0) (by simp only [Nd.kind]; omega)) (fun w2_ g2_ => ⟨g2_, rfl⟩)
    refine zY2 (fun w_ v_ => LayV 37 23 w_ base lim v_ (⟨setP (S.A) s i ((Nd.mk kind size words bytes kids).near (0)), S.full⟩)) (fun _ _ _ g_ h_ => h_.grow g_) ?_ ?_
    ·intro w_ g_
     refine og rfl ?_
     refine zD7 rfl (zS2 _ (h.grow g_) (Nat.le_trans hbw (G.tr g_).size) FS hsA hiA) ?_
     rintro v2_ w2_ ⟨hl_, g2_⟩
     exact ⟨g2_, hl_⟩
    refine zI4 ?_
    intro w38 g39
    replace h := h.grow g39
    replace hc4 := g39.heap hc4
    replace hc10 := g39.heap hc10
    replace hc17 := g39.heap hc17
    replace G := G.tr g39
    clear g39
    intro v_p hv_p
    obtain ⟨so_p, segs_p, rfl, h_p⟩ := hv_p
    obtain ⟨ad_p, n_p, c_p, rfl⟩ := zE0 h_p.out
    refine stn (qS hc17 ?_)
    intro w40 hc41 u42
    replace h := h.upd u42 hc17 (by decide) (by decide)
    replace hc4 := u42.heap hc4 ne20
    replace hc10 := u42.heap hc10 ne21
    replace h_p := h_p.upd u42 hc17 (by decide) (by decide)
    replace G := G.upd u42 hge19
    clear u42 hc17
    refine qZ 2 ?_
    rw [hl]
    refine ret1 (zA5 rfl hc41 (by rfl)) ⟨⟨_, _, rfl, h_p⟩, G⟩
  ·
   replace h2 := qF h2
   have hp0 := qP8 lim (Nd.mk kind size words bytes kids) S s i F.one
   have hpn := qV2 lim (Nd.mk kind size words bytes kids) S s i F.one
   obtain ⟨hlast, hlastE⟩ := yP3 F.one
   have hlseg := F.seg (zD2 S.A)
   have hl : (Nd.mk kind size words bytes kids).lay lim S s i = Nd.lays lim kids (zO3 lim (zG0 lim (Nd.mk kind size words bytes kids) S s i).S (zG0 lim (Nd.mk kind size words bytes kids) S s i).seg (Nd.mk kind size words bytes kids).content) (zG0 lim (Nd.mk kind size words bytes kids) S s i).seg ((zG0 lim (Nd.mk kind size words bytes kids) S s i).at_ + ((Nd.mk kind size words bytes kids).need.toNat - kids.length)) := by simp only [Nd.lay]; rw [if_neg (by simp [h1k, h1f]), if_neg h2]
   rw [hl]
   clear hl
   obtain ⟨ado, co, sa, sc, hso_, hco, hco2, RO, hsf⟩ := h.fn (by omega)
   cases hso_
   refine qZ 6 ?_
   refine stp ?_
   refine zM9 rfl rfl ?_ ?_; constructor <;> omega
   rw [hlastE]
   refine qZ 12 ?_
   refine stp (zC8 RO rfl rfl ?_ ?_); omega
   refine stp (zC5 (v := .slice (sa (zD2 S.A)) (len2 S.A (zD2 S.A)) (sc (zD2 S.A))) (m := 0) RO rfl (by rw [Nat.mul_one]; exact (hsf _ (by assumption)).1) ?_)
   refine qZ 3 ?_
   refine qK0 (fun e_ w_ => ∃ (ad4 : Option Addr) (n4 : Nat) (c4 : Nat) (segs4 : List Value), Fr [(4, .pointer (some ⟨b1, 0, none⟩)), (5, .pointer (some ⟨b7, 0, none⟩)), (8, .pointer (some ⟨b14, 0, none⟩)), (9, .int .i64 ((Nd.mk kind size words bytes kids).need)), (12, .int .i64 ((zG0 lim (Nd.mk kind size words bytes kids) S s i).seg : Int)), (13, .int .i64 ((zG0 lim (Nd.mk kind size words bytes kids) S s i).at_ : Int))] e_ ∧ (w_.heap[b7]? = some (.cells #[.int .i64 kind, .int .i64 size, .slice aw words.length cw, .slice ab bytes.length cb, .slice ak kids.length ck] 48 (0, 0))) ∧ (w_.heap[b14]? = some (.cells #[.slice none 0 0, .int .i64 0, .bool false] 99 (0, 0))) ∧ (w_.heap[b1]? = some (.cells #[.slice ad4 n4 c4, .int .i64 lim, .bool (zG0 lim (Nd.mk kind size words bytes kids) S s i).S.full] 99 (0, 0))) ∧ (OwnA 37 23 w_ base (.slice ad4 n4 c4) segs4 ((zG0 lim (Nd.mk kind size words bytes kids) S s i).S.A)) ∧ Grow w w_) ?_ ?_
   ·-- the parts
    refine qZ 4 ?_
    refine stp (zD5 rfl rfl ?_)
    refine qZ 1 ?_
    refine qG 2 ?_
    refine zA3 (zB2 (s := .bool _) (v := .int .i64 (((len2 S.A (zD2 S.A)) : Int) + ((Nd.mk kind size words bytes kids).need))) rfl (zE2 _) (fun hc45 => ?_) ?_)
    ·
     have hc45_ := qT hc45
     refine zB5 (gvt hc45) (gvt hc45) ?_ ?_; constructor <;> omega
     exact ⟨rfl, rfl⟩
    refine qG 2 ?_
    refine zA3 (zB2 (s := .bool _) (v := .bool (decide ((((len2 S.A (zD2 S.A)) : Int) + ((Nd.mk kind size words bytes kids).need)) ≤ lim))) rfl (zE2 _) (fun hc48 => ?_) ?_)
    ·
     have hc48_ := qT hc48
     refine zU7 (gvt hc48) (gvt hc48) ?_
     exact ⟨rfl, rfl⟩
    refine stp (zG8 rfl rfl rfl ?_)
    refine zA6 ?_
    refine zA2 (b := ((decide ((s : Int) = (zD2 S.A : Int))) && (decide ((((len2 S.A (zD2 S.A)) : Int) + ((Nd.mk kind size words bytes kids).need)) ≤ lim)))) rfl (fun h3 => ?_) (fun h3 => ?_)
    ·
     simp only [sb] at h3
     have hsl : s = zD2 S.A := by omega
     have hi2 := hiA
     rw [hsl] at hi2
     have hp : (zG0 lim (Nd.mk kind size words bytes kids) S s i) = ⟨⟨setP S.A s i ((Nd.mk kind size words bytes kids).near ((len2 S.A (zD2 S.A) : Int) - i - 1)), S.full⟩, zD2 S.A, len2 S.A (zD2 S.A)⟩ := by unfold zG0; rw [if_pos ⟨by omega, h3.2⟩]
     refine zM8 10 [[], [], [], [], [], [], [1, 0], [2, 1, 0], [4, 3, 2, 1, 0], [8, 7, 6, 5, 4, 3, 2, 1, 0]] mixed (by kernel_rfl) (by kernel_rfl) (by kernel_rfl) ?_
     intro w49 g50
     replace hc10 := g50.heap hc10
     replace hc17 := g50.heap hc17
     replace hc4 := g50.heap hc4
     replace h := h.grow g50
     replace RO := RO.grow g50
     replace G := G.tr g50
     clear g50
     refine qA 6 ?_
     apply zC0
     ·intro w_ g_; refine og rfl ?_; refine zM9 rfl rfl ?_ ?_; constructor <;> omega; exact qX
     apply zC0
     ·intro w_ g_; refine og rfl ?_; refine zM9 rfl rfl ?_ ?_; constructor <;> omega; exact qX
     apply zC0
     ·intro w_ g_; refine og rfl ?_; exact zA4 (v := .int .u64 ((Nd.mk kind size words bytes kids).near ((((len2 S.A (zD2 S.A)) : Int) - (i : Int)) - 1))) rfl (zP3 _ (T0.grow (G.tr g_)) ((((len2 S.A (zD2 S.A)) : Int) - (i : Int)) - 1) (by simp only [Nd.kind]; omega)) (fun w2_ g2_ => ⟨g2_, rfl⟩)
     refine zY2 (fun w_ v_ => LayV 37 23 w_ base lim v_ (⟨setP (S.A) s i ((Nd.mk kind size words bytes kids).near ((len2 S.A (zD2 S.A) : Int) - i - 1)), S.full⟩)) (fun _ _ _ g_ h_ => h_.grow g_) ?_ ?_
     ·intro w_ g_
      refine og rfl ?_
      refine zD7 rfl (zS2 _ (h.grow g_) (Nat.le_trans hbw (G.tr g_).size) FS hsA hiA) ?_
      rintro v2_ w2_ ⟨hl_, g2_⟩
      exact ⟨g2_, hl_⟩
     refine zI4 ?_
     intro w51 g52
     replace hc10 := g52.heap hc10
     replace hc17 := g52.heap hc17
     replace hc4 := g52.heap hc4
     replace h := h.grow g52
     replace RO := RO.grow g52
     replace G := G.tr g52
     clear g52
     intro v_p hv_p
     obtain ⟨so_p, segs_p, rfl, h_p⟩ := hv_p
     obtain ⟨ad_p, n_p, c_p, rfl⟩ := zE0 h_p.out
     refine stn (qS hc4 ?_)
     intro w53 hc54 u55
     replace hc10 := u55.heap hc10 ne13.symm
     replace hc17 := u55.heap hc17 ne20.symm
     replace h := h.upd u55 hc4 (by decide) (by decide)
     replace h_p := h_p.upd u55 hc4 (by decide) (by decide)
     replace G := G.upd u55 hge6
     clear u55 hc4
     refine zA6 ?_
     rw [hp]
     exact ⟨_, _, _, _, zC6 ⟨rfl, rfl, rfl, rfl, rfl, rfl, trivial⟩, hc10, hc17, hc54, h_p, G⟩
    ·
     simp only [sb] at h3
     refine qZ 5 ?_
     refine stp (zD5 rfl rfl ?_)
     refine qZ 1 ?_
     refine qG 2 ?_
     refine zA3 (zB2 (s := .bool _) (v := .int .i64 (((len2 S.A (zD2 S.A)) : Int) + ((Nd.mk kind size words bytes kids).need))) rfl (zE3 _) (fun hc58 => ?_) ?_)
     ·
      have hc58_ := hc58
      try simp only [sb] at hc58_
      refine zB5 (gvt hc58) (gvt hc58) ?_ ?_; constructor <;> omega
      exact ⟨rfl, rfl⟩
     refine zA3 (zB2 (s := .bool _) (v := .int .i64 ((((len2 S.A (zD2 S.A)) : Int) + ((Nd.mk kind size words bytes kids).need)) + 1)) rfl (zE3 _) (fun hc59 => ?_) ?_)
     ·
      have hc59_ := hc59
      try simp only [sb] at hc59_
      refine zB5 (gvt hc59) rfl ?_ ?_; constructor <;> omega
      exact ⟨rfl, rfl⟩
     refine qG 2 ?_
     refine zA3 (zB2 (s := .bool _) (v := .bool (decide (((((len2 S.A (zD2 S.A)) : Int) + ((Nd.mk kind size words bytes kids).need)) + 1) > lim))) rfl (zE3 _) (fun hc62 => ?_) ?_)
     ·
      have hc62_ := hc62
      try simp only [sb] at hc62_
      refine zN7 (gvt hc62) (gvt hc62) ?_
      exact ⟨rfl, rfl⟩
     refine stp (zH6 rfl rfl rfl ?_)
     refine zA6 ?_
     refine zA2 (b := ((decide ((s : Int) = (zD2 S.A : Int))) || (decide (((((len2 S.A (zD2 S.A)) : Int) + ((Nd.mk kind size words bytes kids).need)) + 1) > lim)))) rfl (fun h4 => ?_) (fun h4 => ?_)
     ·
      simp only [sb] at h4
      have hp : (zG0 lim (Nd.mk kind size words bytes kids) S s i) = ⟨zO3 lim ⟨setP S.A s i (farP ((zD2 S.A : Int) + 1) 0), S.full⟩ (zD2 S.A + 1) [(Nd.mk kind size words bytes kids).near 0], zD2 S.A + 1, 1⟩ := by unfold zG0; rw [if_neg (by omega), if_pos (by simp only [yA7, Bool.or_eq_true, decide_eq_true_eq]; omega)]
      have hqc0 : ((zD2 S.A + 1 : Nat) : Int) = ((zD2 S.A : Int) + 1) := by omega
      refine qZ 3 ?_
      refine stp (zB5 rfl rfl ?_ ?_); constructor <;> omega
      refine qZ 6 ?_
      refine zM8 12 [[], [], [], [], [], [1, 0], [5, 4, 3, 2, 1, 0], [], [], [8, 7, 6, 5, 4, 3, 2, 0], [9, 8, 7, 6, 5, 4, 3, 1, 0], [10, 9, 8, 7, 6, 5, 4, 3, 2, 1, 0]] mixed (by kernel_rfl) (by kernel_rfl) (by kernel_rfl) ?_
      intro w63 g64
      replace hc10 := g64.heap hc10
      replace hc17 := g64.heap hc17
      replace hc4 := g64.heap hc4
      replace h := h.grow g64
      replace RO := RO.grow g64
      replace G := G.tr g64
      clear g64
      refine qA 5 ?_
      apply zC0
      ·intro w_ g_; refine og rfl ?_; exact zA4 (v := .int .u64 (farP ((zD2 S.A : Int) + 1) 0)) rfl (qK9 _ ((zD2 S.A : Int) + 1) 0) (fun w2_ g2_ => ⟨g2_, rfl⟩)
      refine zY2 (fun w_ v_ => LayV 37 23 w_ base lim v_ (⟨setP (S.A) s i (farP ((zD2 S.A : Int) + 1) 0), S.full⟩)) (fun _ _ _ g_ h_ => h_.grow g_) ?_ ?_
      ·intro w_ g_
       refine og rfl ?_
       refine zD7 rfl (zS2 _ (h.grow g_) (Nat.le_trans hbw (G.tr g_).size) FS hsA hiA) ?_
       rintro v2_ w2_ ⟨hl_, g2_⟩
       exact ⟨g2_, hl_⟩
      refine qA 2 ?_
      apply zC0
      ·intro w_ g_; intro v6_ hv6_; show OpG _ _ _ _ _ _; refine og rfl ?_; exact zA4 (v := .int .u64 ((Nd.mk kind size words bytes kids).near 0)) rfl (zP3 _ (T0.grow (G.tr g_)) (0) (by simp only [Nd.kind]; omega)) (fun w2_ g2_ => ⟨g2_, rfl⟩)
      refine zY2 (fun w_ v_ => Row w_ 1 v_ 1 (zJ1 [(Nd.mk kind size words bytes kids).near 0])) (fun _ _ _ g_ h_ => h_.grow g_) ?_ ?_
      ·intro w_ g_
       intro v6_ hv6_; show OpG _ _ _ _ _ _
       refine og rfl ?_
       refine zC3 (cs := #[.int .u64 ((Nd.mk kind size words bytes kids).near 0)]) (el := 23) (fun w => by kernel_rfl) ?_
       intro bs_ w2_ hb_ hc_ g2_
       exact ⟨g2_, Row.of_block (n := 1) hc_ rfl rfl (by omega)⟩
      refine zY2 (fun w_ v_ => LayV 37 23 w_ base lim v_ (zO3 lim ⟨setP S.A s i (farP ((zD2 S.A : Int) + 1) 0), S.full⟩ (zD2 S.A + 1) [(Nd.mk kind size words bytes kids).near 0])) (fun _ _ _ g_ h_ => h_.grow g_) ?_ ?_
      ·intro w_ g_
       intro v6_ hv6_; intro v10_ hv10_; show OpG _ _ _ _ _ _
       refine og rfl ?_
       obtain ⟨so_p, segs_p, rfl, h_p⟩ := hv6_
       have hqc : ((zD2 S.A + 1 : Nat) : Int) = ((zD2 S.A : Int) + 1) := by omega
       have hcal := zZ1 _ (q := zD2 S.A + 1) (lim := lim) (full := S.full) (l := [(Nd.mk kind size words bytes kids).near 0]) h_p (Nat.le_trans hbw (G.tr g_).size) (FS.set s i (farP ((zD2 S.A : Int) + 1) 0)) (by rw [zE4]; omega) hv10_ (by simp)
       rw [hqc] at hcal
       refine zD7 rfl hcal ?_
       rintro v2_ w2_ ⟨hl_, g2_⟩
       exact ⟨g2_, hl_⟩
      refine zI4 ?_
      intro w65 g66
      replace hc10 := g66.heap hc10
      replace hc17 := g66.heap hc17
      replace hc4 := g66.heap hc4
      replace h := h.grow g66
      replace RO := RO.grow g66
      replace G := G.tr g66
      clear g66
      intro v_p hv_p
      intro v_l hv_l
      intro v_m hv_m
      obtain ⟨so_m, segs_m, rfl, h_m⟩ := hv_m
      obtain ⟨ad_m, n_m, c_m, rfl⟩ := zE0 h_m.out
      refine stn (qS hc4 ?_)
      intro w67 hc68 u69
      replace hc10 := u69.heap hc10 ne13.symm
      replace hc17 := u69.heap hc17 ne20.symm
      replace h := h.upd u69 hc4 (by decide) (by decide)
      replace h_m := h_m.upd u69 hc4 (by decide) (by decide)
      replace G := G.upd u69 hge6
      clear u69 hc4
      refine qZ 3 ?_
      refine stp (zB5 rfl rfl ?_ ?_); constructor <;> omega
      refine qZ 2 ?_
      rw [hp]
      exact ⟨_, _, _, _, zC6 ⟨rfl, rfl, rfl, rfl, rfl, rfl, trivial⟩, hc10, hc17, hc68, h_m, G⟩
     ·
      simp only [sb] at h4
      have hp : (zG0 lim (Nd.mk kind size words bytes kids) S s i) = ⟨zO3 lim ⟨setP S.A s i (farP (zD2 S.A) (len2 S.A (zD2 S.A))), S.full⟩ (zD2 S.A) [(Nd.mk kind size words bytes kids).near 0], zD2 S.A, len2 S.A (zD2 S.A) + 1⟩ := by unfold zG0; rw [if_neg (by omega), if_neg (by simp only [yA7, Bool.or_eq_true, decide_eq_true_eq]; omega)]
      refine qZ 2 ?_
      refine zM8 12 [[], [], [], [], [], [1, 0], [5, 4, 3, 2, 1, 0], [], [], [8, 7, 6, 5, 4, 3, 2, 0], [9, 8, 7, 6, 5, 4, 3, 1, 0], [10, 9, 8, 7, 6, 5, 4, 3, 2, 1, 0]] mixed (by kernel_rfl) (by kernel_rfl) (by kernel_rfl) ?_
      intro w70 g71
      replace hc10 := g71.heap hc10
      replace hc17 := g71.heap hc17
      replace hc4 := g71.heap hc4
      replace h := h.grow g71
      replace RO := RO.grow g71
      replace G := G.tr g71
      clear g71
      refine qA 5 ?_
      apply zC0
      ·intro w_ g_; refine og rfl ?_; exact zA4 (v := .int .u64 (farP (zD2 S.A : Int) (len2 S.A (zD2 S.A) : Int))) rfl (qK9 _ (zD2 S.A : Int) (len2 S.A (zD2 S.A) : Int)) (fun w2_ g2_ => ⟨g2_, rfl⟩)
      refine zY2 (fun w_ v_ => LayV 37 23 w_ base lim v_ (⟨setP (S.A) s i (farP (zD2 S.A : Int) (len2 S.A (zD2 S.A) : Int)), S.full⟩)) (fun _ _ _ g_ h_ => h_.grow g_) ?_ ?_
      ·intro w_ g_
       refine og rfl ?_
       refine zD7 rfl (zS2 _ (h.grow g_) (Nat.le_trans hbw (G.tr g_).size) FS hsA hiA) ?_
       rintro v2_ w2_ ⟨hl_, g2_⟩
       exact ⟨g2_, hl_⟩
      refine qA 2 ?_
      apply zC0
      ·intro w_ g_; intro v6_ hv6_; show OpG _ _ _ _ _ _; refine og rfl ?_; exact zA4 (v := .int .u64 ((Nd.mk kind size words bytes kids).near 0)) rfl (zP3 _ (T0.grow (G.tr g_)) (0) (by simp only [Nd.kind]; omega)) (fun w2_ g2_ => ⟨g2_, rfl⟩)
      refine zY2 (fun w_ v_ => Row w_ 1 v_ 1 (zJ1 [(Nd.mk kind size words bytes kids).near 0])) (fun _ _ _ g_ h_ => h_.grow g_) ?_ ?_
      ·intro w_ g_
       intro v6_ hv6_; show OpG _ _ _ _ _ _
       refine og rfl ?_
       refine zC3 (cs := #[.int .u64 ((Nd.mk kind size words bytes kids).near 0)]) (el := 23) (fun w => by kernel_rfl) ?_
       intro bs_ w2_ hb_ hc_ g2_
       exact ⟨g2_, Row.of_block (n := 1) hc_ rfl rfl (by omega)⟩
      refine zY2 (fun w_ v_ => LayV 37 23 w_ base lim v_ (zO3 lim ⟨setP S.A s i (farP (zD2 S.A : Int) (len2 S.A (zD2 S.A) : Int)), S.full⟩ (zD2 S.A) [(Nd.mk kind size words bytes kids).near 0])) (fun _ _ _ g_ h_ => h_.grow g_) ?_ ?_
      ·intro w_ g_
       intro v6_ hv6_; intro v10_ hv10_; show OpG _ _ _ _ _ _
       refine og rfl ?_
       obtain ⟨so_p, segs_p, rfl, h_p⟩ := hv6_
       have hqc : ((zD2 S.A : Nat) : Int) = (zD2 S.A : Int) := by omega
       have hcal := zZ1 _ (q := zD2 S.A) (lim := lim) (full := S.full) (l := [(Nd.mk kind size words bytes kids).near 0]) h_p (Nat.le_trans hbw (G.tr g_).size) (FS.set s i (farP (zD2 S.A : Int) (len2 S.A (zD2 S.A) : Int))) (by rw [zE4]; omega) hv10_ (by simp)
       rw [hqc] at hcal
       refine zD7 rfl hcal ?_
       rintro v2_ w2_ ⟨hl_, g2_⟩
       exact ⟨g2_, hl_⟩
      refine zI4 ?_
      intro w72 g73
      replace hc10 := g73.heap hc10
      replace hc17 := g73.heap hc17
      replace hc4 := g73.heap hc4
      replace h := h.grow g73
      replace RO := RO.grow g73
      replace G := G.tr g73
      clear g73
      intro v_p hv_p
      intro v_l hv_l
      intro v_m hv_m
      obtain ⟨so_m, segs_m, rfl, h_m⟩ := hv_m
      obtain ⟨ad_m, n_m, c_m, rfl⟩ := zE0 h_m.out
      refine stn (qS hc4 ?_)
      intro w74 hc75 u76
      replace hc10 := u76.heap hc10 ne13.symm
      replace hc17 := u76.heap hc17 ne20.symm
      replace h := h.upd u76 hc4 (by decide) (by decide)
      replace h_m := h_m.upd u76 hc4 (by decide) (by decide)
      replace G := G.upd u76 hge6
      clear u76 hc4
      refine qZ 3 ?_
      refine stp (zB5 rfl rfl ?_ ?_); constructor <;> omega
      refine qZ 2 ?_
      rw [hp]
      exact ⟨_, _, _, _, zC6 ⟨rfl, rfl, rfl, rfl, rfl, rfl, trivial⟩, hc10, hc17, hc75, h_m, G⟩
   ·-- behind them
    clear hc10 hc17 hc4 h RO
    clear G
    rintro e_ w77 ⟨ad4, n4, c4, segs4, ⟨e78, rfl⟩, hc10, hc17, hc4, h, G⟩
    obtain ⟨hpG, hpS, hpA, hpF, hpU⟩ := hp0
    generalize (zG0 lim (Nd.mk kind size words bytes kids) S s i) = p at *
    have hpl := FS.len
    have hSp : Sml p.S.A := ⟨by have := hpn.len; omega, fun j => by have := hpn.seg j; have := F.seg j; omega⟩
    have hpb := hSp.seg p.seg
    rw [← hpA] at hpb
    have hco : ((Nd.mk kind size words bytes kids).content.length : Int) = (Nd.mk kind size words bytes kids).need := Nd.content_length _ (by simp only [Nd.kind]; omega) (by simpa only [Nd.kind, Nd.bytes] using hb1)
    have hok := LayOk.more lim p.S p.seg (Nd.mk kind size words bytes kids).content (Nat.le_of_lt hpS)
    have hge2 : p.at_ + (Nd.mk kind size words bytes kids).content.length ≤ len2 (zO3 lim p.S p.seg (Nd.mk kind size words bytes kids).content).A p.seg := by rw [hpA, show (zO3 lim p.S p.seg (Nd.mk kind size words bytes kids).content).A = zM2 p.S.A p.seg (Nd.mk kind size words bytes kids).content from rfl]; simp only [len2]; rw [zM3 _ _ _ _ (Nat.le_of_lt hpS), if_pos rfl, List.length_append]; exact Nat.le_refl _
    have hQ0 : (zO3 lim p.S p.seg (Nd.mk kind size words bytes kids).content).full = false → p.S.full = false := fun hx => by cases hy : p.S.full with | false => rfl | true => rw [hok.full hy] at hx; exact absurd hx (by simp)
    refine qE9 ?_
    refine zM8 5 [[], [], [], [0], [3, 2, 1, 0]] mixed (by kernel_rfl) (by kernel_rfl) (by kernel_rfl) ?_
    intro w79 g80
    replace hc10 := g80.heap hc10
    replace hc17 := g80.heap hc17
    replace h := h.grow g80
    replace hc4 := g80.heap hc4
    replace G := G.tr g80
    clear g80
    refine qA 3 ?_
    refine zY2 (fun w_ v_ => Row w_ 1 v_ (Nd.mk kind size words bytes kids).content.length (zJ1 (Nd.mk kind size words bytes kids).content)) (fun _ _ _ g_ h_ => h_.grow g_) ?_ ?_
    ·intro w_ g_
     refine og rfl ?_
     refine zD7 rfl (qJ0 _ (T0.grow (G.tr g_)) hlw hlb hlk) ?_
     rintro v2_ w2_ ⟨ho_, g2_⟩
     exact ⟨g2_, zI3 ho_ (by omega)⟩
    refine zY2 (fun w_ v_ => LayV 37 23 w_ base lim v_ (zO3 lim p.S p.seg (Nd.mk kind size words bytes kids).content)) (fun _ _ _ g_ h_ => h_.grow g_) ?_ ?_
    ·intro w_ g_
     intro v3_ hv3_; show OpG _ _ _ _ _ _
     refine og rfl ?_
     refine zD7 rfl (zZ1 _ (q := p.seg) (lim := lim) (full := p.S.full) (l := (Nd.mk kind size words bytes kids).content) (h.grow g_) (Nat.le_trans hbw (G.tr g_).size) hSp (Nat.le_of_lt hpS) hv3_ (by omega)) ?_
     rintro v2_ w2_ ⟨hl_, g2_⟩
     exact ⟨g2_, hl_⟩
    refine zI4 ?_
    intro w81 g82
    replace hc10 := g82.heap hc10
    replace hc17 := g82.heap hc17
    replace h := h.grow g82
    replace hc4 := g82.heap hc4
    replace G := G.tr g82
    clear g82
    intro v_c hv_c
    intro v_m hv_m
    obtain ⟨so_m, segs_m, rfl, h_m⟩ := hv_m
    obtain ⟨ad_m, n_m, c_m, rfl⟩ := zE0 h_m.out
    refine stn (qS hc4 ?_)
    intro w83 hc84 u85
    replace hc10 := u85.heap hc10 ne13.symm
    replace hc17 := u85.heap hc17 ne20.symm
    replace h := h.upd u85 hc4 (by decide) (by decide)
    replace h_m := h_m.upd u85 hc4 (by decide) (by decide)
    replace G := G.upd u85 hge6
    clear u85 hc4
    refine zA6 ?_
    obtain ⟨Q, hQ⟩ : ∃ Q, Q = zO3 lim p.S p.seg (Nd.mk kind size words bytes kids).content := ⟨_, rfl⟩
    rw [← hQ] at hge2 hQ0 hok ⊢
    have hok_A : (zO3 lim p.S p.seg (Nd.mk kind size words bytes kids).content).A = Q.A := by rw [hQ]
    rw [hok_A] at h_m
    have hc84' : w83.heap[b1]? = some (.cells #[.slice ad_m n_m c_m, .int .i64 lim, .bool (Q.full)] 99 (0, 0)) := by rw [hQ]; exact hc84
    clear hok_A hQ hc84
    have hc84 := hc84'
    clear hc84'
    have hQs : p.seg < Q.A.length := Nat.lt_of_lt_of_le hpS hok.grew.len
    have hQ1 : 1 ≤ Q.A.length := by omega
    refine qZ 6 ?_
    refine zF5 (fun m_ e_ w_ => ∃ (k : Nat) (ad5 : Option Addr) (n5 : Nat) (c5 : Nat) (segs5 : List Value), m_ = kids.length - k ∧ Fr [(4, .pointer (some ⟨b1, 0, none⟩)), (5, .pointer (some ⟨b7, 0, none⟩)), (8, .pointer (some ⟨b14, 0, none⟩)), (9, .int .i64 ((Nd.mk kind size words bytes kids).need)), (12, .int .i64 (p.seg : Int)), (13, .int .i64 (p.at_ : Int)), (14, .int .i64 (k : Int))] e_ ∧ (k ≤ kids.length) ∧ (w_.heap[b7]? = some (.cells #[.int .i64 kind, .int .i64 size, .slice aw words.length cw, .slice ab bytes.length cb, .slice ak kids.length ck] 48 (0, 0))) ∧ (w_.heap[b14]? = some (.cells #[.slice none 0 0, .int .i64 0, .bool false] 99 (0, 0))) ∧ (w_.heap[b1]? = some (.cells #[.slice ad5 n5 c5, .int .i64 lim, .bool ((Nd.lays lim (kids.take k) Q p.seg (p.at_ + ((Nd.mk kind size words bytes kids).need.toNat - kids.length))).full)] 99 (0, 0))) ∧ (OwnA 37 23 w_ base (.slice ad5 n5 c5) segs5 ((Nd.lays lim (kids.take k) Q p.seg (p.at_ + ((Nd.mk kind size words bytes kids).need.toNat - kids.length))).A)) ∧ Grow w w_) _ ⟨0, ad_m, n_m, c_m, segs_m, rfl, zC6 ⟨rfl, rfl, rfl, rfl, rfl, rfl, rfl, trivial⟩, by omega, hc10, hc17, hc84, h_m, G⟩ ?_
    clear hc10 hc17 hc84 h_m
    clear G
    rintro m_ e_ w86 ⟨k, ad5, n5, c5, segs5, rfl, ⟨e87, rfl⟩, hk2, hc10, hc17, hc84, h5, G⟩
    refine qZ 7 ?_
    refine stp (zF6 rfl rfl ?_)
    refine zA6 ?_
    refine zA2 (b := (decide ((k : Int) < (kids.length : Int)))) rfl (fun hlt => ?_) (fun hlt => ?_)
    ·
     replace hlt := qT hlt
     have hk3 : k < kids.length := by omega
     have hat := KidsR.at_ k kids[k] hKs (by simp [hk3])
     obtain ⟨y0, y1, ya, yn, yc, za, zn, zc, ua, un, uc, hy⟩ := hat.cells
     rw [hy] at hat
     have hsz := Nd.szs_at kids k kids[k] (by simp [hk3])
     have hfk := Nd.fine_kid hR hk3
     have hkn2 := hkn h1k
     have hlk_ := Nd.lays_ok lim (kids.take k) Q p.seg (p.at_ + ((Nd.mk kind size words bytes kids).need.toNat - kids.length)) hQ1
     have hss : p.seg < (Nd.lays lim (kids.take k) Q p.seg (p.at_ + ((Nd.mk kind size words bytes kids).need.toNat - kids.length))).A.length := Nat.lt_of_lt_of_le hQs hlk_.grew.len
     have hii : p.at_ + ((Nd.mk kind size words bytes kids).need.toNat - kids.length) + k < len2 (Nd.lays lim (kids.take k) Q p.seg (p.at_ + ((Nd.mk kind size words bytes kids).need.toNat - kids.length))).A p.seg := by have := hlk_.grew.seg p.seg; omega
     have hFk : (Nd.lays lim (kids.take k) Q p.seg (p.at_ + ((Nd.mk kind size words bytes kids).need.toNat - kids.length))).full = false → Fit lim (Nd.lays lim (kids.take k) Q p.seg (p.at_ + ((Nd.mk kind size words bytes kids).need.toNat - kids.length))).A ∧ p.seg < (Nd.lays lim (kids.take k) Q p.seg (p.at_ + ((Nd.mk kind size words bytes kids).need.toNat - kids.length))).A.length ∧ p.at_ + ((Nd.mk kind size words bytes kids).need.toNat - kids.length) + k < len2 (Nd.lays lim (kids.take k) Q p.seg (p.at_ + ((Nd.mk kind size words bytes kids).need.toNat - kids.length))).A p.seg := fun hx => ⟨hlk_.fit (hok.fit (hpF F (hQ0 (by cases hy_ : Q.full with | false => rfl | true => rw [hlk_.full hy_] at hx; exact absurd hx (by simp)))) (by cases hy_ : Q.full with | false => rfl | true => rw [hlk_.full hy_] at hx; exact absurd hx (by simp))) hx, hss, hii⟩
     refine qZ 3 ?_
     refine zM8 17 [[], [], [0], [], [2, 1, 0], [3, 2, 1, 0], [], [], [], [1, 0], [], [0], [1, 0], [5, 4, 3, 2, 1, 0], [], [7, 6, 5, 4, 3, 2, 1, 0], [15, 14, 13, 12, 11, 10, 9, 8, 7, 6, 5, 4, 3, 2, 1, 0]] mixed (by kernel_rfl) (by kernel_rfl) (by kernel_rfl) ?_
     intro w88 g89
     replace hc10 := g89.heap hc10
     replace hc17 := g89.heap hc17
     replace hc84 := g89.heap hc84
     replace h5 := h5.grow g89
     replace G := G.tr g89
     clear g89
     refine qA 4 ?_
     apply zC0
     ·intro w_ g_; refine og rfl ?_; refine zC8 (RK.grow (G.tr g_)) rfl rfl ?_ ?_; omega; exact qX
     apply zC0
     ·intro w_ g_; refine og rfl ?_; refine zL5 (RK.grow (G.tr g_)) rfl (by decide) (by rw [RK.len]; omega) hy ?_; exact qX
     refine qA 3 ?_
     apply zC0
     ·intro w_ g_; refine og rfl ?_; refine zB5 rfl rfl ?_ ?_; constructor <;> omega; exact qX
     refine qA 3 ?_
     apply zC0
     ·intro w_ g_; refine og rfl ?_; refine zM9 rfl rfl ?_ ?_; constructor <;> omega; exact qX
     refine qA 1 ?_
     apply zC0
     ·intro w_ g_; refine og rfl ?_; refine zB5 rfl rfl ?_ ?_; constructor <;> omega; exact qX
     refine zY2 (fun w_ v_ => LayV 37 23 w_ base lim v_ ((Nd.lays lim (kids.take (k + 1)) Q p.seg (p.at_ + ((Nd.mk kind size words bytes kids).need.toNat - kids.length))))) (fun _ _ _ g_ h_ => h_.grow g_) ?_ ?_
     ·intro w_ g_
      refine og rfl ?_
      have hcal := ih_ _ (h5.grow g_) (Nat.le_trans hbw (G.tr g_).size) (hat.grow (G.tr g_)) hfk (by omega) hl1 hl2 hFk (by simp only [Nd.sz] at hm_; omega)
      rw [show ((p.at_ + ((Nd.mk kind size words bytes kids).need.toNat - kids.length) + k : Nat) : Int) = (p.at_ : Int) + (Nd.mk kind size words bytes kids).need - kids.length + k from by omega, ← Nd.lays_take hk3] at hcal
      refine zD7 rfl hcal ?_
      rintro v2_ w2_ ⟨hl_, g2_⟩
      exact ⟨g2_, hl_⟩
     refine zI4 ?_
     intro w90 g91
     replace hc10 := g91.heap hc10
     replace hc17 := g91.heap hc17
     replace hc84 := g91.heap hc84
     replace h5 := h5.grow g91
     replace G := G.tr g91
     clear g91
     intro v_k hv_k
     obtain ⟨so_k, segs_k, rfl, h_k⟩ := hv_k
     obtain ⟨ad_k, n_k, c_k, rfl⟩ := zE0 h_k.out
     refine stn (qS hc84 ?_)
     intro w92 hc93 u94
     replace hc10 := u94.heap hc10 ne13.symm
     replace hc17 := u94.heap hc17 ne20.symm
     replace h5 := h5.upd u94 hc84 (by decide) (by decide)
     replace h_k := h_k.upd u94 hc84 (by decide) (by decide)
     replace G := G.upd u94 hge6
     clear u94 hc84
     refine qZ 3 ?_
     refine stp (zB5 rfl rfl ?_ ?_); constructor <;> omega
     refine qZ 2 ?_
     refine ⟨_, ?_, k + 1, ad_k, n_k, c_k, segs_k, rfl, zC6 ⟨rfl, rfl, rfl, rfl, rfl, rfl, congrArg (Value.int .i64) (by omega), trivial⟩, by omega, hc10, hc17, hc93, h_k, G⟩
     omega
    ·
     replace hlt := qF hlt
     have hk3 : k = kids.length := by omega
     have hSK : (Nd.lays lim (kids.take k) Q p.seg (p.at_ + ((Nd.mk kind size words bytes kids).need.toNat - kids.length))) = Nd.lays lim kids Q p.seg (p.at_ + ((Nd.mk kind size words bytes kids).need.toNat - kids.length)) := by rw [hk3, List.take_length]
     refine qZ 4 ?_
     refine stn (qS hc17 ?_)
     intro w95 hc96 u97
     replace hc10 := u97.heap hc10 ne21
     replace hc84 := u97.heap hc84 ne20
     replace h5 := h5.upd u97 hc17 (by decide) (by decide)
     replace G := G.upd u97 hge19
     clear u97 hc17
     refine qZ 2 ?_
     rw [← hSK]
     refine ret1 (zA5 rfl hc96 (by rfl)) ⟨⟨_, _, rfl, h5⟩, G⟩
theorem zV8 (w : World) {c : List Value} {t : Nd} (T : NodeR w c t) (n : Int) : Calls Tryz.prog 21 #[.agg c.toArray, .int .i64 n] w (Ret fun v w' => ∃ so segs, v = .tuple #[so, .int .i64 (t.build n).2] ∧ OwnA 37 23 w' w.heap.size so segs (t.build n).1 ∧ Grow w w') := by
 obtain ⟨y0, y1, ya, yn, yc, za, zn, zc, ua, un, uc, rfl⟩ := T.cells
 have G := Grow.rfl' w
 refine zC2 Tryz.func21 Tryz.ntmps21 Tryz.results21 rfl rfl ?_
 refine qZ 2 ?_
 refine stp ?_
 refine qC ?_
 intro b1 w2 hb3 hc4 g5
 have hge6 := Nat.le_trans G.size hb3
 replace G := G.tr g5
 clear g5 hb3
 refine qZ 7 ?_
 refine stp (zF6 rfl rfl ?_)
 refine qZ 1 ?_
 refine qG 1 ?_
 refine zA3 (zB2 (s := .bool _) (v := .bool (decide (n > 4096))) rfl (zE3 _) (fun hc8 => ?_) ?_)
 ·
  have hc8_ := hc8
  try simp only [sb] at hc8_
  refine zN7 (gvt hc8) rfl ?_
  exact ⟨rfl, rfl⟩
 refine stp (zH6 rfl rfl rfl ?_)
 refine qZ 1 ?_
 refine zA3 (zB2 (s := .bool _) (v := .agg #[.int .i64 y0, .int .i64 y1, .slice ya yn yc, .slice za zn zc, .slice ua un uc]) rfl (zE3 _) (fun hc9 => ?_) ?_)
 ·
  have hc9_ := hc9
  try simp only [sb] at hc9_
  refine zD8 rfl hc4 (by rfl) ?_
  exact ⟨rfl, rfl⟩
 refine zA3 (zX8 (s := .bool ((decide (n < 1)) || (decide (n > 4096)))) (b := false) (v := .bool (t.right 32)) rfl (zE3 _) (fun hc10 => ?_) ?_)
 ·
  have hc10_ := hc10
  try simp only [sb] at hc10_
  exact zM7 (l := ([.agg #[.int .i64 y0, .int .i64 y1, .slice ya yn yc, .slice za zn zc, .slice ua un uc]] : List Value)) rfl (by show ([gv (!((decide (n < 1)) || (decide (n > 4096)))) (.agg #[.int .i64 y0, .int .i64 y1, .slice ya yn yc, .slice za zn zc, .slice ua un uc])] : List Value) = _; rw [gvt hc10]) (qR3 _ (T.grow G)) (fun w2_ g2_ => ⟨rfl, g2_⟩)
 intro w11 g12
 replace hc4 := g12.heap hc4
 replace G := G.tr g12
 clear g12
 refine zA3 (zB2 (s := .bool _) (v := .bool (!(t.right 32))) rfl (zE3 _) (fun hc13 => ?_) ?_)
 ·
  have hc13_ := hc13
  try simp only [sb] at hc13_
  refine zN8 (gvt hc13) ?_
  exact ⟨rfl, rfl⟩
 refine stp (zH6 rfl rfl rfl ?_)
 refine zA6 ?_
 refine zA2 (b := (((decide (n < 1)) || (decide (n > 4096))) || (!(t.right 32)))) rfl (fun h1 => ?_) (fun h1 => ?_)
 ·
  simp only [sb] at h1
  have hb : t.build n = ([], 1) := by unfold Nd.build; rw [if_pos]; rcases h1 with (h | h) | h; exact .inl h; exact .inr (.inl h); exact .inr (.inr h)
  refine qZ 6 ?_
  rw [hb]
  refine ret2 (zA1 (v := .slice none 0 0) rfl) (zA1 (v := .int .i64 1) rfl) ⟨_, _, rfl, OwnA.nil _ _ _ _, G⟩
 ·
  simp only [sb] at h1
  obtain ⟨⟨h1a, h1b⟩, h1c⟩ := h1
  have hlb1 : 1 ≤ n := by omega
  have hlb2 : n ≤ 4096 := by omega
  have hnb : ¬ (n < 1 ∨ n > 4096 ∨ t.right 32 = false) := by rw [h1c]; simp; omega
  refine qZ 3 ?_
  refine stp (zC3 (cs := #[.int .u64 0]) (el := 23) (fun w => by kernel_rfl) ?_)
  intro bs14 w15 hb16 hc17 g18
  have hge19 := Nat.le_trans G.size hb16
  replace hc4 := g18.heap hc4
  replace G := G.tr g18
  clear g18
  refine stp (zC3 (cs := #[.slice (some ⟨bs14, 0, none⟩) 1 1]) (el := 37) (fun w => by kernel_rfl) ?_)
  intro bs20 w21 hb22 hc23 g24
  have hge25 := Nat.le_trans G.size hb22
  replace hc4 := g24.heap hc4
  replace hc17 := g24.heap hc17
  replace G := G.tr g24
  clear g24
  refine qZ 1 ?_
  refine stp (zA9 (v := .agg #[.slice (some ⟨bs20, 0, none⟩) 1 1, .int .i64 n, .bool false]) (fun w => by kernel_rfl) ?_)
  refine qZ 1 ?_
  refine stp ?_
  have h0 := OwnA.init (TO := 37) (TW := 23) (base := w.heap.size) hc23 hc17 hge25 hge19
  refine zD7 rfl (yE8 _ _ (s := 0) (i := 0) (S := ⟨[[0]], false⟩) (lim := n) h0 G.size (T.grow G) ⟨32, h1c⟩ (by simp) hlb1 hlb2 (fun _ => ⟨Fit.init hlb1, by simp, by simp [len2]⟩) (Nat.le_refl _)) ?_
  rintro v_ w26 ⟨⟨so_p, segs_p, rfl, h_p⟩, g_⟩
  replace hc4 := g_.heap hc4
  replace hc17 := g_.heap hc17
  replace hc23 := g_.heap hc23
  replace G := G.tr g_
  clear g_
  obtain ⟨ad_p, n_p, c_p, rfl⟩ := zE0 h_p.out
  clear h0
  refine stp (zA7 ?_)
  intro b27 w28 hb29 hc30 g31
  refine stn (qS hc30 ?_)
  intro w32 hc33 u34
  have g35 := g31.upd u34 hb29
  have hge36 := Nat.le_trans G.size hb29
  have ne37 := qN hc4 hb29
  have ne38 := qN hc17 hb29
  have ne39 := qN hc23 hb29
  replace hc4 := g35.heap hc4
  replace hc17 := g35.heap hc17
  replace hc23 := g35.heap hc23
  replace h_p := h_p.grow g35
  replace G := G.tr g35
  clear u34 g31 hb29 hc30
  refine qZ 7 ?_
  refine zA2 (b := ((t.lay n ⟨[[0]], false⟩ 0 0).full)) rfl (fun h2 => ?_) (fun h2 => ?_)
  ·
   have hb : t.build n = ([], 24) := by unfold Nd.build; rw [if_neg hnb, if_pos h2]
   refine qZ 6 ?_
   rw [hb]
   refine ret2 (zA1 (v := .slice none 0 0) rfl) (zA1 (v := .int .i64 24) rfl) ⟨_, _, rfl, OwnA.nil _ _ _ _, G⟩
  ·
   have hb : t.build n = ((t.lay n ⟨[[0]], false⟩ 0 0).A, 0) := by unfold Nd.build; rw [if_neg hnb, if_neg (by rw [h2]; simp)]
   refine qZ 9 ?_
   rw [hb]
   refine ret2 (zA1 (v := .slice ad_p n_p c_p) rfl) (zA1 (v := .int .i64 0) rfl) ⟨_, _, rfl, h_p, G⟩
end Go.Proofs.YtkkbbhpbcfcplaaGreat.K
