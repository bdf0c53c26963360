/- What is read in an arena, or in any source of words. Plain law, and what a source is in memory. -/
import Derived.Test.YtfhfecepcnapfaaO08
import Derived.Test.YtfhfecepcnapfaaJ13
import Derived.Test.YtfhfecepcnapfaaM06
set_option linter.unusedVariables false
set_option linter.unusedSimpArgs false
namespace Go.Proofs.Ytfhfecepcnapfaa.K
open Go Go.RowKit
structure Ob where
  kind : Int
  seg : Int
  at_ : Int
  data : Int
  ptrs : Int
  size : Int
  count : Int
  deriving DecidableEq
def Ob0 : Ob := ⟨0, 0, 0, 0, 0, 0, 0⟩
def Ob.pt (o : Ob) : Pt := ⟨o.kind, 0, o.data, o.ptrs, o.size, o.count, 0, false⟩
structure Src where
  sizes : List Int
  word : Int → Int → Int × Int
def addOk (a b m : Int) : Bool := decide (0 ≤ a ∧ 0 ≤ b ∧ a ≤ m ∧ b ≤ m - a)
def withinP (sizes : List Int) (seg at_ n : Int) : Bool := decide (0 ≤ seg ∧ seg < sizes.length) && addOk at_ n (sizes.getD seg.toNat 0)
def wordA (A : List (List Int)) (seg at_ : Int) : Int × Int := if 0 ≤ seg ∧ seg < A.length ∧ 0 ≤ at_ ∧ at_ < len2 A seg.toNat then ((A.getD seg.toNat []).getD at_.toNat 0, 0) else (0, 20)
def wholeS (A : List (List Int)) : Src := ⟨A.map fun s => (s.length : Int), wordA A⟩
def nearP (p : Pt) : Bool := decide (p.kind = 1) || decide (p.kind = 2)
def wordsO (o : Ob) : Int := if o.kind = 3 then 0 else wordsN o.pt
def ptrS (s : Src) (seg at_ : Int) : Pt × Int := if (s.word seg at_).2 ≠ 0 then (Pt0, (s.word seg at_).2) else (decP (s.word seg at_).1, decE (s.word seg at_).1)
def objP (p : Pt) (seg at_ : Int) : Ob := ⟨p.kind, seg, at_, p.data, p.ptrs, p.size, p.count⟩
def foundS (s : Src) (p : Pt) (seg at_ : Int) : Ob × Int :=
  if wordsE (objP p seg at_).pt ≠ 0 then (Ob0, wordsE (objP p seg at_).pt)
  else if withinP s.sizes seg at_ (wordsN (objP p seg at_).pt) = false then (Ob0, 20)
  else (objP p seg at_, 0)
def landedS (s : Src) (p : Pt) : Ob × Int :=
  if (ptrS s p.seg p.off).2 ≠ 0 then (Ob0, (ptrS s p.seg p.off).2)
  else if nearP (ptrS s p.seg p.off).1 = false then (Ob0, 23)
  else foundS s (ptrS s p.seg p.off).1 p.seg (p.off + 1 + (ptrS s p.seg p.off).1.off)
def twiceS (s : Src) (p : Pt) : Ob × Int :=
  if (s.word p.seg p.off).2 ≠ 0 then (Ob0, (s.word p.seg p.off).2)
  else if (s.word p.seg (p.off + 1)).2 ≠ 0 then (Ob0, (s.word p.seg (p.off + 1)).2)
  else if decE (s.word p.seg p.off).1 ≠ 0 then (Ob0, decE (s.word p.seg p.off).1)
  else if decE (s.word p.seg (p.off + 1)).1 ≠ 0 then (Ob0, decE (s.word p.seg (p.off + 1)).1)
  else if (decP (s.word p.seg p.off).1).kind ≠ 3 ∨ (decP (s.word p.seg p.off).1).dbl = true ∨ nearP (decP (s.word p.seg (p.off + 1)).1) = false ∨ (decP (s.word p.seg (p.off + 1)).1).off ≠ 0 then (Ob0, 23)
  else foundS s (decP (s.word p.seg (p.off + 1)).1) (decP (s.word p.seg p.off).1).seg (decP (s.word p.seg p.off).1).off
def followS (s : Src) (seg at_ : Int) : Ob × Int :=
  if (ptrS s seg at_).2 ≠ 0 ∨ (ptrS s seg at_).1.kind = 0 then (Ob0, (ptrS s seg at_).2)
  else if nearP (ptrS s seg at_).1 = true then foundS s (ptrS s seg at_).1 seg (at_ + 1 + (ptrS s seg at_).1.off)
  else if (ptrS s seg at_).1.dbl = true then twiceS s (ptrS s seg at_).1
  else landedS s (ptrS s seg at_).1
def stepS (s : Src) (o : Ob) (k : Int) : Ob × Int :=
  if o.kind = 0 ∨ (o.kind = 1 ∧ k ≥ o.ptrs) then (Ob0, 0)
  else if o.kind = 1 then followS s o.seg (o.at_ + k + o.data)
  else if o.size ≠ 6 then (o, 23)
  else if k ≥ o.count then (o, 20)
  else followS s o.seg (o.at_ + k)
def atS (s : Src) (o : Ob) (k : Int) : Int × Int :=
  if o.kind = 0 ∨ (o.kind = 1 ∧ k ≥ o.data) then (0, 0)
  else if o.kind = 1 then s.word o.seg (o.at_ + k)
  else if o.size = 6 then (0, 23)
  else if k ≥ o.count then (0, 20)
  else if o.size = 5 then s.word o.seg (o.at_ + k)
  else ((s.word o.seg (o.at_ + k / 8)).1 / 2 ^ (k % 8 * 8).toNat % 256, (s.word o.seg (o.at_ + k / 8)).2)
structure Vl where
  kind : Int
  size : Int
  words : Int
  kids : Int
  word : Int
  deriving DecidableEq
def Vl0 : Vl := ⟨0, 0, 0, 0, 0⟩
def isS (o : Ob) : Vl := ⟨o.kind, o.size, if o.kind = 2 ∧ o.size ≠ 6 then o.count else o.data, if o.kind = 2 ∧ o.size = 6 then o.count else o.ptrs, 0⟩
def valS (s : Src) (o : Ob) (at_ : Int) : Vl × Int :=
  if at_ < 0 then (isS o, 0) else if (atS s o at_).2 ≠ 0 then (Vl0, (atS s o at_).2) else (⟨o.kind, 0, 0, 0, (atS s o at_).1⟩, 0)
/-- From something that is paid on: the steps, what is left to pay. -/
def nextS (s : Src) (at_ : Int) : List Int → Ob → Int → Vl × Int
  | [], o, _ => valS s o at_
  | k :: ks, o, left =>
    if (stepS s o k).2 ≠ 0 then (Vl0, (stepS s o k).2)
    else if left - (1 + wordsO (stepS s o k).1) < 0 then (Vl0, 22)
    else nextS s at_ ks (stepS s o k).1 (left - (1 + wordsO (stepS s o k).1))
def walkS (s : Src) (steps : List Int) (at_ cost : Int) : Vl × Int :=
  if ∃ k ∈ steps, k < 0 then (Vl0, 1)
  else if (steps.length : Int) > 32 then (Vl0, 3)
  else if (followS s 0 0).2 ≠ 0 then (Vl0, (followS s 0 0).2)
  else if max cost (-1) - (1 + wordsO (followS s 0 0).1) < 0 then (Vl0, 22)
  else nextS s at_ steps (followS s 0 0).1 (max cost (-1) - (1 + wordsO (followS s 0 0).1))
/-- What a pointer out of a word may be. -/
structure PtR (p : Pt) : Prop where
  kind : 0 ≤ p.kind ∧ p.kind ≤ 3
  off : -536870912 ≤ p.off ∧ p.off ≤ 536870911
  data : 0 ≤ p.data ∧ p.data ≤ 65535
  ptrs : 0 ≤ p.ptrs ∧ p.ptrs ≤ 65535
  size : 0 ≤ p.size ∧ p.size ≤ 7
  count : 0 ≤ p.count ∧ p.count ≤ 536870911
  seg : 0 ≤ p.seg ∧ p.seg ≤ 4294967295
  far : p.kind = 3 → 0 ≤ p.off
theorem sgn30_range (n : Int) (h0 : 0 ≤ n) (h1 : n < 1073741824) : -536870912 ≤ sgn30 n ∧ sgn30 n ≤ 536870911 := by unfold sgn30; split <;> omega
theorem decP_range (x : Int) (h0 : 0 ≤ x) (h1 : x ≤ 18446744073709551615) : PtR (decP x) := by
  have hs := sgn30_range (x / 4 % 1073741824) (by omega) (by omega)
  unfold decP
  repeat' split
  all_goals first
    | (constructor <;> (simp [Pt0]; done))
    | (constructor <;> simp only [] <;> omega)
theorem Pt0_range : PtR Pt0 := by constructor <;> simp [Pt0]
theorem PtR.of {p : Pt} (h : PtR p) : PtR ⟨p.kind, 0, p.data, p.ptrs, p.size, p.count, 0, false⟩ := ⟨h.kind, by simp, h.data, h.ptrs, h.size, h.count, by simp, fun _ => by simp⟩
theorem wordsN_range {p : Pt} (h : PtR p) : 0 ≤ wordsN p ∧ wordsN p ≤ 536870912 := by
  have h1 := h.data
  have h2 := h.ptrs
  have h3 := h.count
  unfold wordsN
  rw [wrap_in (by simp only [inR]; omega : inR .i64 (p.data + p.ptrs)), wrap_in (by simp only [inR]; omega : inR .i64 (p.count + 8)), wrap_in (by simp only [inR]; omega : inR .i64 (p.count + 8 - 1)), Int.tdiv_eq_ediv_of_nonneg (by omega), wrap_in (by simp only [inR]; omega : inR .i64 ((p.count + 8 - 1) / 8))]
  repeat' split
  all_goals omega
theorem getD_mem {L : List Int} {j : Nat} (h : j < L.length) : L.getD j 0 ∈ L := by rw [getD_at h]; exact List.getElem_mem h
/-- What may be found. -/
structure ObR (o : Ob) : Prop where
  kind : 0 ≤ o.kind ∧ o.kind ≤ 2
  seg : 0 ≤ o.seg ∧ o.seg ≤ 1000000
  at_ : 0 ≤ o.at_ ∧ o.at_ ≤ 140737488355328
  data : 0 ≤ o.data ∧ o.data ≤ 65535
  ptrs : 0 ≤ o.ptrs ∧ o.ptrs ≤ 65535
  size : 0 ≤ o.size ∧ o.size ≤ 7
  count : 0 ≤ o.count ∧ o.count ≤ 536870911
theorem Ob0_range : ObR Ob0 := by constructor <;> simp [Ob0]
theorem wordsO_range {o : Ob} (h : ObR o) : 0 ≤ wordsO o ∧ wordsO o ≤ 536870912 := by
  have hp : PtR o.pt := ⟨⟨h.kind.1, by have := h.kind.2; show o.kind ≤ 3; omega⟩, by simp [Ob.pt], h.data, h.ptrs, h.size, h.count, by simp [Ob.pt], fun _ => by simp [Ob.pt]⟩
  have := wordsN_range hp
  unfold wordsO
  split
  · omega
  · exact this
/-- A byte of a word. -/
theorem shr_byte (x m : Int) (h0 : 0 ≤ x) (h1 : x ≤ 18446744073709551615) (m0 : 0 ≤ m) (m1 : m ≤ 56) : bitop .and .u64 (x / 2 ^ min m.toNat 64) 255 = x / 2 ^ m.toNat % 256 := by
  have h := getF_eq m.toNat 8 (by omega) (by decide) x h0 h1
  rw [← show (2 : Int) ^ 8 = 256 from rfl, ← h, getF]
  rw [show ((m.toNat : Nat) : Int).toNat = m.toNat from by omega]
  rfl
/-- A source of words in memory. -/
structure SrcOk (P : Program) (w : World) (v : Value) (s : Src) : Prop where
  word : ∃ t u f, v = .iface t u ∧ MethI P t "Word" f ∧ ∀ w', Grow w w' → ∀ seg at_ : Int, Gives P f #[u, .int .i64 seg, .int .i64 at_] w' (.tuple #[.int .u64 (s.word seg at_).1, .int .u16 (s.word seg at_).2])
  sizes : ∃ t u f, v = .iface t u ∧ MethI P t "Sizes" f ∧ ∀ w', Grow w w' → Calls P f #[u] w' (Ret fun r w2 => ∃ ad c, r = .slice ad s.sizes.length c ∧ RowAt w2 1 ad s.sizes.length (s.sizes.map (.int .i64)) ∧ Grow w' w2)
  num : ∀ seg at_ : Int, 0 ≤ (s.word seg at_).1 ∧ (s.word seg at_).1 ≤ 18446744073709551615 ∧ 0 ≤ (s.word seg at_).2 ∧ (s.word seg at_).2 ≤ 65535
  ok : ∀ seg at_ : Int, (s.word seg at_).2 = 0 → 0 ≤ seg ∧ seg < s.sizes.length ∧ 0 ≤ at_ ∧ at_ ≤ 140737488355328
  len : s.sizes.length ≤ 1000000
  each : ∀ i, i < s.sizes.length → 0 ≤ s.sizes.getD i 0 ∧ s.sizes.getD i 0 ≤ 140737488355328
theorem SrcOk.grow {P : Program} {w w' : World} {v : Value} {s : Src} (h : SrcOk P w v s) (g : Grow w w') : SrcOk P w' v s := by
  obtain ⟨⟨t, u, f, h1, h2, h3⟩, ⟨t', u', f', h4, h5, h6⟩, h7, h8, h9, h10⟩ := h
  exact ⟨⟨t, u, f, h1, h2, fun w2 g2 => h3 w2 (g.tr g2)⟩, ⟨t', u', f', h4, h5, fun w2 g2 => h6 w2 (g.tr g2)⟩, h7, h8, h9, h10⟩
theorem ptrS_range {P : Program} {w : World} {v : Value} {s : Src} (H : SrcOk P w v s) (seg at_ : Int) : PtR (ptrS s seg at_).1 := by
  obtain ⟨h1, h2, -, -⟩ := H.num seg at_
  unfold ptrS
  split
  · exact Pt0_range
  · exact decP_range _ h1 h2
theorem ptrS_at {P : Program} {w : World} {v : Value} {s : Src} (H : SrcOk P w v s) {seg at_ : Int} (h : (ptrS s seg at_).2 = 0) : 0 ≤ seg ∧ seg < s.sizes.length ∧ 0 ≤ at_ ∧ at_ ≤ 140737488355328 := by
  refine H.ok seg at_ ?_
  by_cases h0 : (s.word seg at_).2 = 0
  · exact h0
  · unfold ptrS at h; rw [if_pos h0] at h; exact absurd h h0
theorem foundS_range {P : Program} {w : World} {v : Value} {s : Src} (H : SrcOk P w v s) {p : Pt} (hp : PtR p) (hn : nearP p = true) (seg at_ : Int) : ObR (foundS s p seg at_).1 := by
  unfold foundS
  split
  · exact Ob0_range
  · split
    · exact Ob0_range
    · rename_i h1 h2
      simp only [Bool.not_eq_false] at h2
      unfold withinP addOk at h2
      simp only [Bool.and_eq_true, decide_eq_true_eq] at h2
      obtain ⟨⟨h3, h4⟩, h5, h6, h7, h8⟩ := h2
      have h9 := H.each seg.toNat (by omega)
      have h10 := H.len
      have hk : p.kind = 1 ∨ p.kind = 2 := by simpa [nearP] using hn
      exact ⟨by show 0 ≤ p.kind ∧ p.kind ≤ 2; omega, by show 0 ≤ seg ∧ seg ≤ _; omega, by show 0 ≤ at_ ∧ at_ ≤ _; omega, hp.data, hp.ptrs, hp.size, hp.count⟩
theorem followS_range {P : Program} {w : World} {v : Value} {s : Src} (H : SrcOk P w v s) (seg at_ : Int) : ObR (followS s seg at_).1 := by
  unfold followS
  split
  · exact Ob0_range
  · split
    · rename_i h; exact foundS_range H (ptrS_range H seg at_) h _ _
    · split
      · unfold twiceS
        split
        · exact Ob0_range
        · split
          · exact Ob0_range
          · split
            · exact Ob0_range
            · split
              · exact Ob0_range
              · split
                · exact Ob0_range
                · rename_i h
                  obtain ⟨n1, n2, -, -⟩ := H.num (ptrS s seg at_).1.seg ((ptrS s seg at_).1.off + 1)
                  refine foundS_range H (decP_range _ n1 n2) ?_ _ _
                  cases hq : nearP (decP (s.word (ptrS s seg at_).1.seg ((ptrS s seg at_).1.off + 1)).1) with
                  | true => rfl
                  | false => exact absurd (.inr (.inr (.inl hq))) h
      · unfold landedS
        split
        · exact Ob0_range
        · split
          · exact Ob0_range
          · rename_i h
            exact foundS_range H (ptrS_range H _ _) (by simpa using h) _ _
theorem stepS_range {P : Program} {w : World} {v : Value} {s : Src} (H : SrcOk P w v s) {o : Ob} (ho : ObR o) (k : Int) : ObR (stepS s o k).1 := by
  unfold stepS
  repeat' split
  all_goals first
    | exact Ob0_range
    | exact ho
    | exact followS_range H _ _
/-- An arena that may be read. -/
structure OkA (A : List (List Int)) : Prop where
  one : 1 ≤ A.length
  most : A.length ≤ 16
  first : 1 ≤ (A.getD 0 []).length
  all : totalP A ≤ 4096
  num : ∀ q ∈ A, ∀ x ∈ q, inR .u64 x
theorem seg_le_total : ∀ (A : List (List Int)) (j : Nat), (len2 A j : Int) ≤ totalP A
  | [], j => by simp [len2, totalP]
  | q :: A, 0 => by have := totalP_nn A; simp only [len2, totalP, List.getD_cons_zero]; omega
  | q :: A, j + 1 => by have := seg_le_total A j; simp only [len2, totalP, List.getD_cons_succ] at this ⊢; omega
theorem wordA_num {A : List (List Int)} (h : ∀ q ∈ A, ∀ x ∈ q, inR .u64 x) (seg a : Int) : 0 ≤ (wordA A seg a).1 ∧ (wordA A seg a).1 ≤ 18446744073709551615 ∧ 0 ≤ (wordA A seg a).2 ∧ (wordA A seg a).2 ≤ 65535 := by
  unfold wordA
  split
  · rename_i hc
    obtain ⟨h1, h2, h3, h4⟩ := hc
    have hs : seg.toNat < A.length := by omega
    have ha : a.toNat < (A.getD seg.toNat []).length := by simp only [len2] at h4; omega
    have hq := h (A.getD seg.toNat []) (by rw [getD_at hs]; exact List.getElem_mem hs) _ (getD_mem ha)
    simp only [inR] at hq
    exact ⟨hq.1, hq.2, by show (0 : Int) ≤ 0; decide, by show (0 : Int) ≤ 65535; decide⟩
  · exact ⟨by decide, by decide, by decide, by decide⟩
theorem whole_src {P : Program} {w : World} {u : Value} {A : List (List Int)} {t : TypeId} {fw fs : FuncId} (hr : OkA A) (mw : MethI P t "Word" fw) (ms : MethI P t "Sizes" fs)
    (hw : ∀ w', Grow w w' → ∀ seg a : Int, Gives P fw #[.agg #[u], .int .i64 seg, .int .i64 a] w' (.tuple #[.int .u64 (wordA A seg a).1, .int .u16 (wordA A seg a).2]))
    (hs : ∀ w', Grow w w' → Calls P fs #[.agg #[u]] w' (Ret fun r w2 => ∃ ad c, r = .slice ad A.length c ∧ RowAt w2 1 ad A.length (A.map fun s => .int .i64 (s.length : Int)) ∧ Grow w' w2)) : SrcOk P w (.iface t (.agg #[u])) (wholeS A) := by
  have hl : (wholeS A).sizes.length = A.length := by simp [wholeS]
  have hm : (wholeS A).sizes.map (Value.int .i64) = A.map fun s => .int .i64 (s.length : Int) := by simp [wholeS, Function.comp_def]
  have h16 := hr.most
  have hall := hr.all
  have hat : ∀ i, i < A.length → (wholeS A).sizes.getD i 0 = (len2 A i : Int) := fun i hi => by
    rw [getD_at (by rw [hl]; exact hi)]
    simp only [wholeS, List.getElem_map, len2]
    rw [getD_at hi]
  refine ⟨⟨t, _, fw, rfl, mw, hw⟩, ⟨t, _, fs, rfl, ms, ?_⟩, wordA_num hr.num, ?_, by rw [hl]; omega, ?_⟩
  · rw [hl, hm]; exact hs
  · intro seg a h
    simp only [wholeS, wordA] at h
    split at h
    · rename_i hc
      have := seg_le_total A seg.toNat
      rw [hl]
      omega
    · simp at h
  · intro i hi
    rw [hl] at hi
    rw [hat i hi]
    have := seg_le_total A i
    omega
section
variable {P : Program} {ops : Array Oper} {e : Env} {w w0 : World} {K : Value → World → Prop} {d : Option Nat} {ty : TypeId} {pos : String} {af : Array Edge} {g : Option (Nat × Bool)} {x y z : Operand}
theorem r_srcWord {v : Value} {s : Src} {at_ : Array TypeId} {seg a : Int} (H : SrcOk P w0 v s) (G : Grow w0 w) (hx : ev e x = v) (hy : ev e y = .int .i64 seg) (hz : ev e z = .int .i64 a)
    (h : ∀ w', Grow w w' → K (.tuple #[.int .u64 (s.word seg a).1, .int .u16 (s.word seg a).2]) w') : Run1 P ⟨d, .call ⟨.invoke x "Word", #[y, z], at_⟩, ty, pos, af, g⟩ e w K := by
  obtain ⟨t, u, f, rfl, hm, hc⟩ := H.word
  refine r_invoke (F := fun r w' => r = .tuple #[.int .u64 (s.word seg a).1, .int .u16 (s.word seg a).2] ∧ Grow w w') hm hx ?_ (fun r w' ⟨hr, hg⟩ => by subst hr; exact h w' hg)
  have h0 := hc w G seg a
  unfold Gives at h0
  rw [show ((u :: (#[y, z] : Array Operand).toList.map (ev e)).toArray) = #[u, .int .i64 seg, .int .i64 a] from by simp [hy, hz]]
  exact h0
theorem r_srcSizes {v : Value} {s : Src} {at_ : Array TypeId} (H : SrcOk P w0 v s) (G : Grow w0 w) (hx : ev e x = v)
    (h : ∀ ad c w', Grow w w' → RowAt w' 1 ad s.sizes.length (s.sizes.map (.int .i64)) → K (.slice ad s.sizes.length c) w') : Run1 P ⟨d, .call ⟨.invoke x "Sizes", #[], at_⟩, ty, pos, af, g⟩ e w K := by
  obtain ⟨t, u, f, rfl, hm, hc⟩ := H.sizes
  refine r_invoke (F := fun r w2 => ∃ ad c, r = .slice ad s.sizes.length c ∧ RowAt w2 1 ad s.sizes.length (s.sizes.map (.int .i64)) ∧ Grow w w2) hm hx ?_ (fun r w' ⟨ad, c, hr, hR, hg⟩ => by subst hr; exact h ad c w' hg hR)
  rw [show ((u :: (#[] : Array Operand).toList.map (ev e)).toArray) = #[u] from rfl]
  exact hc w G
end
end Go.Proofs.Ytfhfecepcnapfaa.K
