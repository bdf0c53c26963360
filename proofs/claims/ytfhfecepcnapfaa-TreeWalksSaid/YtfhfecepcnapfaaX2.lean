/- Laid together: R09, P08, U09, T10, T11, S08, V09, W09, U10, V11, V10, N09, Ptr, BA, BC, BD. Each part is plain law, a rule, or a walk of the functions that its names tell. -/
import Derived.Test.YtfhfecepcnapfaaX1
set_option linter.unusedVariables false
set_option linter.unusedSimpArgs false
namespace Go.Proofs.Ytfhfecepcnapfaa.K
open Go Go.RowKit
structure Ob where
  kind : Int
  seg : Int
  at_ : Int
  data : Int
  ptrs : Int
  size : Int
  count : Int
  deriving DecidableEq
def Ob0 : Ob := ⟨0, 0, 0, 0, 0, 0, 0⟩
def Ob.pt (o : Ob) : Pt := ⟨o.kind, 0, o.data, o.ptrs, o.size, o.count, 0, false⟩
structure Src where
  sizes : List Int
  word : Int → Int → Int × Int
def addOk (a b m : Int) : Bool := decide (0 ≤ a ∧ 0 ≤ b ∧ a ≤ m ∧ b ≤ m - a)
def withinP (sizes : List Int) (seg at_ n : Int) : Bool := decide (0 ≤ seg ∧ seg < sizes.length) && addOk at_ n (sizes.getD seg.toNat 0)
def wordA (A : List (List Int)) (seg at_ : Int) : Int × Int := if 0 ≤ seg ∧ seg < A.length ∧ 0 ≤ at_ ∧ at_ < len2 A seg.toNat then ((A.getD seg.toNat []).getD at_.toNat 0, 0) else (0, 20)
def wholeS (A : List (List Int)) : Src := ⟨A.map fun s => (s.length : Int), wordA A⟩
def nearP (p : Pt) : Bool := decide (p.kind = 1) || decide (p.kind = 2)
def wordsO (o : Ob) : Int := if o.kind = 3 then 0 else wordsN o.pt
def ptrS (s : Src) (seg at_ : Int) : Pt × Int := if (s.word seg at_).2 ≠ 0 then (Pt0, (s.word seg at_).2) else (decP (s.word seg at_).1, decE (s.word seg at_).1)
def objP (p : Pt) (seg at_ : Int) : Ob := ⟨p.kind, seg, at_, p.data, p.ptrs, p.size, p.count⟩
def foundS (s : Src) (p : Pt) (seg at_ : Int) : Ob × Int :=
  if wordsE (objP p seg at_).pt ≠ 0 then (Ob0, wordsE (objP p seg at_).pt)
  else if withinP s.sizes seg at_ (wordsN (objP p seg at_).pt) = false then (Ob0, 20)
  else (objP p seg at_, 0)
def landedS (s : Src) (p : Pt) : Ob × Int :=
  if (ptrS s p.seg p.off).2 ≠ 0 then (Ob0, (ptrS s p.seg p.off).2)
  else if nearP (ptrS s p.seg p.off).1 = false then (Ob0, 23)
  else foundS s (ptrS s p.seg p.off).1 p.seg (p.off + 1 + (ptrS s p.seg p.off).1.off)
def twiceS (s : Src) (p : Pt) : Ob × Int :=
  if (s.word p.seg p.off).2 ≠ 0 then (Ob0, (s.word p.seg p.off).2)
  else if (s.word p.seg (p.off + 1)).2 ≠ 0 then (Ob0, (s.word p.seg (p.off + 1)).2)
  else if decE (s.word p.seg p.off).1 ≠ 0 then (Ob0, decE (s.word p.seg p.off).1)
  else if decE (s.word p.seg (p.off + 1)).1 ≠ 0 then (Ob0, decE (s.word p.seg (p.off + 1)).1)
  else if (decP (s.word p.seg p.off).1).kind ≠ 3 ∨ (decP (s.word p.seg p.off).1).dbl = true ∨ nearP (decP (s.word p.seg (p.off + 1)).1) = false ∨ (decP (s.word p.seg (p.off + 1)).1).off ≠ 0 then (Ob0, 23)
  else foundS s (decP (s.word p.seg (p.off + 1)).1) (decP (s.word p.seg p.off).1).seg (decP (s.word p.seg p.off).1).off
def followS (s : Src) (seg at_ : Int) : Ob × Int :=
  if (ptrS s seg at_).2 ≠ 0 ∨ (ptrS s seg at_).1.kind = 0 then (Ob0, (ptrS s seg at_).2)
  else if nearP (ptrS s seg at_).1 = true then foundS s (ptrS s seg at_).1 seg (at_ + 1 + (ptrS s seg at_).1.off)
  else if (ptrS s seg at_).1.dbl = true then twiceS s (ptrS s seg at_).1
  else landedS s (ptrS s seg at_).1
def stepS (s : Src) (o : Ob) (k : Int) : Ob × Int :=
  if o.kind = 0 ∨ (o.kind = 1 ∧ k ≥ o.ptrs) then (Ob0, 0)
  else if o.kind = 1 then followS s o.seg (o.at_ + k + o.data)
  else if o.size ≠ 6 then (o, 23)
  else if k ≥ o.count then (o, 20)
  else followS s o.seg (o.at_ + k)
def atS (s : Src) (o : Ob) (k : Int) : Int × Int :=
  if o.kind = 0 ∨ (o.kind = 1 ∧ k ≥ o.data) then (0, 0)
  else if o.kind = 1 then s.word o.seg (o.at_ + k)
  else if o.size = 6 then (0, 23)
  else if k ≥ o.count then (0, 20)
  else if o.size = 5 then s.word o.seg (o.at_ + k)
  else ((s.word o.seg (o.at_ + k / 8)).1 / 2 ^ (k % 8 * 8).toNat % 256, (s.word o.seg (o.at_ + k / 8)).2)
structure Vl where
  kind : Int
  size : Int
  words : Int
  kids : Int
  word : Int
  deriving DecidableEq
def Vl0 : Vl := ⟨0, 0, 0, 0, 0⟩
def isS (o : Ob) : Vl := ⟨o.kind, o.size, if o.kind = 2 ∧ o.size ≠ 6 then o.count else o.data, if o.kind = 2 ∧ o.size = 6 then o.count else o.ptrs, 0⟩
def valS (s : Src) (o : Ob) (at_ : Int) : Vl × Int :=
  if at_ < 0 then (isS o, 0) else if (atS s o at_).2 ≠ 0 then (Vl0, (atS s o at_).2) else (⟨o.kind, 0, 0, 0, (atS s o at_).1⟩, 0)
/-- From something that is paid on: the steps, what is left to pay. -/
def nextS (s : Src) (at_ : Int) : List Int → Ob → Int → Vl × Int
  | [], o, _ => valS s o at_
  | k :: ks, o, left =>
    if (stepS s o k).2 ≠ 0 then (Vl0, (stepS s o k).2)
    else if left - (1 + wordsO (stepS s o k).1) < 0 then (Vl0, 22)
    else nextS s at_ ks (stepS s o k).1 (left - (1 + wordsO (stepS s o k).1))
def walkS (s : Src) (steps : List Int) (at_ cost : Int) : Vl × Int :=
  if ∃ k ∈ steps, k < 0 then (Vl0, 1)
  else if (steps.length : Int) > 32 then (Vl0, 3)
  else if (followS s 0 0).2 ≠ 0 then (Vl0, (followS s 0 0).2)
  else if max cost (-1) - (1 + wordsO (followS s 0 0).1) < 0 then (Vl0, 22)
  else nextS s at_ steps (followS s 0 0).1 (max cost (-1) - (1 + wordsO (followS s 0 0).1))
/-- What a pointer out of a word may be. -/
structure PtR (p : Pt) : Prop where
  kind : 0 ≤ p.kind ∧ p.kind ≤ 3
  off : -536870912 ≤ p.off ∧ p.off ≤ 536870911
  data : 0 ≤ p.data ∧ p.data ≤ 65535
  ptrs : 0 ≤ p.ptrs ∧ p.ptrs ≤ 65535
  size : 0 ≤ p.size ∧ p.size ≤ 7
  count : 0 ≤ p.count ∧ p.count ≤ 536870911
  seg : 0 ≤ p.seg ∧ p.seg ≤ 4294967295
  far : p.kind = 3 → 0 ≤ p.off
theorem sgn30_range (n : Int) (h0 : 0 ≤ n) (h1 : n < 1073741824) : -536870912 ≤ sgn30 n ∧ sgn30 n ≤ 536870911 := by unfold sgn30; split <;> omega
theorem decP_range (x : Int) (h0 : 0 ≤ x) (h1 : x ≤ 18446744073709551615) : PtR (decP x) := by
  have hs := sgn30_range (x / 4 % 1073741824) (by omega) (by omega)
  unfold decP
  repeat' split
  all_goals first
    | (constructor <;> (simp [Pt0]; done))
    | (constructor <;> simp only [] <;> omega)
theorem Pt0_range : PtR Pt0 := by constructor <;> simp [Pt0]
theorem PtR.of {p : Pt} (h : PtR p) : PtR ⟨p.kind, 0, p.data, p.ptrs, p.size, p.count, 0, false⟩ := ⟨h.kind, by simp, h.data, h.ptrs, h.size, h.count, by simp, fun _ => by simp⟩
theorem wordsN_range {p : Pt} (h : PtR p) : 0 ≤ wordsN p ∧ wordsN p ≤ 536870912 := by
  have h1 := h.data
  have h2 := h.ptrs
  have h3 := h.count
  unfold wordsN
  rw [wrap_in (by simp only [inR]; omega : inR .i64 (p.data + p.ptrs)), wrap_in (by simp only [inR]; omega : inR .i64 (p.count + 8)), wrap_in (by simp only [inR]; omega : inR .i64 (p.count + 8 - 1)), Int.tdiv_eq_ediv_of_nonneg (by omega), wrap_in (by simp only [inR]; omega : inR .i64 ((p.count + 8 - 1) / 8))]
  repeat' split
  all_goals omega
theorem getD_mem {L : List Int} {j : Nat} (h : j < L.length) : L.getD j 0 ∈ L := by rw [getD_at h]; exact List.getElem_mem h
/-- What may be found. -/
structure ObR (o : Ob) : Prop where
  kind : 0 ≤ o.kind ∧ o.kind ≤ 2
  seg : 0 ≤ o.seg ∧ o.seg ≤ 1000000
  at_ : 0 ≤ o.at_ ∧ o.at_ ≤ 140737488355328
  data : 0 ≤ o.data ∧ o.data ≤ 65535
  ptrs : 0 ≤ o.ptrs ∧ o.ptrs ≤ 65535
  size : 0 ≤ o.size ∧ o.size ≤ 7
  count : 0 ≤ o.count ∧ o.count ≤ 536870911
theorem Ob0_range : ObR Ob0 := by constructor <;> simp [Ob0]
theorem wordsO_range {o : Ob} (h : ObR o) : 0 ≤ wordsO o ∧ wordsO o ≤ 536870912 := by
  have hp : PtR o.pt := ⟨⟨h.kind.1, by have := h.kind.2; show o.kind ≤ 3; omega⟩, by simp [Ob.pt], h.data, h.ptrs, h.size, h.count, by simp [Ob.pt], fun _ => by simp [Ob.pt]⟩
  have := wordsN_range hp
  unfold wordsO
  split
  · omega
  · exact this
/-- A byte of a word. -/
theorem shr_byte (x m : Int) (h0 : 0 ≤ x) (h1 : x ≤ 18446744073709551615) (m0 : 0 ≤ m) (m1 : m ≤ 56) : bitop .and .u64 (x / 2 ^ min m.toNat 64) 255 = x / 2 ^ m.toNat % 256 := by
  have h := getF_eq m.toNat 8 (by omega) (by decide) x h0 h1
  rw [← show (2 : Int) ^ 8 = 256 from rfl, ← h, getF]
  rw [show ((m.toNat : Nat) : Int).toNat = m.toNat from by omega]
  rfl
/-- A source of words in memory. -/
structure SrcOk (P : Program) (w : World) (v : Value) (s : Src) : Prop where
  word : ∃ t u f, v = .iface t u ∧ MethI P t "Word" f ∧ ∀ w', Grow w w' → ∀ seg at_ : Int, Gives P f #[u, .int .i64 seg, .int .i64 at_] w' (.tuple #[.int .u64 (s.word seg at_).1, .int .u16 (s.word seg at_).2])
  sizes : ∃ t u f, v = .iface t u ∧ MethI P t "Sizes" f ∧ ∀ w', Grow w w' → Calls P f #[u] w' (Ret fun r w2 => ∃ ad c, r = .slice ad s.sizes.length c ∧ RowAt w2 1 ad s.sizes.length (s.sizes.map (.int .i64)) ∧ Grow w' w2)
  num : ∀ seg at_ : Int, 0 ≤ (s.word seg at_).1 ∧ (s.word seg at_).1 ≤ 18446744073709551615 ∧ 0 ≤ (s.word seg at_).2 ∧ (s.word seg at_).2 ≤ 65535
  ok : ∀ seg at_ : Int, (s.word seg at_).2 = 0 → 0 ≤ seg ∧ seg < s.sizes.length ∧ 0 ≤ at_ ∧ at_ ≤ 140737488355328
  len : s.sizes.length ≤ 1000000
  each : ∀ i, i < s.sizes.length → 0 ≤ s.sizes.getD i 0 ∧ s.sizes.getD i 0 ≤ 140737488355328
theorem SrcOk.grow {P : Program} {w w' : World} {v : Value} {s : Src} (h : SrcOk P w v s) (g : Grow w w') : SrcOk P w' v s := by
  obtain ⟨⟨t, u, f, h1, h2, h3⟩, ⟨t', u', f', h4, h5, h6⟩, h7, h8, h9, h10⟩ := h
  exact ⟨⟨t, u, f, h1, h2, fun w2 g2 => h3 w2 (g.tr g2)⟩, ⟨t', u', f', h4, h5, fun w2 g2 => h6 w2 (g.tr g2)⟩, h7, h8, h9, h10⟩
theorem ptrS_range {P : Program} {w : World} {v : Value} {s : Src} (H : SrcOk P w v s) (seg at_ : Int) : PtR (ptrS s seg at_).1 := by
  obtain ⟨h1, h2, -, -⟩ := H.num seg at_
  unfold ptrS
  split
  · exact Pt0_range
  · exact decP_range _ h1 h2
theorem ptrS_at {P : Program} {w : World} {v : Value} {s : Src} (H : SrcOk P w v s) {seg at_ : Int} (h : (ptrS s seg at_).2 = 0) : 0 ≤ seg ∧ seg < s.sizes.length ∧ 0 ≤ at_ ∧ at_ ≤ 140737488355328 := by
  refine H.ok seg at_ ?_
  by_cases h0 : (s.word seg at_).2 = 0
  · exact h0
  · unfold ptrS at h; rw [if_pos h0] at h; exact absurd h h0
theorem foundS_range {P : Program} {w : World} {v : Value} {s : Src} (H : SrcOk P w v s) {p : Pt} (hp : PtR p) (hn : nearP p = true) (seg at_ : Int) : ObR (foundS s p seg at_).1 := by
  unfold foundS
  split
  · exact Ob0_range
  · split
    · exact Ob0_range
    · rename_i h1 h2
      simp only [Bool.not_eq_false] at h2
      unfold withinP addOk at h2
      simp only [Bool.and_eq_true, decide_eq_true_eq] at h2
      obtain ⟨⟨h3, h4⟩, h5, h6, h7, h8⟩ := h2
      have h9 := H.each seg.toNat (by omega)
      have h10 := H.len
      have hk : p.kind = 1 ∨ p.kind = 2 := by simpa [nearP] using hn
      exact ⟨by show 0 ≤ p.kind ∧ p.kind ≤ 2; omega, by show 0 ≤ seg ∧ seg ≤ _; omega, by show 0 ≤ at_ ∧ at_ ≤ _; omega, hp.data, hp.ptrs, hp.size, hp.count⟩
theorem followS_range {P : Program} {w : World} {v : Value} {s : Src} (H : SrcOk P w v s) (seg at_ : Int) : ObR (followS s seg at_).1 := by
  unfold followS
  split
  · exact Ob0_range
  · split
    · rename_i h; exact foundS_range H (ptrS_range H seg at_) h _ _
    · split
      · unfold twiceS
        split
        · exact Ob0_range
        · split
          · exact Ob0_range
          · split
            · exact Ob0_range
            · split
              · exact Ob0_range
              · split
                · exact Ob0_range
                · rename_i h
                  obtain ⟨n1, n2, -, -⟩ := H.num (ptrS s seg at_).1.seg ((ptrS s seg at_).1.off + 1)
                  refine foundS_range H (decP_range _ n1 n2) ?_ _ _
                  cases hq : nearP (decP (s.word (ptrS s seg at_).1.seg ((ptrS s seg at_).1.off + 1)).1) with
                  | true => rfl
                  | false => exact absurd (.inr (.inr (.inl hq))) h
      · unfold landedS
        split
        · exact Ob0_range
        · split
          · exact Ob0_range
          · rename_i h
            exact foundS_range H (ptrS_range H _ _) (by simpa using h) _ _
theorem stepS_range {P : Program} {w : World} {v : Value} {s : Src} (H : SrcOk P w v s) {o : Ob} (ho : ObR o) (k : Int) : ObR (stepS s o k).1 := by
  unfold stepS
  repeat' split
  all_goals first
    | exact Ob0_range
    | exact ho
    | exact followS_range H _ _
/-- An arena that may be read. -/
structure OkA (A : List (List Int)) : Prop where
  one : 1 ≤ A.length
  most : A.length ≤ 16
  first : 1 ≤ (A.getD 0 []).length
  all : totalP A ≤ 4096
  num : ∀ q ∈ A, ∀ x ∈ q, inR .u64 x
theorem seg_le_total : ∀ (A : List (List Int)) (j : Nat), (len2 A j : Int) ≤ totalP A
  | [], j => by simp [len2, totalP]
  | q :: A, 0 => by have := totalP_nn A; simp only [len2, totalP, List.getD_cons_zero]; omega
  | q :: A, j + 1 => by have := seg_le_total A j; simp only [len2, totalP, List.getD_cons_succ] at this ⊢; omega
theorem wordA_num {A : List (List Int)} (h : ∀ q ∈ A, ∀ x ∈ q, inR .u64 x) (seg a : Int) : 0 ≤ (wordA A seg a).1 ∧ (wordA A seg a).1 ≤ 18446744073709551615 ∧ 0 ≤ (wordA A seg a).2 ∧ (wordA A seg a).2 ≤ 65535 := by
  unfold wordA
  split
  · rename_i hc
    obtain ⟨h1, h2, h3, h4⟩ := hc
    have hs : seg.toNat < A.length := by omega
    have ha : a.toNat < (A.getD seg.toNat []).length := by simp only [len2] at h4; omega
    have hq := h (A.getD seg.toNat []) (by rw [getD_at hs]; exact List.getElem_mem hs) _ (getD_mem ha)
    simp only [inR] at hq
    exact ⟨hq.1, hq.2, by show (0 : Int) ≤ 0; decide, by show (0 : Int) ≤ 65535; decide⟩
  · exact ⟨by decide, by decide, by decide, by decide⟩
theorem whole_src {P : Program} {w : World} {u : Value} {A : List (List Int)} {t : TypeId} {fw fs : FuncId} (hr : OkA A) (mw : MethI P t "Word" fw) (ms : MethI P t "Sizes" fs)
    (hw : ∀ w', Grow w w' → ∀ seg a : Int, Gives P fw #[.agg #[u], .int .i64 seg, .int .i64 a] w' (.tuple #[.int .u64 (wordA A seg a).1, .int .u16 (wordA A seg a).2]))
    (hs : ∀ w', Grow w w' → Calls P fs #[.agg #[u]] w' (Ret fun r w2 => ∃ ad c, r = .slice ad A.length c ∧ RowAt w2 1 ad A.length (A.map fun s => .int .i64 (s.length : Int)) ∧ Grow w' w2)) : SrcOk P w (.iface t (.agg #[u])) (wholeS A) := by
  have hl : (wholeS A).sizes.length = A.length := by simp [wholeS]
  have hm : (wholeS A).sizes.map (Value.int .i64) = A.map fun s => .int .i64 (s.length : Int) := by simp [wholeS, Function.comp_def]
  have h16 := hr.most
  have hall := hr.all
  have hat : ∀ i, i < A.length → (wholeS A).sizes.getD i 0 = (len2 A i : Int) := fun i hi => by
    rw [getD_at (by rw [hl]; exact hi)]
    simp only [wholeS, List.getElem_map, len2]
    rw [getD_at hi]
  refine ⟨⟨t, _, fw, rfl, mw, hw⟩, ⟨t, _, fs, rfl, ms, ?_⟩, wordA_num hr.num, ?_, by rw [hl]; omega, ?_⟩
  · rw [hl, hm]; exact hs
  · intro seg a h
    simp only [wholeS, wordA] at h
    split at h
    · rename_i hc
      have := seg_le_total A seg.toNat
      rw [hl]
      omega
    · simp at h
  · intro i hi
    rw [hl] at hi
    rw [hat i hi]
    have := seg_le_total A i
    omega
section
variable {P : Program} {ops : Array Oper} {e : Env} {w w0 : World} {K : Value → World → Prop} {d : Option Nat} {ty : TypeId} {pos : String} {af : Array Edge} {g : Option (Nat × Bool)} {x y z : Operand}
theorem r_srcWord {v : Value} {s : Src} {at_ : Array TypeId} {seg a : Int} (H : SrcOk P w0 v s) (G : Grow w0 w) (hx : ev e x = v) (hy : ev e y = .int .i64 seg) (hz : ev e z = .int .i64 a)
    (h : ∀ w', Grow w w' → K (.tuple #[.int .u64 (s.word seg a).1, .int .u16 (s.word seg a).2]) w') : Run1 P ⟨d, .call ⟨.invoke x "Word", #[y, z], at_⟩, ty, pos, af, g⟩ e w K := by
  obtain ⟨t, u, f, rfl, hm, hc⟩ := H.word
  refine r_invoke (F := fun r w' => r = .tuple #[.int .u64 (s.word seg a).1, .int .u16 (s.word seg a).2] ∧ Grow w w') hm hx ?_ (fun r w' ⟨hr, hg⟩ => by subst hr; exact h w' hg)
  have h0 := hc w G seg a
  unfold Gives at h0
  rw [show ((u :: (#[y, z] : Array Operand).toList.map (ev e)).toArray) = #[u, .int .i64 seg, .int .i64 a] from by simp [hy, hz]]
  exact h0
theorem r_srcSizes {v : Value} {s : Src} {at_ : Array TypeId} (H : SrcOk P w0 v s) (G : Grow w0 w) (hx : ev e x = v)
    (h : ∀ ad c w', Grow w w' → RowAt w' 1 ad s.sizes.length (s.sizes.map (.int .i64)) → K (.slice ad s.sizes.length c) w') : Run1 P ⟨d, .call ⟨.invoke x "Sizes", #[], at_⟩, ty, pos, af, g⟩ e w K := by
  obtain ⟨t, u, f, rfl, hm, hc⟩ := H.sizes
  refine r_invoke (F := fun r w2 => ∃ ad c, r = .slice ad s.sizes.length c ∧ RowAt w2 1 ad s.sizes.length (s.sizes.map (.int .i64)) ∧ Grow w w2) hm hx ?_ (fun r w' ⟨ad, c, hr, hR, hg⟩ => by subst hr; exact h ad c w' hg hR)
  rw [show ((u :: (#[] : Array Operand).toList.map (ev e)).toArray) = #[u] from rfl]
  exact hc w G
end
end Go.Proofs.Ytfhfecepcnapfaa.K

namespace Go.Proofs.Ytfhfecepcnapfaa.K
open Go Go.RowKit

/-! ### what choices make may be -/
theorem rights_iff {left : Nat} : ∀ {ks : List Nd}, Nd.rights ks left = true ↔ ∀ t ∈ ks, t.right left = true
  | [] => by simp [Nd.rights]
  | t :: ts => by simp only [Nd.rights, Bool.and_eq_true, rights_iff (ks := ts), List.mem_cons, forall_eq_or_imp]
theorem right_nil (l : Nat) : Nd.nil.right l = true := by simp [Nd.nil, Nd.right, Nd.own, Nd.rights]
theorem treesP_all {f : List Int → Nd × List Int} {Q : List Int → Prop} {R : Nd → Prop} (hf : ∀ c, Q c → Q (f c).2 ∧ R (f c).1) : ∀ (n : Nat) (c : List Int), Q c → ∀ t ∈ (treesP f n c).1, R t
  | 0, c, h => by simp [treesP]
  | n + 1, c, h => by
    have h2 := treesP_mem (f := f) (Q := Q) (fun c hc => (hf c hc).1) n c h
    intro t ht
    simp only [treesP, List.mem_append, List.mem_singleton] at ht
    rcases ht with ht | rfl
    · exact treesP_all hf n c h t ht
    · exact (hf _ h2).2
def isU8 (c : List Int) : Prop := ∀ x ∈ c, inR .u8 x
theorem treeP_right : ∀ (d : Nat) (c : List Int) (l : Nat), d ≤ l → isU8 c → (treeP d c).1.right l = true
  | 0, c, l, _, _ => by simp [treeP, right_nil]
  | d + 1, [], l, _, _ => by simp [treeP, right_nil]
  | d + 1, k :: c, l, hl, hc => by
    have hk := hc k (by simp)
    simp only [inR] at hk
    have hcc : isU8 c := fun x hx => hc x (by simp [hx])
    have hr : Nd.rights (treesP (treeP d) (k / 8 % 5).toNat c).1 (l - 1) = true := rights_iff.2 (treesP_all (f := treeP d) (Q := isU8) (R := fun t => t.right (l - 1) = true) (fun c hq => ⟨treeP_rest d c hq, treeP_right d c (l - 1) (by omega) hq⟩) _ c hcc)
    have hn := treesP_count (treeP d) (k / 8 % 5).toNat c
    have hl0 : ¬ l = 0 := by omega
    simp only [treeP]
    split
    · exact right_nil l
    · split
      · simp [Nd.right, Nd.rights, Nd.own, hl0]; omega
      · split
        · simp [Nd.right, Nd.rights, Nd.own, hl0]; omega
        · split
          · simp only [Nd.right, hr, Nd.own, Bool.and_true]
            simp [hl0]; omega
          · simp only [Nd.right, hr, Nd.own, Bool.and_true]
            simp [hl0]; split <;> omega
theorem treeP_needs : ∀ (d : Nat) (c : List Int), isU8 c → (treeP d c).1.needs + 7 * ((treeP d c).2.length : Int) ≤ 7 * c.length
  | 0, c, _ => by simp [treeP, Nd.nil, Nd.needs, Nd.needsL, Nd.need]
  | d + 1, [], _ => by simp [treeP, Nd.nil, Nd.needs, Nd.needsL, Nd.need]
  | d + 1, k :: c, hc => by
    have hk := hc k (by simp)
    simp only [inR] at hk
    have hcc : isU8 c := fun x hx => hc x (by simp [hx])
    have key : ∀ (n : Nat) (c : List Int), isU8 c → Nd.needsL (treesP (treeP d) n c).1 + 7 * ((treesP (treeP d) n c).2.length : Int) ≤ 7 * c.length := by
      intro n
      induction n with
      | zero => intro c _; simp [treesP, Nd.needsL]
      | succ n ih =>
        intro c hq
        have h1 := ih c hq
        have h2 := treeP_needs d (treesP (treeP d) n c).2 (treesP_rest d n c hq)
        simp only [treesP, needsL_append, Nd.needsL]
        omega
    have hs := key (k / 8 % 5).toNat c hcc
    have hn := treesP_count (treeP d) (k / 8 % 5).toNat c
    simp only [treeP]
    split
    · simp [Nd.nil, Nd.needs, Nd.needsL, Nd.need]; omega
    · split
      · simp [Nd.needs, Nd.needsL, Nd.need]; omega
      · split
        · simp [Nd.needs, Nd.needsL, Nd.need]; omega
        · split
          · simp only [Nd.needs, Nd.need, List.length_nil, List.length_cons, hn]; simp only [show ¬ ((2 : Int) = 1) from by decide, if_false, if_true]; omega
          · simp only [Nd.needs, Nd.need, List.length_map, List.length_range, List.length_cons, hn, if_true]; omega
/-! ### in one segment -/
theorem growA1 (s l : List Int) : growA [s] 0 l = [s ++ l] := by simp [growA, growB]
theorem setP1 (s : List Int) (i : Nat) (x : Int) : setP [s] 0 i x = [s.set i x] := by simp [setP]
theorem full1 {size : Int} {s : List Int} (h1 : (s.length : Int) ≤ size) (h2 : s.length ≤ 4096) : fullP size [s] 0 = false := by
  simp [fullP, len2, totalP]; omega
mutual
theorem Nd.lay_one (size : Int) : ∀ (t : Nd) (s : List Int) (i : Nat), t.fine → i < s.length → (s.length : Int) + t.needs ≤ size → (s.length : Int) + t.needs ≤ 4096 →
    ∃ s', t.lay size ⟨[s], false⟩ 0 i = ⟨[s'], false⟩ ∧ (s'.length : Int) = s.length + t.needs
  | .mk k z w b ks, s, i, hR, hi, h1, h2 => by
    obtain ⟨hkd, hlw, hlb, hlk, hnn, hnm, hkn, hb1⟩ := Nd.own_b (Nd.fine_own hR)
    have hnl := Nd.needsL_nn ks
    simp only [Nd.needs] at h1 h2
    simp only [Nd.lay, Bool.false_eq_true, or_false]
    by_cases hk : k = 0
    · have hks : ks = [] := own_kids (Nd.fine_own hR) (by omega)
      subst hks
      rw [if_pos hk]
      exact ⟨s, rfl, by simp [Nd.needs, Nd.need, hk, Nd.needsL]⟩
    · rw [if_neg hk]
      by_cases hn : (Nd.mk k z w b ks).need = 0
      · rw [if_pos hn, setP1]
        have hks : ks = [] := List.eq_nil_of_length_eq_zero (by have := hkn hk; omega)
        subst hks
        exact ⟨_, rfl, by rw [List.length_set]; simp [Nd.needs, hn, Nd.needsL]⟩
      · rw [if_neg hn]
        have hp : placeP size (.mk k z w b ks) ⟨[s], false⟩ 0 i = ⟨⟨[s.set i ((Nd.mk k z w b ks).near ((s.length : Int) - i - 1))], false⟩, 0, s.length⟩ := by
          unfold placeP
          rw [if_pos (by refine ⟨rfl, ?_⟩; show ((s.length : Nat) : Int) + _ ≤ _; omega)]
          show (⟨⟨setP [s] 0 i _, false⟩, 0, _⟩ : Plc) = _
          rw [setP1]
          rfl
        have hco : ((Nd.mk k z w b ks).content.length : Int) = (Nd.mk k z w b ks).need := Nd.content_length _ (by simp only [Nd.kind]; omega) (by simpa only [Nd.kind, Nd.bytes] using hb1)
        rw [hp]
        have hm : moreP size ⟨[s.set i ((Nd.mk k z w b ks).near ((s.length : Int) - i - 1))], false⟩ 0 (Nd.mk k z w b ks).content = ⟨[s.set i ((Nd.mk k z w b ks).near ((s.length : Int) - i - 1)) ++ (Nd.mk k z w b ks).content], false⟩ := by
          simp only [moreP, growA1, Bool.false_or]
          rw [full1 (by rw [List.length_append, List.length_set]; omega) (by rw [List.length_append, List.length_set]; omega)]
        simp only [hm]
        obtain ⟨s', h3, h4⟩ := Nd.lays_one size ks (s.set i ((Nd.mk k z w b ks).near ((s.length : Int) - i - 1)) ++ (Nd.mk k z w b ks).content) (s.length + ((Nd.mk k z w b ks).need.toNat - ks.length)) (fun j hj => Nd.fine_kid hR hj)
          (by rw [List.length_append, List.length_set]; have := hkn hk; omega) (by rw [List.length_append, List.length_set]; omega) (by rw [List.length_append, List.length_set]; omega)
        refine ⟨s', h3, ?_⟩
        rw [h4, List.length_append, List.length_set]
        simp only [Nd.needs]
        omega
theorem Nd.lays_one (size : Int) : ∀ (ts : List Nd) (s : List Int) (i : Nat), (∀ (j : Nat) (h : j < ts.length), ts[j].fine) → i + ts.length ≤ s.length → (s.length : Int) + Nd.needsL ts ≤ size → (s.length : Int) + Nd.needsL ts ≤ 4096 →
    ∃ s', Nd.lays size ts ⟨[s], false⟩ 0 i = ⟨[s'], false⟩ ∧ (s'.length : Int) = s.length + Nd.needsL ts
  | [], s, i, _, _, _, _ => ⟨s, rfl, by simp [Nd.needsL]⟩
  | t :: ts, s, i, hR, hi, h1, h2 => by
    have ha := Nd.needs_nn t
    have hb := Nd.needsL_nn ts
    simp only [Nd.needsL, List.length_cons] at h1 h2 hi
    obtain ⟨s1, h3, h4⟩ := Nd.lay_one size t s i (hR 0 (by simp)) (by omega) (by omega) (by omega)
    obtain ⟨s2, h5, h6⟩ := Nd.lays_one size ts s1 (i + 1) (fun j hj => by have := hR (j + 1) (by simpa using hj); simpa using this) (by omega) (by omega) (by omega)
    refine ⟨s2, by simp only [Nd.lays, h3, h5], ?_⟩
    simp only [Nd.needsL]
    omega
end
theorem Nd.build_one {t : Nd} {size : Int} (hR : t.right 32 = true) (h1 : 1 + t.needs ≤ size) (h2 : size ≤ 4096) : ∃ s, t.build size = ([s], 0) ∧ (s.length : Int) = 1 + t.needs := by
  have hn := Nd.needs_nn t
  obtain ⟨s, h3, h4⟩ := Nd.lay_one size t [0] 0 ⟨32, hR⟩ (by simp) (by simpa using h1) (by simp; omega)
  refine ⟨s, ?_, by simpa using h4⟩
  unfold Nd.build
  rw [if_neg (by rw [hR]; simp; omega), h3, if_neg (by simp)]
theorem Nd.build_fit {t : Nd} {size : Int} (h : (t.build size).2 = 0) : Fit size (t.build size).1 := by
  unfold Nd.build at h ⊢
  split
  · rename_i hc; rw [if_pos hc] at h; simp at h
  · rename_i hc
    rw [if_neg hc] at h
    split
    · rename_i hf; rw [if_pos hf] at h; simp at h
    · rename_i hf
      have hf : (t.lay size ⟨[[0]], false⟩ 0 0).full = false := by simpa using hf
      exact (t.lay_ok size ⟨[[0]], false⟩ 0 0 (by simp)).fit (Fit.init (by omega)) hf
/-! ### one in the other -/
/-! ### things without words -/
theorem getD_u8 {ys : List Int} (h : isU8 ys) (i : Nat) : 0 ≤ ys.getD i 0 ∧ ys.getD i 0 ≤ 255 := by
  rcases Nat.lt_or_ge i ys.length with h1 | h1
  · have := h _ (List.getElem_mem h1)
    rw [getD_at h1]
    simpa [inR] using this
  · rw [List.getD_eq_getElem?_getD, List.getElem?_eq_none h1]; simp
end Go.Proofs.Ytfhfecepcnapfaa.K

namespace Go.Proofs.Ytfhfecepcnapfaa.K
open Go Go.RowKit
def known9 : List (List Int) := [[4294967296, 7]]
theorem known9_build : (Nd.mk 1 0 [7] [] []).build 9 = (known9, 0) := by decide +kernel
theorem known9_ok : OkA known9 := ⟨by decide, by decide, by decide, by decide, by
  intro q hq x hx
  simp only [known9, List.mem_singleton] at hq
  subst hq
  simp only [List.mem_cons, List.not_mem_nil, or_false] at hx
  rcases hx with rfl | rfl <;> simp [inR]⟩
theorem rowat_nil (w : World) (sz : Nat) : RowAt w sz none 0 [] := ⟨by simp, by omega, fun h => by omega⟩
/-! ### noughts -/
def noughts (m : Nat) : List (List Int) := [List.replicate m 0]
/-- The path that choices say. -/
def pathP (c : List Int) : List Int := (c.take 6).map (· % 6)
theorem pathP_range {c : List Int} : ∀ x ∈ pathP c, 0 ≤ x ∧ x ≤ 5 := by
  intro x hx
  obtain ⟨y, _, rfl⟩ := List.mem_map.1 hx
  omega
theorem pathP_length (c : List Int) : (pathP c).length ≤ 6 := by simp only [pathP, List.length_map, List.length_take]; omega
theorem arena_one {w : World} {b : Nat} {u : Value} {q : List Int} {T : TypeId} {fr : Nat × Nat} (hb : w.heap[b]? = some (.cells #[u] T fr)) (hu : Row w 1 u q.length (wordsV q)) : ArenaR w (.slice (some ⟨b, 0, none⟩) 1 1) [q] := by
  refine ⟨[u], Row.of_block (n := 1) hb rfl rfl (by decide), fun i s hi => ?_⟩
  cases i with
  | zero => simp only [List.getElem?_cons_zero, Option.some.injEq] at hi; subst hi; exact ⟨u, rfl, hu⟩
  | succ i => simp at hi
end Go.Proofs.Ytfhfecepcnapfaa.K

namespace Go.Proofs.Ytfhfecepcnapfaa.K
open Go Go.RowKit
/-- One step, in a tree. -/
def tstep (t : Nd) (k : Int) : Nd × Int :=
  if (t.kind ≠ 0 ∧ t.kind ≠ 1) ∧ t.size ≠ 6 then (.nil, 23)
  else if t.kind ≠ 0 ∧ k < t.kids.length then (t.kids.getD k.toNat .nil, 0)
  else if t.kind ≠ 0 ∧ t.kind ≠ 1 then (.nil, 20)
  else (.nil, 0)
/-- A word, of something in a tree. -/
def tat (t : Nd) (k : Int) : Int × Int :=
  if (t.kind ≠ 0 ∧ t.kind ≠ 1) ∧ t.size = 6 then (0, 23)
  else if t.kind ≠ 0 ∧ k < t.words.length then (t.words.getD k.toNat 0, 0)
  else if ((t.kind ≠ 0 ∧ t.kind ≠ 1) ∧ t.size = 2) ∧ k < t.bytes.length then (t.bytes.getD k.toNat 0, 0)
  else if t.kind ≠ 0 ∧ t.kind ≠ 1 then (0, 20)
  else (0, 0)
theorem tstep_mk (k s : Int) (w b : List Int) (ks : List Nd) (i : Int) : tstep (.mk k s w b ks) i = if (k ≠ 0 ∧ k ≠ 1) ∧ s ≠ 6 then (.nil, 23) else if k ≠ 0 ∧ i < ks.length then (ks.getD i.toNat .nil, 0) else if k ≠ 0 ∧ k ≠ 1 then (.nil, 20) else (.nil, 0) := rfl
theorem tat_mk (k s : Int) (w b : List Int) (ks : List Nd) (i : Int) : tat (.mk k s w b ks) i = if (k ≠ 0 ∧ k ≠ 1) ∧ s = 6 then (0, 23) else if k ≠ 0 ∧ i < w.length then (w.getD i.toNat 0, 0) else if ((k ≠ 0 ∧ k ≠ 1) ∧ s = 2) ∧ i < b.length then (b.getD i.toNat 0, 0) else if k ≠ 0 ∧ k ≠ 1 then (0, 20) else (0, 0) := rfl
def tgo : List Int → Nd → Nd × Int
  | [], t => (t, 0)
  | k :: ks, t => if (tstep t k).2 ≠ 0 then (.nil, (tstep t k).2) else tgo ks (tstep t k).1
def tval (t : Nd) (a : Int) : Vl × Int :=
  if a < 0 then (⟨t.kind, t.size, (t.words.length : Int) + t.bytes.length, t.kids.length, 0⟩, 0)
  else if (tat t a).2 ≠ 0 then (Vl0, (tat t a).2) else (⟨t.kind, 0, 0, 0, (tat t a).1⟩, 0)
def askT (t : Nd) (steps : List Int) (a : Int) : Vl × Int :=
  if ∃ k ∈ steps, k < 0 then (Vl0, 1)
  else if (steps.length : Int) > 32 then (Vl0, 3)
  else if (tgo steps t).2 ≠ 0 then (Vl0, (tgo steps t).2)
  else tval (tgo steps t).1 a
theorem any_neg {steps : List Int} : (List.range' 0 steps.length).any (fun i => decide (steps.getD i 0 < 0)) = true ↔ ∃ k ∈ steps, k < 0 := by
  rw [List.any_eq_true]
  constructor
  · rintro ⟨i, hi, h⟩
    have hlt : i < steps.length := by simpa using hi
    exact ⟨_, getD_mem hlt, of_decide_eq_true h⟩
  · rintro ⟨k, hk, h⟩
    obtain ⟨j, hj, rfl⟩ := List.getElem_of_mem hk
    exact ⟨j, by simpa using hj, decide_eq_true (by rw [getD_at hj]; exact h)⟩
theorem NodeR.lens {w : World} {y0 y1 : Int} {ya za ua : Option Addr} {yn yc zn zc un uc : Nat} {u : Nd} (h : NodeR w [.int .i64 y0, .int .i64 y1, .slice ya yn yc, .slice za zn zc, .slice ua un uc] u) :
    u.kind = y0 ∧ u.size = y1 ∧ u.words.length = yn ∧ u.bytes.length = zn ∧ u.kids.length = un ∧ yn ≤ 140737488355328 ∧ zn ≤ 140737488355328 ∧ un ≤ 140737488355328 := by
  generalize hc : [Value.int .i64 y0, .int .i64 y1, .slice ya yn yc, .slice za zn zc, .slice ua un uc] = c at h
  obtain @⟨kind, size, words, bytes, kids, ws, bs, ks, kc, hk, hs, hW, hwr, hB, hbr, hK, hKs⟩ := h
  obtain ⟨aw, cw, rfl, -, -, h1⟩ := hW
  obtain ⟨ab, cb, rfl, -, -, h2⟩ := hB
  obtain ⟨ak, ck, rfl, -, -, h3⟩ := hK
  simp only [List.cons.injEq, Value.int.injEq, Value.slice.injEq, true_and, and_true] at hc
  obtain ⟨rfl, rfl, ⟨-, rfl, -⟩, ⟨-, rfl, -⟩, -, rfl, -⟩ := hc
  exact ⟨rfl, rfl, rfl, rfl, rfl, h1.lim, h2.lim, h3.lim⟩
theorem tgo_drop {steps : List Int} {k : Nat} (hi : k < steps.length) (u : Nd) : tgo (steps.drop k) u = if (tstep u (steps.getD k 0)).2 ≠ 0 then (.nil, (tstep u (steps.getD k 0)).2) else tgo (steps.drop (k + 1)) (tstep u (steps.getD k 0)).1 := by
  rw [List.drop_eq_getElem_cons hi, getD_at hi, tgo]
def capM (n : Int) : Int := if 9007199254740992 < n then 9007199254740992 else n
mutual
def Nd.cost : Nd → Int
  | .mk k s w b ks => Nd.costL ks (1 + (Nd.mk k s w b ks).need)
def Nd.costL : List Nd → Int → Int
  | [], n => n
  | t :: ts, n => Nd.costL ts (capM (n + t.cost))
end
theorem Nd.costL_take : ∀ {ks : List Nd} {k : Nat} (n : Int) (h : k < ks.length), Nd.costL (ks.take (k + 1)) n = capM (Nd.costL (ks.take k) n + ks[k].cost)
  | [], k, n, h => by simp at h
  | t :: ts, 0, n, h => by simp [Nd.costL]
  | t :: ts, k + 1, n, h => by
    simp only [List.length_cons] at h
    simp only [List.take_succ_cons, Nd.costL, List.getElem_cons_succ]
    exact Nd.costL_take (ks := ts) (k := k) _ (by omega)
theorem capM_le (n : Int) : capM n ≤ 9007199254740992 := by unfold capM; split <;> omega
theorem capM_pos {n : Int} (h : 1 ≤ n) : 1 ≤ capM n := by unfold capM; split <;> omega
mutual
theorem Nd.cost_pos : ∀ (t : Nd), 1 ≤ t.cost
  | .mk k s w b ks => by
    rw [Nd.cost]
    exact Nd.costL_pos ks _ (by have := Nd.need_nn (.mk k s w b ks); omega)
theorem Nd.costL_pos : ∀ (ts : List Nd) (n : Int), 1 ≤ n → 1 ≤ Nd.costL ts n
  | [], n, h0 => h0
  | t :: ts, n, h0 => by
    rw [Nd.costL]
    exact Nd.costL_pos ts _ (capM_pos (by have := Nd.cost_pos t; omega))
end
theorem Nd.costL_le : ∀ (ts : List Nd) (n : Int), n ≤ 9007199254740992 → Nd.costL ts n ≤ 9007199254740992
  | [], n, h0 => h0
  | t :: ts, n, h0 => by rw [Nd.costL]; exact Nd.costL_le ts _ (capM_le _)
theorem NodeR.need_le {w : World} {c : List Value} {t : Nd} (h : NodeR w c t) : t.need ≤ 900000000000000 := by
  obtain @⟨kind, size, words, bytes, kids, ws, bs, ks, kc, hk, hs, hW, hwr, hB, hbr, hK, hKs⟩ := h
  obtain ⟨aw, cw, rfl, -, -, h1⟩ := hW
  obtain ⟨ab, cb, rfl, -, -, h2⟩ := hB
  obtain ⟨ak, ck, rfl, -, -, h3⟩ := hK
  have h1 := h1.lim
  have h2 := h2.lim
  have h3 := h3.lim
  simp only [Nd.need]
  split
  · omega
  · split <;> omega
theorem Nd.cost_le {t : Nd} (h : t.need ≤ 900000000000000) : t.cost ≤ 9007199254740992 := by
  cases t with
  | mk k s w b ks => rw [Nd.cost]; exact Nd.costL_le _ _ (by omega)
/-! ### decoding -/
def wordsS (s : Src) (seg a : Int) (n : Nat) : List Int := (List.range n).map fun (i : Nat) => (s.word seg (a + (i : Int))).1
def byt1 (x : Int) (i : Nat) : Int := x / 2 ^ (8 * i) % 256
def byt8 (x : Int) : List Int := (List.range 8).map (byt1 x)
def bytesS (s : Src) (seg a : Int) (n : Nat) : List Int := ((wordsS s seg a ((n + 7) / 8)).flatMap byt8).take n
theorem wordsS_len (s : Src) (seg a : Int) (n : Nat) : (wordsS s seg a n).length = n := by simp [wordsS]
theorem wordsS_succ (s : Src) (seg a : Int) (n : Nat) : wordsS s seg a (n + 1) = wordsS s seg a n ++ [(s.word seg (a + (n : Int))).1] := by simp [wordsS, List.range_succ]
theorem byt8_len (x : Int) : (byt8 x).length = 8 := by simp [byt8]
theorem flat8_len (l : List Int) : (l.flatMap byt8).length = 8 * l.length := by
  induction l with
  | nil => rfl
  | cons x l ih => rw [List.flatMap_cons, List.length_append, ih, byt8_len, List.length_cons]; omega
theorem bytesS_len (s : Src) (seg a : Int) (n : Nat) : (bytesS s seg a n).length = n := by
  rw [bytesS, List.length_take, flat8_len, wordsS_len]; omega
theorem byt1_range (x : Int) (i : Nat) : 0 ≤ byt1 x i ∧ byt1 x i ≤ 255 := by unfold byt1; omega
theorem bytesS_u8 (s : Src) (seg a : Int) (n : Nat) : ∀ x ∈ bytesS s seg a n, inR .u8 x := by
  intro x hx
  obtain ⟨y, -, hy⟩ := List.mem_flatMap.1 (List.mem_of_mem_take hx)
  obtain ⟨i, -, rfl⟩ := List.mem_map.1 hy
  have := byt1_range y i
  simp only [inR]; omega
theorem wordsS_u64 {P : Program} {w : World} {v : Value} {s : Src} (H : SrcOk P w v s) (seg a : Int) (n : Nat) : ∀ x ∈ wordsS s seg a n, inR .u64 x := by
  intro x hx
  obtain ⟨i, -, rfl⟩ := List.mem_map.1 hx
  have := H.num seg (a + i)
  simp only [inR]; omega
/-- A byte of a word, as it is put. -/
theorem put_byte (x : Int) (k : Nat) (h0 : 0 ≤ x) (h1 : x ≤ 18446744073709551615) (hk : k ≤ 7) : IntKind.u8.wrap (x / 2 ^ min (8 * (k : Int)).toNat (IntKind.bits .u64)) = byt1 x k := by
  have e : min (8 * (k : Int)).toNat (IntKind.bits .u64) = 8 * k := by show min _ 64 = _; omega
  rw [e, IntKind.wrap_u8, byt1]
def putCells (x : Int) (k : Nat) : List Value := ((List.range k).map fun i => .int .u8 (byt1 x i)) ++ List.replicate (8 - k) (.int .u8 0)
theorem putCells_set (x : Int) (k : Nat) (hk : k < 8) : (putCells x k).set k (.int .u8 (byt1 x k)) = putCells x (k + 1) := by
  have hr : 8 - k = (8 - (k + 1)) + 1 := by omega
  unfold putCells
  rw [hr, List.replicate_succ, List.set_append_right _ _ (by simp)]
  simp [List.range_succ]
theorem putCells_len (x : Int) (k : Nat) (hk : k ≤ 8) : (putCells x k).length = 8 := by simp [putCells]; omega
theorem putCells_all (x : Int) : putCells x 8 = (byt8 x).map (.int .u8) := by simp [putCells, byt8, Function.comp_def]
theorem own_hide_range {w : World} {base n : Nat} {T : TypeId} {v : Value} {k : IntKind} {xs : List Int} (h : w.ownsRow base T 1 v n (xs.map (.int k))) (hm : xs.length = n) (hl : n ≤ 140737488355328) : Row (hide base w) 1 v n (xs.map (.int k)) := by
  subst hm
  exact own_hide h hl
/-- A made row is a block. -/
theorem own_made' {w : World} {base b n : Nat} {T : TypeId} {xs : List Value} (h : w.ownsRow base T 1 (.slice (some ⟨b, 0, none⟩) n n) n xs) : base ≤ b ∧ ∃ cur : Array Value, w.heap[b]? = some (.cells cur T (0, 0)) ∧ cur.size = n ∧ cur.toList = xs := by
  obtain ⟨h0, h1⟩ := h
  rcases h1 with ⟨h1, -⟩ | ⟨q, cap, cur, hv, hq, hg, h1, h2, h3, h4⟩
  · simp at h1
  · simp only [Value.slice.injEq, Option.some.injEq, Addr.mk.injEq, and_true, true_and] at hv
    obtain ⟨rfl, rfl⟩ := hv
    refine ⟨hq, cur, hg, by omega, ?_⟩
    rw [← h4, List.take_of_length_le (by rw [Array.length_toList]; omega)]
end Go.Proofs.Ytfhfecepcnapfaa.K

namespace Go.Proofs.Ytfhfecepcnapfaa.K
open Go Go.RowKit
def kidN (o : Ob) : Int := if o.size = 6 then o.count else o.ptrs
def kidA (o : Ob) : Int := if o.size = 6 then o.at_ else o.at_ + o.data
def nodL (s : Src) (o : Ob) : List Int := wordsS s o.seg o.at_ (if o.size = 5 then o.count else o.data).toNat
def nodB (s : Src) (o : Ob) : List Int := if o.size = 2 then bytesS s o.seg o.at_ o.count.toNat else []
/-- So many kids, one behind the other; what is paid; the first error. -/
def kidsD (f : Int → Int → Int × Nd × Int) (a p : Int) : Nat → Int × List Nd × Int
  | 0 => (p, [], 0)
  | n + 1 => if (kidsD f a p n).2.2 ≠ 0 then kidsD f a p n
    else ((f (a + (n : Int)) (kidsD f a p n).1).1, (kidsD f a p n).2.1 ++ [(f (a + (n : Int)) (kidsD f a p n).1).2.1], (f (a + (n : Int)) (kidsD f a p n).1).2.2)
def nodeK (s : Src) (last : Bool) (f : Int → Int → Int → Int × Nd × Int) (seg a paid : Int) : Int × Nd × Int :=
  if (followS s seg a).2 ≠ 0 then (paid, .nil, (followS s seg a).2)
  else if (followS s seg a).1.kind ≠ 0 ∧ last = true then (paid + (1 + wordsO (followS s seg a).1), .nil, 21)
  else if paid + (1 + wordsO (followS s seg a).1) > 8192 then (paid + (1 + wordsO (followS s seg a).1), .nil, 22)
  else if (kidsD (f (followS s seg a).1.seg) (kidA (followS s seg a).1) (paid + (1 + wordsO (followS s seg a).1)) (kidN (followS s seg a).1).toNat).2.2 ≠ 0 then
    ((kidsD (f (followS s seg a).1.seg) (kidA (followS s seg a).1) (paid + (1 + wordsO (followS s seg a).1)) (kidN (followS s seg a).1).toNat).1, .nil, (kidsD (f (followS s seg a).1.seg) (kidA (followS s seg a).1) (paid + (1 + wordsO (followS s seg a).1)) (kidN (followS s seg a).1).toNat).2.2)
  else ((kidsD (f (followS s seg a).1.seg) (kidA (followS s seg a).1) (paid + (1 + wordsO (followS s seg a).1)) (kidN (followS s seg a).1).toNat).1,
    .mk (followS s seg a).1.kind (followS s seg a).1.size (nodL s (followS s seg a).1) (nodB s (followS s seg a).1) (kidsD (f (followS s seg a).1.seg) (kidA (followS s seg a).1) (paid + (1 + wordsO (followS s seg a).1)) (kidN (followS s seg a).1).toNat).2.1, 0)
/-- What a word leads to, as a tree: so many levels left, what was paid before. -/
def nodeD (s : Src) : Nat → Int → Int → Int → Int × Nd × Int
  | 0, seg, a, paid => nodeK s true (fun _ _ p => (p, .nil, 0)) seg a paid
  | d + 1, seg, a, paid => nodeK s false (fun seg a p => nodeD s d seg a p) seg a paid
def nodeF (s : Src) : Nat → Int → Int → Int → Int × Nd × Int
  | 0 => fun _ _ p => (p, .nil, 0)
  | d + 1 => nodeD s d
theorem nodeD_eq (s : Src) (d : Nat) (seg a paid : Int) : nodeD s d seg a paid = nodeK s (d == 0) (nodeF s d) seg a paid := by
  cases d with
  | zero => rfl
  | succ d => rfl
theorem kidsD_stop {f : Int → Int → Int × Nd × Int} {a p : Int} {k : Nat} (h : (kidsD f a p k).2.2 ≠ 0) : ∀ (n : Nat), kidsD f a p (k + n) = kidsD f a p k
  | 0 => rfl
  | n + 1 => by
    rw [← Nat.add_assoc, kidsD, kidsD_stop h n, if_pos h]
theorem kidsD_stop' {f : Int → Int → Int × Nd × Int} {a p : Int} {k n : Nat} (h : (kidsD f a p k).2.2 ≠ 0) (hk : k ≤ n) : kidsD f a p n = kidsD f a p k := by
  obtain ⟨m, rfl⟩ := Nat.exists_eq_add_of_le hk
  exact kidsD_stop h m
theorem kidsD_count {f : Int → Int → Int × Nd × Int} {a p : Int} : ∀ (n : Nat), (kidsD f a p n).2.2 = 0 → (kidsD f a p n).2.1.length = n
  | 0, _ => rfl
  | n + 1, h => by
    rw [kidsD] at h ⊢
    by_cases h0 : (kidsD f a p n).2.2 ≠ 0
    · rw [if_pos h0] at h; exact absurd h h0
    · rw [if_neg h0]
      rw [List.length_append, kidsD_count n (by simpa using h0)]; rfl
/-- What may be found, by its kind. -/
def ObK (o : Ob) : Prop := o = Ob0 ∨ (o.kind = 1 ∧ o.size = 0 ∧ o.count = 0) ∨ (o.kind = 2 ∧ o.data = 0 ∧ o.ptrs = 0 ∧ (o.size = 2 ∨ o.size = 5 ∨ o.size = 6))
theorem decP_kind (x : Int) : ((decP x).kind = 1 → (decP x).size = 0 ∧ (decP x).count = 0) ∧ ((decP x).kind = 2 → (decP x).data = 0 ∧ (decP x).ptrs = 0) := by
  unfold decP
  repeat' split
  all_goals simp [Pt0]
theorem wordsE_mk (k f d p z c s : Int) (b : Bool) : wordsE ⟨k, f, d, p, z, c, s, b⟩ = if k = 0 then 0 else if k = 1 then 0 else if k = 3 then 0 else if k = 2 then (if z = 2 then 0 else if z = 5 ∨ z = 6 then 0 else 23) else 23 := rfl
theorem wordsN_mk (k f d p z c s : Int) (b : Bool) : wordsN ⟨k, f, d, p, z, c, s, b⟩ = if k = 0 then 0 else if k = 1 then IntKind.i64.wrap (d + p) else if k = 3 then (if b then 2 else 1)
  else if k = 2 then (if z = 2 then IntKind.i64.wrap ((IntKind.i64.wrap (IntKind.i64.wrap (c + 8) - 1)).tdiv 8) else if z = 5 ∨ z = 6 then c else 0) else 0 := rfl
theorem foundS_kind (s : Src) (x : Int) (hn : nearP (decP x) = true) (seg a : Int) : ObK (foundS s (decP x) seg a).1 := by
  obtain ⟨h1, h2⟩ := decP_kind x
  have hk : (decP x).kind = 1 ∨ (decP x).kind = 2 := by simpa [nearP] using hn
  unfold foundS
  split
  · exact .inl rfl
  · rename_i he
    split
    · exact .inl rfl
    · rcases hk with hk | hk
      · exact .inr (.inl ⟨hk, (h1 hk).1, (h1 hk).2⟩)
      · refine .inr (.inr ⟨hk, (h2 hk).1, (h2 hk).2, ?_⟩)
        have he2 : ¬ wordsE ⟨(decP x).kind, 0, (decP x).data, (decP x).ptrs, (decP x).size, (decP x).count, 0, false⟩ ≠ 0 := he
        clear he
        have he := he2
        rw [wordsE_mk] at he
        rw [if_neg (by omega), if_neg (by omega), if_neg (by omega), if_pos hk] at he
        show (decP x).size = 2 ∨ (decP x).size = 5 ∨ (decP x).size = 6
        split at he
        · rename_i h; exact .inl h
        · split at he
          · rename_i h; exact .inr h
          · exact absurd (show (23 : Int) ≠ 0 by decide) he
theorem ptrS_dec (s : Src) (seg a : Int) : ∃ x, (ptrS s seg a).1 = decP x := by
  unfold ptrS
  split
  · exact ⟨0, rfl⟩
  · exact ⟨_, rfl⟩
theorem followS_kind (s : Src) (seg a : Int) : ObK (followS s seg a).1 := by
  obtain ⟨x, hx⟩ := ptrS_dec s seg a
  unfold followS
  split
  · exact .inl rfl
  · split
    · rename_i h
      rw [hx] at h ⊢
      exact foundS_kind s x h _ _
    · split
      · unfold twiceS
        split
        · exact .inl rfl
        · split
          · exact .inl rfl
          · split
            · exact .inl rfl
            · split
              · exact .inl rfl
              · split
                · exact .inl rfl
                · rename_i h
                  refine foundS_kind s _ ?_ _ _
                  cases hq : nearP (decP (s.word (ptrS s seg a).1.seg ((ptrS s seg a).1.off + 1)).1) with
                  | true => rfl
                  | false => exact absurd (.inr (.inr (.inl hq))) h
      · unfold landedS
        obtain ⟨y, hy⟩ := ptrS_dec s (ptrS s seg a).1.seg (ptrS s seg a).1.off
        split
        · exact .inl rfl
        · split
          · exact .inl rfl
          · rename_i h
            rw [hy] at h ⊢
            exact foundS_kind s y (by simpa using h) _ _
theorem ob_small {o : Ob} (ho : ObR o) (hk : ObK o) (hw : wordsO o ≤ 8191) : o.data ≤ 8191 ∧ o.ptrs ≤ 8191 ∧ (o.size = 5 → o.count ≤ 8191) ∧ (o.size = 2 → o.count ≤ 65528) ∧ 0 ≤ kidN o ∧ kidN o ≤ 8191 := by
  obtain ⟨r1, r2, r3, r4, r5, r6, r7⟩ := ho
  rcases hk with rfl | ⟨h1, h2, h3⟩ | ⟨h1, h2, h3, h4⟩
  · simp [Ob0, kidN]
  · have hv : wordsO o = o.data + o.ptrs := by
      unfold wordsO
      rw [if_neg (by omega)]
      unfold Ob.pt
      rw [wordsN_mk]
      rw [if_neg (by omega), if_pos h1, wrap_in (by simp only [inR]; omega)]
    unfold kidN
    rw [if_neg (by omega)]
    omega
  · have hv : (o.size = 2 → wordsO o = (o.count + 7) / 8) ∧ (o.size ≠ 2 → wordsO o = o.count) := by
      unfold wordsO
      rw [if_neg (by omega)]
      unfold Ob.pt
      rw [wordsN_mk]
      rw [if_neg (by omega), if_neg (by omega), if_neg (by omega), if_pos h1]
      refine ⟨fun h => ?_, fun h => ?_⟩
      · rw [if_pos h, wrap_in (by simp only [inR]; omega : inR .i64 (o.count + 8)), wrap_in (by simp only [inR]; omega : inR .i64 (o.count + 8 - 1)), Int.tdiv_eq_ediv_of_nonneg (by omega), wrap_in (by simp only [inR]; omega : inR .i64 ((o.count + 8 - 1) / 8))]
        congr 1
        omega
      · rw [if_neg h, if_pos (by omega)]
    obtain ⟨v1, v2⟩ := hv
    unfold kidN
    refine ⟨by omega, by omega, fun h => by have := v2 (by omega); omega, fun h => by have := v1 h; omega, ?_⟩
    split
    · have := v2 (by omega); omega
    · omega
theorem kidsD_paid {f : Int → Int → Int × Nd × Int} (hf : ∀ a p, 0 ≤ p → p ≤ 8192 → 0 ≤ (f a p).1 ∧ (f a p).1 ≤ 1000000000 ∧ ((f a p).2.2 = 0 → (f a p).1 ≤ 8192)) {a p : Int} (h0 : 0 ≤ p) (h1 : p ≤ 8192) : ∀ n, 0 ≤ (kidsD f a p n).1 ∧ (kidsD f a p n).1 ≤ 1000000000 ∧ ((kidsD f a p n).2.2 = 0 → (kidsD f a p n).1 ≤ 8192)
  | 0 => ⟨h0, by show p ≤ _; omega, fun _ => h1⟩
  | n + 1 => by
    obtain ⟨i1, i2, i3⟩ := kidsD_paid hf (a := a) h0 h1 n
    rw [kidsD]
    by_cases h : (kidsD f a p n).2.2 ≠ 0
    · rw [if_pos h]; exact ⟨i1, i2, i3⟩
    · rw [if_neg h]
      exact hf _ _ i1 (i3 (by simpa using h))
theorem nodeD_paid {P : Program} {w : World} {v : Value} {s : Src} (H : SrcOk P w v s) : ∀ (d : Nat) (seg a p : Int), 0 ≤ p → p ≤ 8192 → 0 ≤ (nodeD s d seg a p).1 ∧ (nodeD s d seg a p).1 ≤ 1000000000 ∧ ((nodeD s d seg a p).2.2 = 0 → (nodeD s d seg a p).1 ≤ 8192) := by
  have step : ∀ (d : Nat) (seg a p : Int), (∀ seg a p, 0 ≤ p → p ≤ 8192 → 0 ≤ (nodeF s d seg a p).1 ∧ (nodeF s d seg a p).1 ≤ 1000000000 ∧ ((nodeF s d seg a p).2.2 = 0 → (nodeF s d seg a p).1 ≤ 8192)) → 0 ≤ p → p ≤ 8192 → 0 ≤ (nodeD s d seg a p).1 ∧ (nodeD s d seg a p).1 ≤ 1000000000 ∧ ((nodeD s d seg a p).2.2 = 0 → (nodeD s d seg a p).1 ≤ 8192) := by
    intro d seg a p hf h0 h1
    obtain ⟨w0, w1⟩ := wordsO_range (followS_range H seg a)
    rw [nodeD_eq]
    unfold nodeK
    split
    · exact ⟨h0, by show p ≤ _; omega, fun _ => h1⟩
    · split
      · exact ⟨by simp only []; omega, by simp only []; omega, fun h => by simp at h⟩
      · split
        · exact ⟨by simp only []; omega, by simp only []; omega, fun h => by simp at h⟩
        · rename_i hp
          obtain ⟨k1, k2, k3⟩ := kidsD_paid (hf (followS s seg a).1.seg) (a := kidA (followS s seg a).1) (p := p + (1 + wordsO (followS s seg a).1)) (by omega) (by omega) (kidN (followS s seg a).1).toNat
          split
          · rename_i he
            exact ⟨k1, k2, fun h => absurd h he⟩
          · rename_i he
            exact ⟨k1, k2, fun _ => k3 (by simpa using he)⟩
  intro d
  induction d with
  | zero => exact fun seg a p => step 0 seg a p (fun seg a p h0 h1 => ⟨h0, by show p ≤ _; omega, fun _ => h1⟩)
  | succ d ih => exact fun seg a p => step (d + 1) seg a p (fun seg a p h0 h1 => ih seg a p h0 h1)
theorem nodL_u64 {P : Program} {w : World} {v : Value} {s : Src} (H : SrcOk P w v s) (o : Ob) : ∀ x ∈ nodL s o, inR .u64 x := wordsS_u64 H _ _ _
theorem nodB_u8 (s : Src) (o : Ob) : ∀ x ∈ nodB s o, inR .u8 x := by
  unfold nodB
  split
  · exact bytesS_u8 _ _ _ _
  · intro x hx; simp at hx
theorem kid_left {o : Ob} {d : Nat} {j : Nat} (hok : ObK o) (h2 : ¬ (o.kind ≠ 0 ∧ (d == 0) = true)) (hj : (j : Int) < kidN o) : ∃ e, d = e + 1 := by
  cases d with
  | succ e => exact ⟨e, rfl⟩
  | zero =>
    exfalso
    have h0 : o.kind = 0 := by
      by_cases h : o.kind = 0
      · exact h
      · exact absurd ⟨h, rfl⟩ h2
    rcases hok with rfl | h | h
    · simp [kidN, Ob0] at hj; omega
    · omega
    · omega
/-! ### memory -/
theorem Kp.upd_new {F : List Nat} {w w1 w2 : World} {b : Nat} (K : Kp F w w1) (u : Upd b w1 w2) (hb : w.heap.size ≤ b) : Kp F w w2 := K.trans (Kp.of_upd u (List.mem_singleton.2 rfl)) fun x hx => by simp only [List.mem_singleton] at hx; subst hx; exact .inr hb
theorem own_len {w : World} {base n m c sz : Nat} {T : TypeId} {ad : Option Addr} {xs : List Value} (h : w.ownsRow base T sz (.slice ad n c) m xs) : n = m := by
  rcases h.2 with ⟨hv, hm⟩ | ⟨q, cap, cur, hv, _⟩
  · simp only [Value.slice.injEq] at hv
    omega
  · simp only [Value.slice.injEq] at hv
    omega
theorem own_kp {F : List Nat} {w w' : World} {base n sz : Nat} {T : TypeId} {v : Value} {xs : List Value} (h : w.ownsRow base T sz v n xs) (k : Kp F w w') (hF : ∀ x ∈ F, x < base) : w'.ownsRow base T sz v n xs := by
  refine ⟨h.1, ?_⟩
  rcases h.2 with hn | ⟨q, cap, cur, rfl, hb, hg, rest⟩
  · exact .inl hn
  · exact .inr ⟨q, cap, cur, rfl, hb, k.heap hg (fun hm => by have := hF q hm; omega), rest⟩
/-! ### any arena -/
def sizesP (A : List (List Int)) : List Int := A.map fun s => (s.length : Int)
theorem sizesP_len (A : List (List Int)) : (sizesP A).length = A.length := by simp [sizesP]
theorem sizesP_at (A : List (List Int)) (i : Nat) : (sizesP A).getD i 0 = (len2 A i : Int) := by
  by_cases hi : i < A.length
  · rw [getD_at (by rw [sizesP_len]; exact hi)]
    simp only [sizesP, List.getElem_map, len2]
    rw [getD_at hi]
  · rw [len2_none (by omega), List.getD_eq_getElem?_getD, List.getElem?_eq_none (by rw [sizesP_len]; omega)]
    rfl
theorem sizesP_take {A : List (List Int)} {k : Nat} (h : k < A.length) : sizesP (A.take (k + 1)) = sizesP (A.take k) ++ [(len2 A k : Int)] := by
  simp only [sizesP, len2]
  rw [List.take_add_one, List.getElem?_eq_getElem h, List.map_append, getD_at h]
  rfl
/-- That arena.Right says so. -/
def rightB (A : List (List Int)) : Bool := decide (1 ≤ A.length ∧ A.length ≤ 16 ∧ 1 ≤ len2 A 0 ∧ totalP A ≤ 4096)
theorem rightB_ok {A : List (List Int)} (h : rightB A = true) (hx : ∀ q ∈ A, ∀ x ∈ q, inR .u64 x) : OkA A := by
  unfold rightB at h
  obtain ⟨h1, h2, h3, h4⟩ := of_decide_eq_true h
  exact ⟨h1, h2, h3, h4, hx⟩
/-- The tree of any arena. -/
def decT (A : List (List Int)) : Nd × Int := if rightB A = false then (.nil, 1) else (nodeD (wholeS A) 32 0 0 0).2
end Go.Proofs.Ytfhfecepcnapfaa.K

namespace Go.Proofs.Ytfhfecepcnapfaa.K
open Go Go.RowKit
mutual
def Nd.beq : Nd → Nd → Bool
  | .mk k s w b ks, .mk k' s' w' b' ks' => decide (k = k') && decide (s = s') && decide (w = w') && decide (b = b') && Nd.beqs ks ks'
def Nd.beqs : List Nd → List Nd → Bool
  | [], [] => true
  | [], _ :: _ => false
  | _ :: _, [] => false
  | t :: ts, u :: us => t.beq u && Nd.beqs ts us
end
mutual
theorem Nd.beq_iff : ∀ (t u : Nd), t.beq u = true ↔ t = u
  | .mk k s w b ks, .mk k' s' w' b' ks' => by
    simp only [Nd.beq, Bool.and_eq_true, decide_eq_true_eq, Nd.mk.injEq, Nd.beqs_iff ks ks', and_assoc]
theorem Nd.beqs_iff : ∀ (t u : List Nd), Nd.beqs t u = true ↔ t = u
  | [], [] => by simp [Nd.beqs]
  | [], _ :: _ => by simp [Nd.beqs]
  | _ :: _, [] => by simp [Nd.beqs]
  | t :: ts, u :: us => by
    simp only [Nd.beqs, Bool.and_eq_true, List.cons.injEq, Nd.beq_iff t u, Nd.beqs_iff ts us]
end
end Go.Proofs.Ytfhfecepcnapfaa.K

namespace Go.Proofs.Ytfhfecepcnapfaa.K
open Go Go.RowKit
theorem chunkP_range {c : List Int} (hx : isU8 c) (j : Nat) : 0 ≤ chunkP c j ∧ chunkP c j ≤ 18446744073709551615 := by
  have h := getP_range ((c.drop (8 * j)).take 8) (fun x hx2 => hx x (List.mem_of_mem_drop (List.mem_of_mem_take hx2)))
  have hl : ((c.drop (8 * j)).take 8).length ≤ 8 := by rw [List.length_take]; omega
  have h2 : (256 : Int) ^ ((c.drop (8 * j)).take 8).length ≤ 256 ^ 8 := by
    generalize ((c.drop (8 * j)).take 8).length = n at hl
    have : n = 0 ∨ n = 1 ∨ n = 2 ∨ n = 3 ∨ n = 4 ∨ n = 5 ∨ n = 6 ∨ n = 7 ∨ n = 8 := by omega
    rcases this with rfl | rfl | rfl | rfl | rfl | rfl | rfl | rfl | rfl <;> decide
  have h3 : (256 : Int) ^ 8 = 18446744073709551616 := by decide
  unfold chunkP
  omega
end Go.Proofs.Ytfhfecepcnapfaa.K

namespace Go.Proofs.Ytfhfecepcnapfaa.K
open Go Go.RowKit
/-! ### the three arenas -/
theorem encR_u64 (p : Pt) : inR .u64 (encR p) := by
  obtain ⟨h0, h1⟩ := encW_range p
  unfold encR
  split
  · exact ⟨h0, h1⟩
  · simp [inR]
end Go.Proofs.Ytfhfecepcnapfaa.K

namespace Go.Proofs.Ytfhfecepcnapfaa.K
open Go Go.RowKit
def known10 : Nd := .mk 1 0 [7] [] []
theorem known10_ask : askT known10 [] 0 = (⟨1, 0, 0, 0, 7⟩, 0) := by decide +kernel
theorem dec_of {x : Int × Nd × Int} {p : Int} {t : Nd} {e : Int} (h : (decide (x.1 = p) && x.2.1.beq t && decide (x.2.2 = e)) = true) : x = (p, t, e) := by
  simp only [Bool.and_eq_true, decide_eq_true_eq, Nd.beq_iff] at h
  obtain ⟨⟨h1, h2⟩, h3⟩ := h
  exact Prod.ext h1 (Prod.ext h2 h3)
theorem known10_dec : nodeD (wholeS known9) 32 0 0 0 = (2, known10, 0) := dec_of (by decide +kernel)
theorem known10_cost : known10.cost = 2 := by decide +kernel
theorem beq_self (t : Nd) : t.beq t = true := (Nd.beq_iff _ _).2 rfl
/-! ### nothing -/
theorem zeros_ok {m : Nat} (h0 : 1 ≤ m) (h1 : m ≤ 4000) : OkA (noughts m) := by
  refine ⟨by simp [noughts], by simp [noughts], by simp [noughts]; omega, by simp [noughts, totalP]; omega, ?_⟩
  intro q hq x hx
  simp only [noughts, List.mem_singleton] at hq
  subst hq
  have := List.eq_of_mem_replicate hx
  subst this
  simp [inR]
end Go.Proofs.Ytfhfecepcnapfaa.K

namespace Go.Proofs.Ytfhfecepcnapfaa.K
open Go Go.RowKit
/-- What is found where something of its own kind lies. -/
inductive Own2 (k z : Int) (w b : List Int) (ks : List Nd) (q a : Int) : Prop where
  | st (h1 : k = 1) (h2 : z = 0) (h3 : b = []) (h4 : objP ((Nd.mk k z w b ks).ptr 0) q a = ⟨1, q, a, w.length, ks.length, 0, 0⟩) (h5 : (Nd.mk k z w b ks).need = (w.length : Int) + ks.length) (h6 : w.length ≤ 100 ∧ ks.length ≤ 100)
  | bt (h1 : k = 2) (h2 : z = 2) (h3 : w = []) (h4 : ks = []) (h5 : objP ((Nd.mk k z w b ks).ptr 0) q a = ⟨2, q, a, 0, 0, 2, b.length⟩) (h6 : (Nd.mk k z w b ks).need = ((b.length : Int) + 7) / 8) (h7 : b.length ≤ 4096)
  | wd (h1 : k = 2) (h2 : z = 5) (h3 : b = []) (h4 : ks = []) (h5 : objP ((Nd.mk k z w b ks).ptr 0) q a = ⟨2, q, a, 0, 0, 5, w.length⟩) (h6 : (Nd.mk k z w b ks).need = (w.length : Int)) (h7 : w.length ≤ 4096)
  | pt (h1 : k = 2) (h2 : z = 6) (h3 : w = []) (h4 : b = []) (h5 : objP ((Nd.mk k z w b ks).ptr 0) q a = ⟨2, q, a, 0, 0, 6, ks.length⟩) (h6 : (Nd.mk k z w b ks).need = (ks.length : Int)) (h7 : ks.length ≤ 4096)
theorem own2 {k z : Int} {w b : List Int} {ks : List Nd} (ho : (Nd.mk k z w b ks).own = true) (hk : ¬ k = 0) (q a : Int) : Own2 k z w b ks q a := by
  simp only [Nd.own, if_neg hk] at ho
  split at ho
  · rename_i h1
    simp only [Bool.and_eq_true, decide_eq_true_eq] at ho
    obtain ⟨h2, h3, h4⟩ := ho
    have hb : b = [] := List.eq_nil_of_length_eq_zero (by omega)
    have hm : w.length ≤ 100 ∧ ks.length ≤ 100 := by split at h4 <;> omega
    subst hb
    subst h1
    exact .st rfl h2 rfl (by simp [Nd.ptr, objP]) (by simp [Nd.need]) hm
  · split at ho
    · rename_i h1 h2
      subst h2
      split at ho
      · rename_i h3
        simp only [Bool.and_eq_true, decide_eq_true_eq] at ho
        have hw : w = [] := List.eq_nil_of_length_eq_zero (by omega)
        have hks : ks = [] := List.eq_nil_of_length_eq_zero (by omega)
        subst hw; subst hks; subst h3
        exact .bt rfl rfl rfl rfl (by simp [Nd.ptr, objP]) (by simp [Nd.need]) (by omega)
      · split at ho
        · rename_i h3
          simp only [Bool.and_eq_true, decide_eq_true_eq] at ho
          have hb : b = [] := List.eq_nil_of_length_eq_zero (by omega)
          have hks : ks = [] := List.eq_nil_of_length_eq_zero (by omega)
          subst hb; subst hks; subst h3
          exact .wd rfl rfl rfl rfl (by simp [Nd.ptr, objP]) (by simp [Nd.need]) (by omega)
        · split at ho
          · rename_i h3
            simp only [Bool.and_eq_true, decide_eq_true_eq] at ho
            have hb : b = [] := List.eq_nil_of_length_eq_zero (by omega)
            have hw : w = [] := List.eq_nil_of_length_eq_zero (by omega)
            subst hb; subst hw; subst h3
            exact .pt rfl rfl rfl rfl (by simp [Nd.ptr, objP]) (by simp [Nd.need]) (by omega)
          · cases ho
    · cases ho
theorem wordsN_ob (o : Ob) : wordsN o.pt = wordsN ⟨o.kind, 0, o.data, o.ptrs, o.size, o.count, 0, false⟩ := rfl
end Go.Proofs.Ytfhfecepcnapfaa.K

namespace Go.Proofs.Ytfhfecepcnapfaa.K
open Go Go.RowKit
abbrev w2 (A : List (List Int)) (s i : Nat) : Int := (A.getD s []).getD i 0
def bodyN : Nd → List Int
  | .mk _ _ w b _ => w ++ chunksP b
/-! ### decoding it -/
mutual
def Nd.cst : Nd → Int
  | .mk k z w b ks => 1 + (Nd.mk k z w b ks).need + Nd.cstL ks
def Nd.cstL : List Nd → Int
  | [] => 0
  | t :: ts => t.cst + Nd.cstL ts
end
mutual
theorem Nd.cst_pos : ∀ (t : Nd), 1 ≤ t.cst
  | .mk k z w b ks => by have := Nd.need_nn (.mk k z w b ks); have := Nd.cstL_nn ks; rw [Nd.cst]; omega
theorem Nd.cstL_nn : ∀ (ts : List Nd), 0 ≤ Nd.cstL ts
  | [] => by rw [Nd.cstL]; exact Int.le_refl _
  | t :: ts => by have := Nd.cst_pos t; have := Nd.cstL_nn ts; rw [Nd.cstL]; omega
end
/-! ### words and bytes as they lie -/
mutual
def Nd.u8 : Nd → Prop
  | .mk _ _ _ b ks => (∀ x ∈ b, inR .u8 x) ∧ Nd.u8L ks
def Nd.u8L : List Nd → Prop
  | [] => True
  | t :: ts => t.u8 ∧ Nd.u8L ts
end
/-! ### what is built are words -/
def AllU (A : List (List Int)) : Prop := ∀ q ∈ A, ∀ x ∈ q, inR .u64 x
mutual
def Nd.u64 : Nd → Prop
  | .mk _ _ w _ ks => (∀ x ∈ w, inR .u64 x) ∧ Nd.u64L ks
def Nd.u64L : List Nd → Prop
  | [] => True
  | t :: ts => t.u64 ∧ Nd.u64L ts
end
theorem AllU.getD {A : List (List Int)} (h : AllU A) (s : Nat) : ∀ x ∈ A.getD s [], inR .u64 x := by
  by_cases hs : s < A.length
  · rw [getD_at hs]; exact h _ (List.getElem_mem hs)
  · rw [List.getD_eq_getElem?_getD, List.getElem?_eq_none (by omega)]; intro x hx; simp at hx
theorem AllU.set {A : List (List Int)} (h : AllU A) (s i : Nat) {x : Int} (hx : inR .u64 x) : AllU (setP A s i x) := by
  intro q hq y hy
  rcases List.mem_or_eq_of_mem_set hq with hq | rfl
  · exact h q hq y hy
  · rcases List.mem_or_eq_of_mem_set hy with hy | rfl
    · exact h.getD s y hy
    · exact hx
theorem AllU.growB {A : List (List Int)} (h : AllU A) (q : Nat) : AllU (growB A q) := by
  unfold K.growB
  split
  · intro p hp y hy
    rcases List.mem_append.1 hp with hp | hp
    · exact h p hp y hy
    · simp only [List.mem_singleton] at hp; subst hp; simp at hy
  · exact h
theorem AllU.grow {A : List (List Int)} (h : AllU A) (q : Nat) {l : List Int} (hl : ∀ x ∈ l, inR .u64 x) : AllU (growA A q l) := by
  intro p hp y hy
  unfold growA at hp
  rcases List.mem_or_eq_of_mem_set hp with hp | rfl
  · exact (h.growB q) p hp y hy
  · rcases List.mem_append.1 hy with hy | hy
    · exact (h.growB q).getD q y hy
    · exact hl y hy
theorem content_u64 {k z : Int} {w b : List Int} {ks : List Nd} (hw : ∀ x ∈ w, inR .u64 x) (hb : isU8 b) : ∀ x ∈ (Nd.mk k z w b ks).content, inR .u64 x := by
  intro x hx
  simp only [Nd.content, List.mem_append, chunksP, List.mem_map, List.mem_replicate] at hx
  rcases hx with (hx | ⟨j, -, rfl⟩) | ⟨-, rfl⟩
  · exact hw x hx
  · have := chunkP_range hb j
    simp only [inR]; omega
  · simp [inR]
theorem place_u64 (size : Int) (t : Nd) (S : Lay) (s i : Nat) (h : AllU S.A) : AllU (placeP size t S s i).S.A := by
  have h1 : ∀ x ∈ [t.near 0], inR .u64 x := fun x hx => by simp only [List.mem_singleton] at hx; subst hx; exact encR_u64 _
  unfold placeP
  split
  · exact h.set _ _ (encR_u64 _)
  · split
    · exact (h.set _ _ (encR_u64 _)).grow _ h1
    · exact (h.set _ _ (encR_u64 _)).grow _ h1
mutual
theorem lay_u64 (size : Int) : ∀ (t : Nd) (S : Lay) (s i : Nat), t.u64 → t.u8 → AllU S.A → AllU (t.lay size S s i).A
  | .mk k z w b ks, S, s, i, hw, hb, h => by
    rw [Nd.u64] at hw
    rw [Nd.u8] at hb
    simp only [Nd.lay]
    split
    · exact h
    · split
      · exact h.set _ _ (encR_u64 _)
      · exact lays_u64 size ks _ _ _ hw.2 hb.2 ((place_u64 size _ S s i h).grow _ (content_u64 hw.1 hb.1))
theorem lays_u64 (size : Int) : ∀ (ts : List Nd) (S : Lay) (s i : Nat), Nd.u64L ts → Nd.u8L ts → AllU S.A → AllU (Nd.lays size ts S s i).A
  | [], S, s, i, _, _, h => h
  | t :: ts, S, s, i, hw, hb, h => by
    rw [Nd.u64L] at hw
    rw [Nd.u8L] at hb
    simp only [Nd.lays]
    exact lays_u64 size ts _ _ _ hw.2 hb.2 (lay_u64 size t S s i hw.1 hb.1 h)
end
theorem build_u64 {t : Nd} (size : Int) (hw : t.u64) (hb : t.u8) : ∀ q ∈ (t.build size).1, ∀ x ∈ q, inR .u64 x := by
  unfold Nd.build
  split
  · intro q hq; simp at hq
  · split
    · intro q hq; simp at hq
    · refine lay_u64 size t _ 0 0 hw hb ?_
      intro q hq x hx
      simp only [List.mem_singleton] at hq
      subst hq
      simp only [List.mem_singleton] at hx
      subst hx
      simp [inR]
theorem build_right {t : Nd} {size : Int} (h : (t.build size).2 = 0) : rightB (t.build size).1 = true := by
  have hf := Nd.build_fit h
  have h0 : 1 ≤ len2 (t.build size).1 0 := by
    unfold Nd.build at h ⊢
    by_cases h1 : size < 1 ∨ size > 4096 ∨ t.right 32 = false
    · rw [if_pos h1] at h; exact absurd h (by decide)
    · rw [if_neg h1] at h ⊢
      by_cases h2 : (t.lay size ⟨[[0]], false⟩ 0 0).full = true
      · rw [if_pos h2] at h; exact absurd h (by decide)
      · rw [if_neg h2]
        exact Nat.le_trans (by decide : 1 ≤ len2 [[0]] 0) ((Nd.lay_ok size t ⟨[[0]], false⟩ 0 0 (by simp)).grew.seg 0)
  unfold rightB
  exact decide_eq_true ⟨hf.one, hf.most, h0, hf.all⟩
end Go.Proofs.Ytfhfecepcnapfaa.K

namespace Go.Proofs.Ytfhfecepcnapfaa.K
open Go Go.RowKit
def bentZ (k : Int) : Int := if k = 0 then 2 else if k = 1 then 5 else if k = 2 then 6 else 3
theorem bentZ_at (k : Int) (h0 : 0 ≤ k) (h1 : k < 4) : ([.int .i64 2, .int .i64 5, .int .i64 6, .int .i64 3] : List Value)[k.toNat * 1]? = some (.int .i64 (bentZ k)) := by
  have h : k = 0 ∨ k = 1 ∨ k = 2 ∨ k = 3 := by omega
  rcases h with rfl | rfl | rfl | rfl <;> rfl
/-- The pointer of two choices, in an arena of so many segments. -/
def bentP (x y n : Int) : Pt :=
  if x % 3 = 0 then ⟨1, y % 16 - 4, x % 4, x / 64, 0, 0, 0, false⟩
  else if x % 3 = 1 then ⟨2, y % 16 - 4, 0, 0, bentZ (x % 4), x / 16, 0, false⟩
  else ⟨3, y % 12, 0, 0, 0, 0, x / 3 % (n + 1), decide (x % 2 = 1)⟩
/-- An arena of which some words were put anew. -/
inductive BentA (B : List (List Int)) : List (List Int) → Prop
  | refl : BentA B B
  | put {A : List (List Int)} {s i : Nat} {x y : Int} : BentA B A → s < A.length → i < len2 A s → 0 ≤ x → x ≤ 255 → 0 ≤ y → y ≤ 255 → BentA B (setP A s i (encR (bentP x y A.length)))
def bentT (xs : List Int) : Nd := (treeP 6 xs).1
def bentB (xs : List Int) (k : Int) : List (List Int) := if ((bentT xs).build (3 + k % 30)).2 ≠ 0 then ((bentT xs).build 4096).1 else ((bentT xs).build (3 + k % 30)).1
/-- What law09.Bent may make of choices. -/
def Bent1 (xs : List Int) (k : Int) (A : List (List Int)) : Prop := BentA (bentB xs k) A
theorem bentT_right {xs : List Int} (h : isU8 xs) : (bentT xs).right 32 = true := treeP_right 6 xs 32 (by decide) h
theorem bentT_needs {xs : List Int} (h : isU8 xs) (hl : xs.length ≤ 200) : 0 ≤ (bentT xs).needs ∧ (bentT xs).needs ≤ 1400 := by
  have := treeP_needs 6 xs h
  have := Nd.needs_nn (bentT xs)
  unfold bentT at *
  omega
theorem bent_4096 {xs : List Int} (h : isU8 xs) (hl : xs.length ≤ 200) : ∃ s, (bentT xs).build 4096 = ([s], 0) ∧ (s.length : Int) = 1 + (bentT xs).needs :=
  Nd.build_one (bentT_right h) (by have := bentT_needs h hl; omega) (by decide)
theorem treeP_u64 : ∀ (d : Nat) (c : List Int), (treeP d c).1.u64 ∧ (treeP d c).1.u8
  | 0, c => ⟨⟨by simp, trivial⟩, ⟨by simp [isU8], trivial⟩⟩
  | d + 1, [] => ⟨⟨by simp, trivial⟩, ⟨by simp [isU8], trivial⟩⟩
  | d + 1, k :: c => by
    have hk : ∀ n, Nd.u64L (treesP (treeP d) n c).1 ∧ Nd.u8L (treesP (treeP d) n c).1 := fun n => by
      have h1 := treesP_all (f := treeP d) (Q := fun _ => True) (R := fun t => t.u64 ∧ t.u8) (fun c _ => ⟨trivial, treeP_u64 d c⟩) n c trivial
      have : ∀ (ts : List Nd), (∀ t ∈ ts, t.u64 ∧ t.u8) → Nd.u64L ts ∧ Nd.u8L ts := by
        intro ts
        induction ts with
        | nil => exact fun _ => ⟨trivial, trivial⟩
        | cons t ts ih => exact fun h => ⟨⟨(h t (by simp)).1, (ih fun u hu => h u (by simp [hu])).1⟩, ⟨(h t (by simp)).2, (ih fun u hu => h u (by simp [hu])).2⟩⟩
      exact this _ h1
    have hb : ∀ n, isU8 ((List.range n).map (bTree k)) := fun n x hx => by obtain ⟨i, _, rfl⟩ := List.mem_map.1 hx; exact wrap_u8R _
    have h3 : ∀ n, ∀ x ∈ (List.range n).map (w3Tree k), inR .u64 x := fun n x hx => by obtain ⟨i, _, rfl⟩ := List.mem_map.1 hx; exact wrap_u64R _
    have h4 : ∀ n, ∀ x ∈ (List.range n).map (w4Tree k), inR .u64 x := fun n x hx => by obtain ⟨i, _, rfl⟩ := List.mem_map.1 hx; exact wrap_u64R _
    simp only [treeP]
    split
    · exact ⟨⟨by simp, trivial⟩, ⟨by simp [isU8], trivial⟩⟩
    · split
      · exact ⟨⟨by simp, trivial⟩, ⟨hb _, trivial⟩⟩
      · split
        · exact ⟨⟨h3 _, trivial⟩, ⟨by simp [isU8], trivial⟩⟩
        · split
          · exact ⟨⟨by simp, (hk _).1⟩, ⟨by simp [isU8], (hk _).2⟩⟩
          · exact ⟨⟨h4 _, (hk _).1⟩, ⟨by simp [isU8], (hk _).2⟩⟩
theorem bentB_ok {xs : List Int} (h : isU8 xs) (hl : xs.length ≤ 200) (k : Int) : rightB (bentB xs k) = true ∧ AllU (bentB xs k) ∧ totalP (bentB xs k) ≤ 4096 ∧ (∀ i, len2 (bentB xs k) i ≤ 4096) := by
  obtain ⟨s, h4, -⟩ := bent_4096 h hl
  have key : ∀ n, ((bentT xs).build n).2 = 0 → rightB ((bentT xs).build n).1 = true ∧ AllU ((bentT xs).build n).1 ∧ totalP ((bentT xs).build n).1 ≤ 4096 ∧ (∀ i, len2 ((bentT xs).build n).1 i ≤ 4096) := fun n hn => by
    have hr := build_right hn
    refine ⟨hr, build_u64 n (treeP_u64 6 xs).1 (treeP_u64 6 xs).2, ?_⟩
    unfold rightB at hr
    have h1 := of_decide_eq_true hr
    exact ⟨h1.2.2.2, fun i => by have := seg_le_total ((bentT xs).build n).1 i; omega⟩
  unfold bentB
  split
  · exact key 4096 (by rw [h4])
  · exact key _ (by omega)
theorem BentA.len {B A : List (List Int)} (h : BentA B A) : A.length = B.length ∧ totalP A = totalP B ∧ ∀ i, len2 A i = len2 B i := by
  induction h with
  | refl => exact ⟨rfl, rfl, fun _ => rfl⟩
  | put _ hs hi _ _ _ _ ih => exact ⟨(setP_length _ _ _ _).trans ih.1, (totalP_setP _ _ _ _).trans ih.2.1, fun j => (setP_len2 _ _ _ j _).trans (ih.2.2 j)⟩
theorem BentA.allU {B A : List (List Int)} (h : BentA B A) (hB : AllU B) : AllU A := by
  induction h with
  | refl => exact hB
  | put _ hs hi _ _ _ _ ih => exact ih.set _ _ (encR_u64 _)
theorem BentA.right {B A : List (List Int)} (h : BentA B A) : rightB A = rightB B := by
  obtain ⟨h1, h2, h3⟩ := h.len
  unfold rightB
  rw [h1, h2, h3 0]
theorem Bent1.ok {xs : List Int} {k : Int} {A : List (List Int)} (hA : Bent1 xs k A) (h : isU8 xs) (hl : xs.length ≤ 200) : rightB A = true ∧ AllU A ∧ totalP A ≤ 4096 ∧ (∀ i, len2 A i ≤ 4096) ∧ 1 ≤ A.length ∧ A.length ≤ 16 ∧ ∀ s ∈ A, s.length ≤ 100000 := by
  obtain ⟨h1, h2, h3⟩ := BentA.len hA
  obtain ⟨g1, g2, g3, g4⟩ := bentB_ok h hl k
  have hr : rightB A = true := by rw [BentA.right hA]; exact g1
  have hr2 := hr
  unfold rightB at hr2
  obtain ⟨r1, r2, -, -⟩ := of_decide_eq_true hr2
  refine ⟨hr, BentA.allU hA g2, by rw [h2]; exact g3, fun i => by rw [h3]; exact g4 i, r1, r2, fun s hs => ?_⟩
  obtain ⟨i, hi, rfl⟩ := List.getElem_of_mem hs
  have := h3 i
  have := g4 i
  rw [← h3 i, len2, getD_at hi] at this
  omega
theorem bentB_len {xs : List Int} (h : isU8 xs) (hl : xs.length ≤ 200) (k : Int) : 1 ≤ (bentB xs k).length ∧ (bentB xs k).length ≤ 16 := by
  obtain ⟨-, -, -, -, h1, h2, -⟩ := Bent1.ok (BentA.refl (B := bentB xs k)) h hl
  exact ⟨h1, h2⟩
end Go.Proofs.Ytfhfecepcnapfaa.K

namespace Go.Proofs.Ytfhfecepcnapfaa.K
open Go Go.RowKit Go.Proofs
attribute [local irreducible] Run1 OpG WL W AO Gives
set_option maxRecDepth 100000 in
theorem kind_calls (w : World)  : Gives Try.prog 106 #[] w (.agg #[.int .i64 0, .int .i64 2]) := by
 have G := Grow.rfl' w
 refine gives_of Try.func106 Try.ntmps106 Try.results106 rfl rfl ?_
 refine W_seq (W_region rfl ?_)
 refine stp (r_alloc ?_)
 intro b1 w2 hb3 hc4 g5
 refine WL_nil ?_
 refine W_seq (W_region rfl ?_)
 refine stp (r_build (v := .agg #[.int .i64 0, .int .i64 2]) (fun w => by kernel_rfl) ?_)
 refine stn (r_storeAll rfl rfl hc4 (by rfl) (by rfl) (by rfl) ?_)
 intro w6 hc7 u8
 have g9 := g5.upd u8 hb3
 have hge10 := Nat.le_trans G.size hb3
 replace G := G.tr g9
 clear u8 g5 hb3 hc4
 refine WL_nil ?_
 refine W_ret ?_
 exact ret1 (res_all rfl (by assumption) (by rfl)) ⟨rfl, G⟩

set_option maxRecDepth 100000 in
theorem off_calls (w : World)  : Gives Try.prog 116 #[] w (.agg #[.int .i64 2, .int .i64 30]) := by
 have G := Grow.rfl' w
 refine gives_of Try.func116 Try.ntmps116 Try.results116 rfl rfl ?_
 refine W_seq (W_region rfl ?_)
 refine stp (r_alloc ?_)
 intro b1 w2 hb3 hc4 g5
 refine WL_nil ?_
 refine W_seq (W_region rfl ?_)
 refine stp (r_build (v := .agg #[.int .i64 2, .int .i64 30]) (fun w => by kernel_rfl) ?_)
 refine stn (r_storeAll rfl rfl hc4 (by rfl) (by rfl) (by rfl) ?_)
 intro w6 hc7 u8
 have g9 := g5.upd u8 hb3
 have hge10 := Nat.le_trans G.size hb3
 replace G := G.tr g9
 clear u8 g5 hb3 hc4
 refine WL_nil ?_
 refine W_ret ?_
 exact ret1 (res_all rfl (by assumption) (by rfl)) ⟨rfl, G⟩

set_option maxRecDepth 100000 in
theorem data_calls (w : World)  : Gives Try.prog 108 #[] w (.agg #[.int .i64 32, .int .i64 16]) := by
 have G := Grow.rfl' w
 refine gives_of Try.func108 Try.ntmps108 Try.results108 rfl rfl ?_
 refine W_seq (W_region rfl ?_)
 refine stp (r_alloc ?_)
 intro b1 w2 hb3 hc4 g5
 refine WL_nil ?_
 refine W_seq (W_region rfl ?_)
 refine stp (r_build (v := .agg #[.int .i64 32, .int .i64 16]) (fun w => by kernel_rfl) ?_)
 refine stn (r_storeAll rfl rfl hc4 (by rfl) (by rfl) (by rfl) ?_)
 intro w6 hc7 u8
 have g9 := g5.upd u8 hb3
 have hge10 := Nat.le_trans G.size hb3
 replace G := G.tr g9
 clear u8 g5 hb3 hc4
 refine WL_nil ?_
 refine W_ret ?_
 exact ret1 (res_all rfl (by assumption) (by rfl)) ⟨rfl, G⟩

set_option maxRecDepth 100000 in
theorem ptrs_calls (w : World)  : Gives Try.prog 109 #[] w (.agg #[.int .i64 48, .int .i64 16]) := by
 have G := Grow.rfl' w
 refine gives_of Try.func109 Try.ntmps109 Try.results109 rfl rfl ?_
 refine W_seq (W_region rfl ?_)
 refine stp (r_alloc ?_)
 intro b1 w2 hb3 hc4 g5
 refine WL_nil ?_
 refine W_seq (W_region rfl ?_)
 refine stp (r_build (v := .agg #[.int .i64 48, .int .i64 16]) (fun w => by kernel_rfl) ?_)
 refine stn (r_storeAll rfl rfl hc4 (by rfl) (by rfl) (by rfl) ?_)
 intro w6 hc7 u8
 have g9 := g5.upd u8 hb3
 have hge10 := Nat.le_trans G.size hb3
 replace G := G.tr g9
 clear u8 g5 hb3 hc4
 refine WL_nil ?_
 refine W_ret ?_
 exact ret1 (res_all rfl (by assumption) (by rfl)) ⟨rfl, G⟩

set_option maxRecDepth 100000 in
theorem size_calls (w : World)  : Gives Try.prog 110 #[] w (.agg #[.int .i64 32, .int .i64 3]) := by
 have G := Grow.rfl' w
 refine gives_of Try.func110 Try.ntmps110 Try.results110 rfl rfl ?_
 refine W_seq (W_region rfl ?_)
 refine stp (r_alloc ?_)
 intro b1 w2 hb3 hc4 g5
 refine WL_nil ?_
 refine W_seq (W_region rfl ?_)
 refine stp (r_build (v := .agg #[.int .i64 32, .int .i64 3]) (fun w => by kernel_rfl) ?_)
 refine stn (r_storeAll rfl rfl hc4 (by rfl) (by rfl) (by rfl) ?_)
 intro w6 hc7 u8
 have g9 := g5.upd u8 hb3
 have hge10 := Nat.le_trans G.size hb3
 replace G := G.tr g9
 clear u8 g5 hb3 hc4
 refine WL_nil ?_
 refine W_ret ?_
 exact ret1 (res_all rfl (by assumption) (by rfl)) ⟨rfl, G⟩

set_option maxRecDepth 100000 in
theorem count_calls (w : World)  : Gives Try.prog 111 #[] w (.agg #[.int .i64 35, .int .i64 29]) := by
 have G := Grow.rfl' w
 refine gives_of Try.func111 Try.ntmps111 Try.results111 rfl rfl ?_
 refine W_seq (W_region rfl ?_)
 refine stp (r_alloc ?_)
 intro b1 w2 hb3 hc4 g5
 refine WL_nil ?_
 refine W_seq (W_region rfl ?_)
 refine stp (r_build (v := .agg #[.int .i64 35, .int .i64 29]) (fun w => by kernel_rfl) ?_)
 refine stn (r_storeAll rfl rfl hc4 (by rfl) (by rfl) (by rfl) ?_)
 intro w6 hc7 u8
 have g9 := g5.upd u8 hb3
 have hge10 := Nat.le_trans G.size hb3
 replace G := G.tr g9
 clear u8 g5 hb3 hc4
 refine WL_nil ?_
 refine W_ret ?_
 exact ret1 (res_all rfl (by assumption) (by rfl)) ⟨rfl, G⟩

set_option maxRecDepth 100000 in
theorem double_calls (w : World)  : Gives Try.prog 114 #[] w (.agg #[.int .i64 2, .int .i64 1]) := by
 have G := Grow.rfl' w
 refine gives_of Try.func114 Try.ntmps114 Try.results114 rfl rfl ?_
 refine W_seq (W_region rfl ?_)
 refine stp (r_alloc ?_)
 intro b1 w2 hb3 hc4 g5
 refine WL_nil ?_
 refine W_seq (W_region rfl ?_)
 refine stp (r_build (v := .agg #[.int .i64 2, .int .i64 1]) (fun w => by kernel_rfl) ?_)
 refine stn (r_storeAll rfl rfl hc4 (by rfl) (by rfl) (by rfl) ?_)
 intro w6 hc7 u8
 have g9 := g5.upd u8 hb3
 have hge10 := Nat.le_trans G.size hb3
 replace G := G.tr g9
 clear u8 g5 hb3 hc4
 refine WL_nil ?_
 refine W_ret ?_
 exact ret1 (res_all rfl (by assumption) (by rfl)) ⟨rfl, G⟩

set_option maxRecDepth 100000 in
theorem place_calls (w : World)  : Gives Try.prog 112 #[] w (.agg #[.int .i64 3, .int .i64 29]) := by
 have G := Grow.rfl' w
 refine gives_of Try.func112 Try.ntmps112 Try.results112 rfl rfl ?_
 refine W_seq (W_region rfl ?_)
 refine stp (r_alloc ?_)
 intro b1 w2 hb3 hc4 g5
 refine WL_nil ?_
 refine W_seq (W_region rfl ?_)
 refine stp (r_build (v := .agg #[.int .i64 3, .int .i64 29]) (fun w => by kernel_rfl) ?_)
 refine stn (r_storeAll rfl rfl hc4 (by rfl) (by rfl) (by rfl) ?_)
 intro w6 hc7 u8
 have g9 := g5.upd u8 hb3
 have hge10 := Nat.le_trans G.size hb3
 replace G := G.tr g9
 clear u8 g5 hb3 hc4
 refine WL_nil ?_
 refine W_ret ?_
 exact ret1 (res_all rfl (by assumption) (by rfl)) ⟨rfl, G⟩

set_option maxRecDepth 100000 in
theorem seg_calls (w : World)  : Gives Try.prog 113 #[] w (.agg #[.int .i64 32, .int .i64 32]) := by
 have G := Grow.rfl' w
 refine gives_of Try.func113 Try.ntmps113 Try.results113 rfl rfl ?_
 refine W_seq (W_region rfl ?_)
 refine stp (r_alloc ?_)
 intro b1 w2 hb3 hc4 g5
 refine WL_nil ?_
 refine W_seq (W_region rfl ?_)
 refine stp (r_build (v := .agg #[.int .i64 32, .int .i64 32]) (fun w => by kernel_rfl) ?_)
 refine stn (r_storeAll rfl rfl hc4 (by rfl) (by rfl) (by rfl) ?_)
 intro w6 hc7 u8
 have g9 := g5.upd u8 hb3
 have hge10 := Nat.le_trans G.size hb3
 replace G := G.tr g9
 clear u8 g5 hb3 hc4
 refine WL_nil ?_
 refine W_ret ?_
 exact ret1 (res_all rfl (by assumption) (by rfl)) ⟨rfl, G⟩

set_option maxRecDepth 100000 in
theorem get_calls (w : World) (x at_ wide : Int) (h0 : 0 ≤ at_) (h1 : 0 ≤ wide) : Gives Try.prog 107 #[.agg #[.int .i64 at_, .int .i64 wide], .int .u64 x] w (.int .u64 (getF at_ wide x)) := by
 have G := Grow.rfl' w
 refine gives_of Try.func107 Try.ntmps107 Try.results107 rfl rfl ?_
 refine W_seq (W_region rfl ?_)
 refine WL_some (og rfl ?_)
 (first | refine r_box_agg rfl ?_ | refine r_box_int rfl ?_ | refine r_box_slice rfl ?_ | refine r_box rfl rfl ?_)
 intro b1 w2 hb3 hc4 g5
 have hge6 := Nat.le_trans G.size hb3
 replace G := G.tr g5
 clear g5 hb3
 refine WL_some (og rfl ?_)
 (first | refine r_assign_int rfl ?_ | refine r_assign rfl ?_)
 refine WL_nil ?_
 refine W_seq ?_
 refine W_any 10 [[], [], [0], [2, 1, 0], [], [0], [1, 0], [2, 1, 0], [7, 6, 5, 4, 3, 2, 1, 0], [8, 7, 6, 5, 4, 3, 2, 1, 0]] mixed (by kernel_rfl) (by kernel_rfl) (by kernel_rfl) ?_
 intro w7 g8
 replace hc4 := g8.heap hc4
 replace G := G.tr g8
 clear g8
 apply AO_ex
 ·intro w_ g_; refine og rfl ?_; (first | refine r_move_int rfl ?_ | refine r_move rfl ?_); exact ⟨Grow.rfl' _, rfl⟩
 apply AO_ex
 ·intro w_ g_; refine og rfl ?_; refine r_fieldAddr rfl ?_; exact ⟨Grow.rfl' _, rfl⟩
 apply AO_ex
 ·intro w_ g_; refine og rfl ?_; refine r_load rfl (by exact Grow.heap g_ (by assumption)) (by rfl) ?_; exact ⟨Grow.rfl' _, rfl⟩
 apply AO_ex
 ·intro w_ g_; refine og rfl ?_; (refine r_shr rfl rfl ?_ ?_; omega); exact ⟨Grow.rfl' _, rfl⟩
 apply AO_ex
 ·intro w_ g_; refine og rfl ?_; refine r_fieldAddr rfl ?_; exact ⟨Grow.rfl' _, rfl⟩
 apply AO_ex
 ·intro w_ g_; refine og rfl ?_; refine r_load rfl (by exact Grow.heap g_ (by assumption)) (by rfl) ?_; exact ⟨Grow.rfl' _, rfl⟩
 apply AO_ex
 ·intro w_ g_; refine og rfl ?_; (refine r_shl rfl rfl ?_ ?_; omega); exact ⟨Grow.rfl' _, rfl⟩
 apply AO_ex
 ·intro w_ g_; refine og rfl ?_; (first | (refine r_sub rfl rfl ?_ ?_; (constructor <;> omega)) | refine r_subw rfl rfl ?_); exact ⟨Grow.rfl' _, rfl⟩
 apply AO_ex
 ·intro w_ g_; refine og rfl ?_; refine r_and rfl rfl ?_; exact ⟨Grow.rfl' _, rfl⟩
 apply AO_ex
 ·intro w_ g_; refine og rfl ?_; (first | refine r_assign_int rfl ?_ | refine r_assign rfl ?_); exact ⟨Grow.rfl' _, rfl⟩
 refine AO_nil ?_
 intro w9 g10
 replace hc4 := g10.heap hc4
 replace G := G.tr g10
 clear g10
 refine WL_nil ?_
 refine W_ret ?_
 exact ret1 (res_tmp rfl) ⟨rfl, G⟩

theorem get_kind (w : World) (x : Int) (h0 : 0 ≤ x) (h1 : x ≤ 18446744073709551615) : Gives Try.prog 107 #[.agg #[.int .i64 0, .int .i64 2], .int .u64 x] w (.int .u64 (x % 4)) := by
  have e : getF 0 2 x = x % 4 := (getF_eq 0 2 (by omega) (by omega) x h0 h1).trans (by simp)
  have h := get_calls w x 0 2 (by omega) (by omega)
  rw [e] at h
  exact h

theorem get_off (w : World) (x : Int) (h0 : 0 ≤ x) (h1 : x ≤ 18446744073709551615) : Gives Try.prog 107 #[.agg #[.int .i64 2, .int .i64 30], .int .u64 x] w (.int .u64 (x / 4 % 1073741824)) := by
  have e : getF 2 30 x = x / 4 % 1073741824 := (getF_eq 2 30 (by omega) (by omega) x h0 h1).trans (by simp)
  have h := get_calls w x 2 30 (by omega) (by omega)
  rw [e] at h
  exact h

theorem get_data (w : World) (x : Int) (h0 : 0 ≤ x) (h1 : x ≤ 18446744073709551615) : Gives Try.prog 107 #[.agg #[.int .i64 32, .int .i64 16], .int .u64 x] w (.int .u64 (x / 4294967296 % 65536)) := by
  have e : getF 32 16 x = x / 4294967296 % 65536 := (getF_eq 32 16 (by omega) (by omega) x h0 h1).trans (by simp)
  have h := get_calls w x 32 16 (by omega) (by omega)
  rw [e] at h
  exact h

theorem get_ptrs (w : World) (x : Int) (h0 : 0 ≤ x) (h1 : x ≤ 18446744073709551615) : Gives Try.prog 107 #[.agg #[.int .i64 48, .int .i64 16], .int .u64 x] w (.int .u64 (x / 281474976710656 % 65536)) := by
  have e : getF 48 16 x = x / 281474976710656 % 65536 := (getF_eq 48 16 (by omega) (by omega) x h0 h1).trans (by simp)
  have h := get_calls w x 48 16 (by omega) (by omega)
  rw [e] at h
  exact h

theorem get_size (w : World) (x : Int) (h0 : 0 ≤ x) (h1 : x ≤ 18446744073709551615) : Gives Try.prog 107 #[.agg #[.int .i64 32, .int .i64 3], .int .u64 x] w (.int .u64 (x / 4294967296 % 8)) := by
  have e : getF 32 3 x = x / 4294967296 % 8 := (getF_eq 32 3 (by omega) (by omega) x h0 h1).trans (by simp)
  have h := get_calls w x 32 3 (by omega) (by omega)
  rw [e] at h
  exact h

theorem get_count (w : World) (x : Int) (h0 : 0 ≤ x) (h1 : x ≤ 18446744073709551615) : Gives Try.prog 107 #[.agg #[.int .i64 35, .int .i64 29], .int .u64 x] w (.int .u64 (x / 34359738368 % 536870912)) := by
  have e : getF 35 29 x = x / 34359738368 % 536870912 := (getF_eq 35 29 (by omega) (by omega) x h0 h1).trans (by simp)
  have h := get_calls w x 35 29 (by omega) (by omega)
  rw [e] at h
  exact h

theorem get_double (w : World) (x : Int) (h0 : 0 ≤ x) (h1 : x ≤ 18446744073709551615) : Gives Try.prog 107 #[.agg #[.int .i64 2, .int .i64 1], .int .u64 x] w (.int .u64 (x / 4 % 2)) := by
  have e : getF 2 1 x = x / 4 % 2 := (getF_eq 2 1 (by omega) (by omega) x h0 h1).trans (by simp)
  have h := get_calls w x 2 1 (by omega) (by omega)
  rw [e] at h
  exact h

theorem get_place (w : World) (x : Int) (h0 : 0 ≤ x) (h1 : x ≤ 18446744073709551615) : Gives Try.prog 107 #[.agg #[.int .i64 3, .int .i64 29], .int .u64 x] w (.int .u64 (x / 8 % 536870912)) := by
  have e : getF 3 29 x = x / 8 % 536870912 := (getF_eq 3 29 (by omega) (by omega) x h0 h1).trans (by simp)
  have h := get_calls w x 3 29 (by omega) (by omega)
  rw [e] at h
  exact h

theorem get_seg (w : World) (x : Int) (h0 : 0 ≤ x) (h1 : x ≤ 18446744073709551615) : Gives Try.prog 107 #[.agg #[.int .i64 32, .int .i64 32], .int .u64 x] w (.int .u64 (x / 4294967296 % 4294967296)) := by
  have e : getF 32 32 x = x / 4294967296 % 4294967296 := (getF_eq 32 32 (by omega) (by omega) x h0 h1).trans (by simp)
  have h := get_calls w x 32 32 (by omega) (by omega)
  rw [e] at h
  exact h

set_option maxRecDepth 100000 in
theorem signed_calls (w : World) (n : Int) (h0 : 0 ≤ n) (h1 : n < 1073741824) : Gives Try.prog 115 #[.int .u64 n, .int .i64 30] w (.int .i64 (sgn30 n)) := by
 have G := Grow.rfl' w
 refine gives_of Try.func115 Try.ntmps115 Try.results115 rfl rfl ?_
 refine W_seq (W_region rfl ?_)
 refine WL_some (og rfl ?_)
 (first | refine r_assign_int rfl ?_ | refine r_assign rfl ?_)
 refine WL_nil ?_
 refine W_seq (W_region rfl ?_)
 refine WL_some (og rfl ?_)
 (first | refine r_move_int rfl ?_ | refine r_move rfl ?_)
 refine WL_some (og rfl ?_)
 (first | (refine r_min_l rfl rfl rfl ?_ ?_; omega) | (refine r_min_r rfl rfl rfl ?_ ?_; omega) | refine r_min rfl rfl rfl ?_)
 refine WL_some (og rfl ?_)
 (first | (refine r_max_l rfl rfl rfl ?_ ?_; omega) | (refine r_max_r rfl rfl rfl ?_ ?_; omega) | refine r_max rfl rfl rfl ?_)
 refine WL_some (og rfl ?_)
 (first | (refine r_sub rfl rfl ?_ ?_; (constructor <;> omega)) | refine r_subw rfl rfl ?_)
 refine WL_some (og rfl ?_)
 (first | refine r_assign_int rfl ?_ | refine r_assign rfl ?_)
 refine WL_nil ?_
 refine W_seq (W_region rfl ?_)
 refine WL_some (og rfl ?_)
 (first | refine r_move_int rfl ?_ | refine r_move rfl ?_)
 refine WL_some (og rfl ?_)
 (first | refine r_move_int rfl ?_ | refine r_move rfl ?_)
 refine WL_some (og rfl ?_)
 (refine r_shl rfl rfl ?_ ?_; omega)
 refine WL_some (og rfl ?_)
 (first | (refine r_conv rfl ?_ ?_; (constructor <;> omega)) | refine r_convw rfl ?_)
 refine WL_some (og rfl ?_)
 (first | refine r_move_int rfl ?_ | refine r_move rfl ?_)
 refine WL_some (og rfl ?_)
 (refine r_shr rfl rfl ?_ ?_; omega)
 refine WL_some (og rfl ?_)
 (first | refine r_assign_int rfl ?_ | refine r_assign rfl ?_)
 refine WL_nil ?_
 refine W_ret ?_
 exact ret1 (res_tmp rfl) ⟨congrArg (Value.int .i64) (signed_eq n h0 h1), G⟩

set_option maxRecDepth 100000 in
theorem decode_calls (w : World) (x : Int) (hx0 : 0 ≤ x) (hx1 : x ≤ 18446744073709551615) : Gives Try.prog 103 #[.int .u64 x] w (.tuple #[(decP x).v, .int .u16 (decE x)]) := by
 have G := Grow.rfl' w
 refine gives_of Try.func103 Try.ntmps103 Try.results103 rfl rfl ?_
 refine W_seq (W_region rfl ?_)
 refine stp (r_alloc ?_)
 intro b1 w2 hb3 hc4 g5
 refine WL_some (og rfl ?_)
 (first | refine r_assign_int rfl ?_ | refine r_assign rfl ?_)
 refine WL_nil ?_
 refine W_seq ?_
 refine W_seq (W_region rfl ?_)
 refine WL_some (og rfl ?_)
 (first | refine r_move_int rfl ?_ | refine r_move rfl ?_)
 refine WL_some (og rfl ?_)
 (first | (refine r_eql_t rfl rfl ?_ ?_; (first | assumption | omega)) | (refine r_eql_f rfl rfl ?_ ?_; (first | assumption | omega)) | refine r_eql rfl rfl ?_)
 refine WL_nil ?_
 have hge6 := Nat.le_trans G.size hb3
 replace G := G.tr g5
 clear g5 hb3
 refine W_cond2 rfl (fun h0 => ?_) (fun h0 => ?_)
 ·-- true
  first | (replace h0 := of_decide_eq_true h0) | (replace h0 := of_decide_eq_false h0) | skip
  refine W_seq (W_region rfl ?_)
  refine stp (r_build (v := .agg #[.int .i64 (0), .int .i64 (0), .int .i64 (0), .int .i64 (0), .int .i64 (0), .int .i64 (0), .int .i64 (0), .bool false]) (fun w => by kernel_rfl) ?_)
  refine stn (r_storeAll rfl rfl hc4 (by rfl) (by rfl) (by rfl) ?_)
  intro w10 hc11 u12
  replace G := G.upd u12 hge6
  clear u12 hc4
  refine WL_some (og rfl ?_)
  (first | refine r_assign_int rfl ?_ | refine r_assign rfl ?_)
  refine WL_nil ?_
  refine W_ret ?_
  subst h0
  refine ret2 (res_all rfl (by assumption) (by rfl)) (res_int rfl) ⟨?_, G⟩
  simp [decP, decE, Pt.v, Pt0, ]
 ·-- false
  first | (replace h0 := of_decide_eq_true h0) | (replace h0 := of_decide_eq_false h0) | skip
  refine W_skip ?_
  refine W_seq (W_region rfl ?_)
  refine stp (r_alloc ?_)
  intro b13 w14 hb15 hc16 g17
  refine WL_nil ?_
  refine W_seq ?_
  refine W_seq (W_region rfl ?_)
  have hge18 := Nat.le_trans G.size hb15
  have ne19 := Nat.ne_of_lt (Nat.lt_of_lt_of_le (lt_of_heap hc4) hb15)
  replace hc4 := g17.heap hc4
  replace G := G.tr g17
  clear g17 hb15
  refine stp (r_gives rfl (kind_calls _) ?_)
  intro w20 g21
  replace hc4 := g21.heap hc4
  replace hc16 := g21.heap hc16
  replace G := G.tr g21
  clear g21
  refine WL_some (og rfl ?_)
  (first | refine r_move_int rfl ?_ | refine r_move rfl ?_)
  refine stp (r_gives rfl (get_kind _ _ hx0 hx1) ?_)
  intro w22 g23
  replace hc4 := g23.heap hc4
  replace hc16 := g23.heap hc16
  replace G := G.tr g23
  clear g23
  refine WL_some (og rfl ?_)
  (first | refine r_assign_int rfl ?_ | refine r_assign rfl ?_)
  refine WL_nil ?_
  refine W_seq (W_region rfl ?_)
  refine WL_some (og rfl ?_)
  (first | refine r_move_int rfl ?_ | refine r_move rfl ?_)
  refine WL_nil ?_
  refine W_block ?_
  refine W_seq (W_region rfl ?_)
  refine WL_some (og rfl ?_)
  (first | (refine r_eql_t rfl rfl ?_ ?_; (first | assumption | omega)) | (refine r_eql_f rfl rfl ?_ ?_; (first | assumption | omega)) | refine r_eql rfl rfl ?_)
  refine WL_some (og rfl ?_)
  (first | refine r_assign_bool rfl ?_ | refine r_assign rfl ?_)
  refine WL_nil ?_
  refine W_cond2 rfl (fun h1 => ?_) (fun h1 => ?_)
  ·-- true
   first | (replace h1 := of_decide_eq_true h1) | (replace h1 := of_decide_eq_false h1) | skip
   refine W_region rfl ?_
   refine stp (r_gives rfl (data_calls _) ?_)
   intro w24 g25
   replace hc4 := g25.heap hc4
   replace hc16 := g25.heap hc16
   replace G := G.tr g25
   clear g25
   refine WL_some (og rfl ?_)
   (first | refine r_move_int rfl ?_ | refine r_move rfl ?_)
   refine stp (r_gives rfl (get_data _ _ hx0 hx1) ?_)
   intro w26 g27
   replace hc4 := g27.heap hc4
   replace hc16 := g27.heap hc16
   replace G := G.tr g27
   clear g27
   refine WL_some (og rfl ?_)
   (first | (refine r_conv rfl ?_ ?_; (constructor <;> omega)) | refine r_convw rfl ?_)
   refine stp (r_gives rfl (ptrs_calls _) ?_)
   intro w28 g29
   replace hc4 := g29.heap hc4
   replace hc16 := g29.heap hc16
   replace G := G.tr g29
   clear g29
   refine WL_some (og rfl ?_)
   (first | refine r_move_int rfl ?_ | refine r_move rfl ?_)
   refine stp (r_gives rfl (get_ptrs _ _ hx0 hx1) ?_)
   intro w30 g31
   replace hc4 := g31.heap hc4
   replace hc16 := g31.heap hc16
   replace G := G.tr g31
   clear g31
   refine WL_some (og rfl ?_)
   (first | (refine r_conv rfl ?_ ?_; (constructor <;> omega)) | refine r_convw rfl ?_)
   refine stp (r_build (v := .agg #[.int .i64 (1), .int .i64 (0), .int .i64 (x / 4294967296 % 65536), .int .i64 (x / 281474976710656 % 65536), .int .i64 (0), .int .i64 (0), .int .i64 (0), .bool false]) (fun w => by kernel_rfl) ?_)
   refine stn (r_storeAll rfl rfl hc16 (by rfl) (by rfl) (by rfl) ?_)
   intro w35 hc36 u37
   replace hc4 := u37.heap hc4 ne19
   replace G := G.upd u37 hge18
   clear u37 hc16
   refine WL_nil ?_
   refine W_seq (W_region rfl ?_)
   refine stp (r_gives rfl (off_calls _) ?_)
   intro w38 g39
   replace hc4 := g39.heap hc4
   replace hc36 := g39.heap hc36
   replace G := G.tr g39
   clear g39
   refine WL_some (og rfl ?_)
   (first | refine r_move_int rfl ?_ | refine r_move rfl ?_)
   refine stp (r_gives rfl (get_off _ _ hx0 hx1) ?_)
   intro w40 g41
   replace hc4 := g41.heap hc4
   replace hc36 := g41.heap hc36
   replace G := G.tr g41
   clear g41
   refine stp (r_gives rfl (off_calls _) ?_)
   intro w42 g43
   replace hc4 := g43.heap hc4
   replace hc36 := g43.heap hc36
   replace G := G.tr g43
   clear g43
   refine stp (r_field rfl (by rfl) ?_)
   refine stp (r_gives rfl (signed_calls _ _ (by omega) (by omega)) ?_)
   intro w44 g45
   replace hc4 := g45.heap hc4
   replace hc36 := g45.heap hc36
   replace G := G.tr g45
   clear g45
   refine stp (r_fieldAddr rfl ?_)
   refine stn (r_store1 (v := .int _ _) rfl rfl (by rfl) hc36 (by rfl) (by rfl) ?_)
   intro w49 hc50 u51
   replace hc4 := u51.heap hc4 ne19
   replace G := G.upd u51 hge18
   clear u51 hc36
   refine WL_nil ?_
   refine W_seq (W_region rfl ?_)
   refine WL_some (og rfl ?_)
   (first | refine r_loadAll rfl (by assumption) (by rfl) ?_ | refine r_loadN rfl (by assumption) (by rfl) (by rfl) ?_)
   refine stn (r_storeAll rfl rfl hc4 (by rfl) (by rfl) (by rfl) ?_)
   intro w55 hc56 u57
   replace hc50 := u57.heap hc50 ne19.symm
   replace G := G.upd u57 hge6
   clear u57 hc4
   refine WL_some (og rfl ?_)
   (first | refine r_assign_int rfl ?_ | refine r_assign rfl ?_)
   refine WL_nil ?_
   refine W_ret ?_
   refine ret2 (res_all rfl (by assumption) (by rfl)) (res_int rfl) ⟨?_, G⟩
   simp [decP, decE, Pt.v, Pt0, h0, h1]
  ·-- false
   first | (replace h1 := of_decide_eq_true h1) | (replace h1 := of_decide_eq_false h1) | skip
   refine W_seq (W_region rfl ?_)
   refine WL_some (og rfl ?_)
   (first | (refine r_eql_t rfl rfl ?_ ?_; (first | assumption | omega)) | (refine r_eql_f rfl rfl ?_ ?_; (first | assumption | omega)) | refine r_eql rfl rfl ?_)
   refine WL_some (og rfl ?_)
   (first | refine r_assign_bool rfl ?_ | refine r_assign rfl ?_)
   refine WL_nil ?_
   refine W_cond2 rfl (fun h2 => ?_) (fun h2 => ?_)
   ·-- true
    first | (replace h2 := of_decide_eq_true h2) | (replace h2 := of_decide_eq_false h2) | skip
    refine W_region rfl ?_
    refine stp (r_gives rfl (size_calls _) ?_)
    intro w58 g59
    replace hc4 := g59.heap hc4
    replace hc16 := g59.heap hc16
    replace G := G.tr g59
    clear g59
    refine WL_some (og rfl ?_)
    (first | refine r_move_int rfl ?_ | refine r_move rfl ?_)
    refine stp (r_gives rfl (get_size _ _ hx0 hx1) ?_)
    intro w60 g61
    replace hc4 := g61.heap hc4
    replace hc16 := g61.heap hc16
    replace G := G.tr g61
    clear g61
    refine WL_some (og rfl ?_)
    (first | (refine r_conv rfl ?_ ?_; (constructor <;> omega)) | refine r_convw rfl ?_)
    refine stp (r_gives rfl (count_calls _) ?_)
    intro w62 g63
    replace hc4 := g63.heap hc4
    replace hc16 := g63.heap hc16
    replace G := G.tr g63
    clear g63
    refine WL_some (og rfl ?_)
    (first | refine r_move_int rfl ?_ | refine r_move rfl ?_)
    refine stp (r_gives rfl (get_count _ _ hx0 hx1) ?_)
    intro w64 g65
    replace hc4 := g65.heap hc4
    replace hc16 := g65.heap hc16
    replace G := G.tr g65
    clear g65
    refine WL_some (og rfl ?_)
    (first | (refine r_conv rfl ?_ ?_; (constructor <;> omega)) | refine r_convw rfl ?_)
    refine stp (r_build (v := .agg #[.int .i64 (2), .int .i64 (0), .int .i64 (0), .int .i64 (0), .int .i64 (x / 4294967296 % 8), .int .i64 (x / 34359738368 % 536870912), .int .i64 (0), .bool false]) (fun w => by kernel_rfl) ?_)
    refine stn (r_storeAll rfl rfl hc16 (by rfl) (by rfl) (by rfl) ?_)
    intro w69 hc70 u71
    replace hc4 := u71.heap hc4 ne19
    replace G := G.upd u71 hge18
    clear u71 hc16
    refine WL_nil ?_
    refine W_seq (W_region rfl ?_)
    refine stp (r_gives rfl (off_calls _) ?_)
    intro w72 g73
    replace hc4 := g73.heap hc4
    replace hc70 := g73.heap hc70
    replace G := G.tr g73
    clear g73
    refine WL_some (og rfl ?_)
    (first | refine r_move_int rfl ?_ | refine r_move rfl ?_)
    refine stp (r_gives rfl (get_off _ _ hx0 hx1) ?_)
    intro w74 g75
    replace hc4 := g75.heap hc4
    replace hc70 := g75.heap hc70
    replace G := G.tr g75
    clear g75
    refine stp (r_gives rfl (off_calls _) ?_)
    intro w76 g77
    replace hc4 := g77.heap hc4
    replace hc70 := g77.heap hc70
    replace G := G.tr g77
    clear g77
    refine stp (r_field rfl (by rfl) ?_)
    refine stp (r_gives rfl (signed_calls _ _ (by omega) (by omega)) ?_)
    intro w78 g79
    replace hc4 := g79.heap hc4
    replace hc70 := g79.heap hc70
    replace G := G.tr g79
    clear g79
    refine stp (r_fieldAddr rfl ?_)
    refine stn (r_store1 (v := .int _ _) rfl rfl (by rfl) hc70 (by rfl) (by rfl) ?_)
    intro w83 hc84 u85
    replace hc4 := u85.heap hc4 ne19
    replace G := G.upd u85 hge18
    clear u85 hc70
    refine WL_nil ?_
    refine W_seq (W_region rfl ?_)
    refine WL_some (og rfl ?_)
    (first | refine r_loadAll rfl (by assumption) (by rfl) ?_ | refine r_loadN rfl (by assumption) (by rfl) (by rfl) ?_)
    refine stn (r_storeAll rfl rfl hc4 (by rfl) (by rfl) (by rfl) ?_)
    intro w89 hc90 u91
    replace hc84 := u91.heap hc84 ne19.symm
    replace G := G.upd u91 hge6
    clear u91 hc4
    refine WL_some (og rfl ?_)
    (first | refine r_assign_int rfl ?_ | refine r_assign rfl ?_)
    refine WL_nil ?_
    refine W_ret ?_
    refine ret2 (res_all rfl (by assumption) (by rfl)) (res_int rfl) ⟨?_, G⟩
    simp [decP, decE, Pt.v, Pt0, h0, h1, h2]
   ·-- false
    first | (replace h2 := of_decide_eq_true h2) | (replace h2 := of_decide_eq_false h2) | skip
    refine W_seq (W_region rfl ?_)
    refine WL_some (og rfl ?_)
    (first | (refine r_eql_t rfl rfl ?_ ?_; (first | assumption | omega)) | (refine r_eql_f rfl rfl ?_ ?_; (first | assumption | omega)) | refine r_eql rfl rfl ?_)
    refine WL_some (og rfl ?_)
    (first | refine r_assign_bool rfl ?_ | refine r_assign rfl ?_)
    refine WL_nil ?_
    refine W_cond2 rfl (fun h3 => ?_) (fun h3 => ?_)
    ·-- true
     first | (replace h3 := of_decide_eq_true h3) | (replace h3 := of_decide_eq_false h3) | skip
     refine W_seq (W_region rfl ?_)
     refine stp (r_gives rfl (place_calls _) ?_)
     intro w92 g93
     replace hc4 := g93.heap hc4
     replace hc16 := g93.heap hc16
     replace G := G.tr g93
     clear g93
     refine WL_some (og rfl ?_)
     (first | refine r_move_int rfl ?_ | refine r_move rfl ?_)
     refine stp (r_gives rfl (get_place _ _ hx0 hx1) ?_)
     intro w94 g95
     replace hc4 := g95.heap hc4
     replace hc16 := g95.heap hc16
     replace G := G.tr g95
     clear g95
     refine WL_some (og rfl ?_)
     (first | (refine r_conv rfl ?_ ?_; (constructor <;> omega)) | refine r_convw rfl ?_)
     refine stp (r_gives rfl (seg_calls _) ?_)
     intro w96 g97
     replace hc4 := g97.heap hc4
     replace hc16 := g97.heap hc16
     replace G := G.tr g97
     clear g97
     refine WL_some (og rfl ?_)
     (first | refine r_move_int rfl ?_ | refine r_move rfl ?_)
     refine stp (r_gives rfl (get_seg _ _ hx0 hx1) ?_)
     intro w98 g99
     replace hc4 := g99.heap hc4
     replace hc16 := g99.heap hc16
     replace G := G.tr g99
     clear g99
     refine WL_some (og rfl ?_)
     (first | (refine r_conv rfl ?_ ?_; (constructor <;> omega)) | refine r_convw rfl ?_)
     refine stp (r_gives rfl (double_calls _) ?_)
     intro w100 g101
     replace hc4 := g101.heap hc4
     replace hc16 := g101.heap hc16
     replace G := G.tr g101
     clear g101
     refine WL_some (og rfl ?_)
     (first | refine r_move_int rfl ?_ | refine r_move rfl ?_)
     refine stp (r_gives rfl (get_double _ _ hx0 hx1) ?_)
     intro w102 g103
     replace hc4 := g103.heap hc4
     replace hc16 := g103.heap hc16
     replace G := G.tr g103
     clear g103
     refine stp (r_eql rfl rfl ?_)
     refine stp (r_build (v := .agg #[.int .i64 (3), .int .i64 (x / 8 % 536870912), .int .i64 (0), .int .i64 (0), .int .i64 (0), .int .i64 (0), .int .i64 (x / 4294967296 % 4294967296), .bool (decide (x / 4 % 2 = 1))]) (fun w => by kernel_rfl) ?_)
     refine stn (r_storeAll rfl rfl hc4 (by rfl) (by rfl) (by rfl) ?_)
     intro w107 hc108 u109
     replace hc16 := u109.heap hc16 ne19.symm
     replace G := G.upd u109 hge6
     clear u109 hc4
     refine WL_some (og rfl ?_)
     (first | refine r_assign_int rfl ?_ | refine r_assign rfl ?_)
     refine WL_nil ?_
     refine W_ret ?_
     refine ret2 (res_all rfl (by assumption) (by rfl)) (res_int rfl) ⟨?_, G⟩
     simp [decP, decE, Pt.v, Pt0, h0, h1, h2, h3]
    ·-- false
     first | (replace h3 := of_decide_eq_true h3) | (replace h3 := of_decide_eq_false h3) | skip
     have h4 : x % 4 = 3 := by omega
     refine W_seq (W_region rfl ?_)
     refine WL_some (og rfl ?_)
     (first | refine r_loadAll rfl (by assumption) (by rfl) ?_ | refine r_loadN rfl (by assumption) (by rfl) (by rfl) ?_)
     refine stn (r_storeAll rfl rfl hc4 (by rfl) (by rfl) (by rfl) ?_)
     intro w113 hc114 u115
     replace hc16 := u115.heap hc16 ne19.symm
     replace G := G.upd u115 hge6
     clear u115 hc4
     refine WL_some (og rfl ?_)
     (first | refine r_assign_int rfl ?_ | refine r_assign rfl ?_)
     refine WL_nil ?_
     refine W_ret ?_
     refine ret2 (res_all rfl (by assumption) (by rfl)) (res_int rfl) ⟨?_, G⟩
     simp [decP, decE, Pt.v, Pt0, h0, h1, h2, h3, h4]

set_option maxRecDepth 100000 in
theorem words_calls (w : World) (p : Pt) : Gives Try.prog 91 #[.agg #[.int .i64 (p.kind), .int .i64 (p.off), .int .i64 (p.data), .int .i64 (p.ptrs), .int .i64 (p.size), .int .i64 (p.count), .int .i64 (p.seg), .bool p.dbl]] w (.tuple #[.int .i64 (wordsN p), .int .u16 (wordsE p)]) := by
 have G := Grow.rfl' w
 refine gives_of Try.func91 Try.ntmps91 Try.results91 rfl rfl ?_
 refine W_seq (W_region rfl ?_)
 refine WL_some (og rfl ?_)
 (first | refine r_box_agg rfl ?_ | refine r_box_int rfl ?_ | refine r_box_slice rfl ?_ | refine r_box rfl rfl ?_)
 intro b1 w2 hb3 hc4 g5
 have hge6 := Nat.le_trans G.size hb3
 replace G := G.tr g5
 clear g5 hb3
 refine WL_some (og rfl ?_)
 (first | refine r_assign_int rfl ?_ | refine r_assign rfl ?_)
 refine WL_some (og rfl ?_)
 (first | refine r_assign_int rfl ?_ | refine r_assign rfl ?_)
 refine WL_nil ?_
 refine W_seq ?_
 refine W_seq (W_region rfl ?_)
 refine stp (r_fieldAddr rfl ?_)
 refine stp (r_load rfl (by assumption) (by rfl) ?_)
 refine WL_nil ?_
 refine W_block ?_
 refine W_seq (W_region rfl ?_)
 refine WL_some (og rfl ?_)
 (first | (refine r_eql_t rfl rfl ?_ ?_; (first | assumption | omega)) | (refine r_eql_f rfl rfl ?_ ?_; (first | assumption | omega)) | refine r_eql rfl rfl ?_)
 refine WL_some (og rfl ?_)
 (first | refine r_assign_bool rfl ?_ | refine r_assign rfl ?_)
 refine WL_nil ?_
 refine W_cond2 rfl (fun h0 => ?_) (fun h0 => ?_)
 ·-- true
  first | (replace h0 := of_decide_eq_true h0) | (replace h0 := of_decide_eq_false h0) | skip
  refine W_seq (W_region rfl ?_)
  refine WL_some (og rfl ?_)
  (first | refine r_assign_int rfl ?_ | refine r_assign rfl ?_)
  refine WL_some (og rfl ?_)
  (first | refine r_assign_int rfl ?_ | refine r_assign rfl ?_)
  refine WL_nil ?_
  refine W_ret ?_
  refine ret2 (res_int rfl) (res_int rfl) ⟨?_, G⟩
  simp [wordsN, wordsE, h0]
 ·-- false
  first | (replace h0 := of_decide_eq_true h0) | (replace h0 := of_decide_eq_false h0) | skip
  refine W_seq (W_region rfl ?_)
  refine WL_some (og rfl ?_)
  (first | (refine r_eql_t rfl rfl ?_ ?_; (first | assumption | omega)) | (refine r_eql_f rfl rfl ?_ ?_; (first | assumption | omega)) | refine r_eql rfl rfl ?_)
  refine WL_some (og rfl ?_)
  (first | refine r_assign_bool rfl ?_ | refine r_assign rfl ?_)
  refine WL_nil ?_
  refine W_cond2 rfl (fun h1 => ?_) (fun h1 => ?_)
  ·-- true
   first | (replace h1 := of_decide_eq_true h1) | (replace h1 := of_decide_eq_false h1) | skip
   refine W_seq (W_region rfl ?_)
   refine stp (r_fieldAddr rfl ?_)
   refine stp (r_load rfl (by assumption) (by rfl) ?_)
   refine stp (r_fieldAddr rfl ?_)
   refine stp (r_load rfl (by assumption) (by rfl) ?_)
   refine WL_some (og rfl ?_)
   (first | (refine r_add rfl rfl ?_ ?_; (constructor <;> omega)) | refine r_addw rfl rfl ?_)
   refine WL_some (og rfl ?_)
   (first | refine r_assign_int rfl ?_ | refine r_assign rfl ?_)
   refine WL_some (og rfl ?_)
   (first | refine r_assign_int rfl ?_ | refine r_assign rfl ?_)
   refine WL_nil ?_
   refine W_ret ?_
   refine ret2 (res_int rfl) (res_int rfl) ⟨?_, G⟩
   simp [wordsN, wordsE, h0, h1]
  ·-- false
   first | (replace h1 := of_decide_eq_true h1) | (replace h1 := of_decide_eq_false h1) | skip
   refine W_seq (W_region rfl ?_)
   refine WL_some (og rfl ?_)
   (first | (refine r_eql_t rfl rfl ?_ ?_; (first | assumption | omega)) | (refine r_eql_f rfl rfl ?_ ?_; (first | assumption | omega)) | refine r_eql rfl rfl ?_)
   refine WL_some (og rfl ?_)
   (first | refine r_assign_bool rfl ?_ | refine r_assign rfl ?_)
   refine WL_nil ?_
   refine W_cond2 rfl (fun h3 => ?_) (fun h3 => ?_)
   ·-- true
    first | (replace h3 := of_decide_eq_true h3) | (replace h3 := of_decide_eq_false h3) | skip
    refine W_seq ?_
    refine W_seq (W_region rfl ?_)
    refine stp (r_fieldAddr rfl ?_)
    refine stp (r_load rfl (by assumption) (by rfl) ?_)
    refine WL_nil ?_
    refine W_cond2 rfl (fun hd_ => ?_) (fun hd_ => ?_)
    ·-- true
     first | (replace hd_ := of_decide_eq_true hd_) | (replace hd_ := of_decide_eq_false hd_) | skip
     refine W_seq (W_region rfl ?_)
     refine WL_some (og rfl ?_)
     (first | refine r_assign_int rfl ?_ | refine r_assign rfl ?_)
     refine WL_some (og rfl ?_)
     (first | refine r_assign_int rfl ?_ | refine r_assign rfl ?_)
     refine WL_nil ?_
     refine W_ret ?_
     refine ret2 (res_int rfl) (res_int rfl) ⟨?_, G⟩
     simp [wordsN, wordsE, h0, h1, h3, hd_]
    ·-- false
     first | (replace hd_ := of_decide_eq_true hd_) | (replace hd_ := of_decide_eq_false hd_) | skip
     refine W_skip ?_
     refine W_seq (W_region rfl ?_)
     refine WL_some (og rfl ?_)
     (first | refine r_assign_int rfl ?_ | refine r_assign rfl ?_)
     refine WL_some (og rfl ?_)
     (first | refine r_assign_int rfl ?_ | refine r_assign rfl ?_)
     refine WL_nil ?_
     refine W_ret ?_
     refine ret2 (res_int rfl) (res_int rfl) ⟨?_, G⟩
     simp [wordsN, wordsE, h0, h1, h3, hd_]
   ·-- false
    first | (replace h3 := of_decide_eq_true h3) | (replace h3 := of_decide_eq_false h3) | skip
    refine W_seq (W_region rfl ?_)
    refine WL_some (og rfl ?_)
    (first | (refine r_eql_t rfl rfl ?_ ?_; (first | assumption | omega)) | (refine r_eql_f rfl rfl ?_ ?_; (first | assumption | omega)) | refine r_eql rfl rfl ?_)
    refine WL_some (og rfl ?_)
    (first | refine r_assign_bool rfl ?_ | refine r_assign rfl ?_)
    refine WL_nil ?_
    refine W_cond2 rfl (fun h2 => ?_) (fun h2 => ?_)
    ·-- true
     first | (replace h2 := of_decide_eq_true h2) | (replace h2 := of_decide_eq_false h2) | skip
     refine W_seq (W_region rfl ?_)
     refine stp (r_fieldAddr rfl ?_)
     refine stp (r_load rfl (by assumption) (by rfl) ?_)
     refine WL_nil ?_
     refine W_block ?_
     refine W_seq ?_
     refine W_block ?_
     refine W_block ?_
     refine W_seq ?_
     refine W_block ?_
     refine W_seq ?_
     refine W_seq ?_
     refine W_seq (W_region rfl ?_)
     refine WL_some (og rfl ?_)
     (first | (refine r_eql_t rfl rfl ?_ ?_; (first | assumption | omega)) | (refine r_eql_f rfl rfl ?_ ?_; (first | assumption | omega)) | refine r_eql rfl rfl ?_)
     refine WL_some (og rfl ?_)
     (first | refine r_assign_bool rfl ?_ | refine r_assign rfl ?_)
     refine WL_nil ?_
     refine W_cond2 rfl (fun s2 => ?_) (fun s2 => ?_)
     ·-- true
      first | (replace s2 := of_decide_eq_true s2) | (replace s2 := of_decide_eq_false s2) | skip
      refine W_exit ?_
      refine W_seq ?_
      refine W_seq (W_region rfl ?_)
      refine stp (r_fieldAddr rfl ?_)
      refine stp (r_load rfl (by assumption) (by rfl) ?_)
      refine WL_some (og rfl ?_)
      (first | (refine r_add rfl rfl ?_ ?_; (constructor <;> omega)) | refine r_addw rfl rfl ?_)
      refine WL_some (og rfl ?_)
      (first | (refine r_sub rfl rfl ?_ ?_; (constructor <;> omega)) | refine r_subw rfl rfl ?_)
      refine WL_some (og rfl ?_)
      (first | (refine r_quo rfl rfl ?_ ?_ ?_ ?_; omega; omega; (constructor <;> omega)) | (refine r_quow rfl rfl ?_ ?_; omega))
      refine WL_some (og rfl ?_)
      (first | refine r_assign_int rfl ?_ | refine r_assign rfl ?_)
      refine WL_some (og rfl ?_)
      (first | refine r_assign_int rfl ?_ | refine r_assign rfl ?_)
      refine WL_nil ?_
      refine W_ret ?_
      refine ret2 (res_int rfl) (res_int rfl) ⟨?_, G⟩
      simp [wordsN, wordsE, h0, h1, h3, h2, s2]
     ·-- false
      first | (replace s2 := of_decide_eq_true s2) | (replace s2 := of_decide_eq_false s2) | skip
      refine W_skip ?_
      refine W_seq ?_
      refine W_seq (W_region rfl ?_)
      refine WL_some (og rfl ?_)
      (first | (refine r_eql_t rfl rfl ?_ ?_; (first | assumption | omega)) | (refine r_eql_f rfl rfl ?_ ?_; (first | assumption | omega)) | refine r_eql rfl rfl ?_)
      refine WL_some (og rfl ?_)
      (first | refine r_assign_bool rfl ?_ | refine r_assign rfl ?_)
      refine WL_nil ?_
      refine W_cond2 rfl (fun s5 => ?_) (fun s5 => ?_)
      ·-- true
       first | (replace s5 := of_decide_eq_true s5) | (replace s5 := of_decide_eq_false s5) | skip
       refine W_exit ?_
       refine W_seq ?_
       refine W_seq (W_region rfl ?_)
       refine stp (r_fieldAddr rfl ?_)
       refine stp (r_load rfl (by assumption) (by rfl) ?_)
       refine WL_some (og rfl ?_)
       (first | refine r_assign_int rfl ?_ | refine r_assign rfl ?_)
       refine WL_some (og rfl ?_)
       (first | refine r_assign_int rfl ?_ | refine r_assign rfl ?_)
       refine WL_nil ?_
       refine W_ret ?_
       refine ret2 (res_int rfl) (res_int rfl) ⟨?_, G⟩
       simp [wordsN, wordsE, h0, h1, h3, h2, s2, s5]
      ·-- false
       first | (replace s5 := of_decide_eq_true s5) | (replace s5 := of_decide_eq_false s5) | skip
       refine W_skip ?_
       refine W_seq (W_region rfl ?_)
       refine WL_some (og rfl ?_)
       (first | (refine r_eql_t rfl rfl ?_ ?_; (first | assumption | omega)) | (refine r_eql_f rfl rfl ?_ ?_; (first | assumption | omega)) | refine r_eql rfl rfl ?_)
       refine WL_some (og rfl ?_)
       (first | refine r_assign_bool rfl ?_ | refine r_assign rfl ?_)
       refine WL_nil ?_
       refine W_cond2 rfl (fun s6 => ?_) (fun s6 => ?_)
       ·-- true
        first | (replace s6 := of_decide_eq_true s6) | (replace s6 := of_decide_eq_false s6) | skip
        refine W_exit ?_
        refine W_seq ?_
        refine W_seq (W_region rfl ?_)
        refine stp (r_fieldAddr rfl ?_)
        refine stp (r_load rfl (by assumption) (by rfl) ?_)
        refine WL_some (og rfl ?_)
        (first | refine r_assign_int rfl ?_ | refine r_assign rfl ?_)
        refine WL_some (og rfl ?_)
        (first | refine r_assign_int rfl ?_ | refine r_assign rfl ?_)
        refine WL_nil ?_
        refine W_ret ?_
        refine ret2 (res_int rfl) (res_int rfl) ⟨?_, G⟩
        simp [wordsN, wordsE, h0, h1, h3, h2, s2, s5, s6]
       ·-- false
        first | (replace s6 := of_decide_eq_true s6) | (replace s6 := of_decide_eq_false s6) | skip
        refine W_skip ?_
        refine W_exit ?_
        refine W_seq (W_region rfl ?_)
        refine WL_some (og rfl ?_)
        (first | refine r_assign_int rfl ?_ | refine r_assign rfl ?_)
        refine WL_some (og rfl ?_)
        (first | refine r_assign_int rfl ?_ | refine r_assign rfl ?_)
        refine WL_nil ?_
        refine W_ret ?_
        refine ret2 (res_int rfl) (res_int rfl) ⟨?_, G⟩
        simp [wordsN, wordsE, h0, h1, h3, h2, s2, s5, s6]
    ·-- false
     first | (replace h2 := of_decide_eq_true h2) | (replace h2 := of_decide_eq_false h2) | skip
     refine W_skip ?_
     refine W_seq (W_region rfl ?_)
     refine WL_some (og rfl ?_)
     (first | refine r_assign_int rfl ?_ | refine r_assign rfl ?_)
     refine WL_some (og rfl ?_)
     (first | refine r_assign_int rfl ?_ | refine r_assign rfl ?_)
     refine WL_nil ?_
     refine W_ret ?_
     refine ret2 (res_int rfl) (res_int rfl) ⟨?_, G⟩
     simp [wordsN, wordsE, h0, h1, h3, h2]

set_option maxRecDepth 100000 in
theorem bits_calls (w : World) (x : Int) (a b : Nat) (hx0 : 0 ≤ x) (hx1 : x ≤ 18446744073709551615) (ha : a ≤ 63) (hb : b ≤ 62) : Gives Try.prog 76 #[.int .u64 x, .int .i64 a, .int .i64 b] w (.int .u64 (x / 2 ^ a % 2 ^ b)) := by
 have G := Grow.rfl' w
 refine gives_of Try.func76 Try.ntmps76 Try.results76 rfl rfl ?_
 refine W_seq (W_region rfl ?_)
 refine WL_some (og rfl ?_)
 (first | refine r_assign_int rfl ?_ | refine r_assign rfl ?_)
 refine WL_nil ?_
 refine W_seq ?_
 refine W_seq (W_region rfl ?_)
 refine WL_some (og rfl ?_)
 (first | refine r_assign_int rfl ?_ | refine r_assign rfl ?_)
 refine WL_nil ?_
 refine W_block ?_
 refine W_loop (fun m_ e_ w_ => ∃ (k : Nat), m_ = a - k ∧ Fr [(0, .int .u64 (x / 2 ^ k)), (1, .int .i64 a), (2, .int .i64 b), (7, .int .i64 k)] e_ ∧ (k ≤ a) ∧ Grow w w_) _ ⟨0, rfl, fr_of ⟨congrArg (Value.int .u64) (by simp), rfl, rfl, rfl, trivial⟩, by omega, G⟩ ?_
 clear G
 rintro m_ e_ w1 ⟨k, rfl, ⟨e2, rfl⟩, hk, G⟩
 refine W_seq ?_
 refine W_seq (W_region rfl ?_)
 refine WL_some (og rfl ?_)
 (first | refine r_move_int rfl ?_ | refine r_move rfl ?_)
 refine WL_some (og rfl ?_)
 (first | refine r_move_int rfl ?_ | refine r_move rfl ?_)
 refine WL_some (og rfl ?_)
 (first | (refine r_lss_t rfl rfl ?_ ?_; (first | assumption | omega)) | (refine r_lss_f rfl rfl ?_ ?_; (first | assumption | omega)) | refine r_lss rfl rfl ?_)
 refine WL_nil ?_
 refine W_cond2 rfl (fun hlt => ?_) (fun hlt => ?_)
 ·-- true
  first | (replace hlt := of_decide_eq_true hlt) | (replace hlt := of_decide_eq_false hlt) | skip
  have hk2 : k < a := by omega
  obtain ⟨hd0, hd1⟩ := div_range x k hx0
  refine W_skip ?_
  refine W_seq ?_
  refine W_block ?_
  refine W_region rfl ?_
  refine WL_some (og rfl ?_)
  (first | refine r_move_int rfl ?_ | refine r_move rfl ?_)
  refine WL_some (og rfl ?_)
  (first | (refine r_quo rfl rfl ?_ ?_ ?_ ?_; omega; omega; (constructor <;> omega)) | (refine r_quow rfl rfl ?_ ?_; omega))
  refine WL_some (og rfl ?_)
  (first | refine r_assign_int rfl ?_ | refine r_assign rfl ?_)
  refine WL_nil ?_
  refine W_region rfl ?_
  refine WL_some (og rfl ?_)
  (first | refine r_move_int rfl ?_ | refine r_move rfl ?_)
  refine WL_some (og rfl ?_)
  (first | (refine r_add rfl rfl ?_ ?_; (constructor <;> omega)) | refine r_addw rfl rfl ?_)
  refine WL_some (og rfl ?_)
  (first | refine r_assign_int rfl ?_ | refine r_assign rfl ?_)
  refine WL_nil ?_
  refine ⟨_, ?_, k + 1, rfl, fr_of ⟨congrArg (Value.int .u64) (div_pow x k).symm, rfl, rfl, rfl, trivial⟩, by omega, G⟩
  omega
 ·-- false
  first | (replace hlt := of_decide_eq_true hlt) | (replace hlt := of_decide_eq_false hlt) | skip
  have hk2 : k = a := by omega
  subst hk2
  obtain ⟨hd0, hd1⟩ := div_range x k hx0
  refine W_exit ?_
  refine W_seq (W_region rfl ?_)
  refine WL_some (og rfl ?_)
  (first | refine r_assign_int rfl ?_ | refine r_assign rfl ?_)
  refine WL_nil ?_
  refine W_seq ?_
  refine W_seq (W_region rfl ?_)
  refine WL_some (og rfl ?_)
  (first | refine r_assign_int rfl ?_ | refine r_assign rfl ?_)
  refine WL_nil ?_
  refine W_block ?_
  refine W_loop (fun m_ e_ w_ => ∃ (j : Nat), m_ = b - j ∧ Fr [(0, .int .u64 (x / 2 ^ k)), (8, .int .u64 (2 ^ j)), (2, .int .i64 b), (9, .int .i64 j)] e_ ∧ (j ≤ b) ∧ Grow w w_) _ ⟨0, rfl, fr_of ⟨rfl, rfl, rfl, rfl, trivial⟩, by omega, G⟩ ?_
  clear G
  rintro m_ e_ w3 ⟨j, rfl, ⟨e4, rfl⟩, hj, G⟩
  refine W_seq ?_
  refine W_seq (W_region rfl ?_)
  refine WL_some (og rfl ?_)
  (first | refine r_move_int rfl ?_ | refine r_move rfl ?_)
  refine WL_some (og rfl ?_)
  (first | refine r_move_int rfl ?_ | refine r_move rfl ?_)
  refine WL_some (og rfl ?_)
  (first | (refine r_lss_t rfl rfl ?_ ?_; (first | assumption | omega)) | (refine r_lss_f rfl rfl ?_ ?_; (first | assumption | omega)) | refine r_lss rfl rfl ?_)
  refine WL_nil ?_
  refine W_cond2 rfl (fun hlt2 => ?_) (fun hlt2 => ?_)
  ·-- true
   first | (replace hlt2 := of_decide_eq_true hlt2) | (replace hlt2 := of_decide_eq_false hlt2) | skip
   have hj2 : j < b := by omega
   obtain ⟨hp0, hp1, hp2⟩ := pow_bound j (by omega)
   refine W_skip ?_
   refine W_seq ?_
   refine W_block ?_
   refine W_region rfl ?_
   refine WL_some (og rfl ?_)
   (first | refine r_move_int rfl ?_ | refine r_move rfl ?_)
   refine WL_some (og rfl ?_)
   (first | (refine r_mul rfl rfl ?_ ?_; (constructor <;> omega)) | refine r_mulw rfl rfl ?_)
   refine WL_some (og rfl ?_)
   (first | refine r_assign_int rfl ?_ | refine r_assign rfl ?_)
   refine WL_nil ?_
   refine W_region rfl ?_
   refine WL_some (og rfl ?_)
   (first | refine r_move_int rfl ?_ | refine r_move rfl ?_)
   refine WL_some (og rfl ?_)
   (first | (refine r_add rfl rfl ?_ ?_; (constructor <;> omega)) | refine r_addw rfl rfl ?_)
   refine WL_some (og rfl ?_)
   (first | refine r_assign_int rfl ?_ | refine r_assign rfl ?_)
   refine WL_nil ?_
   refine ⟨_, ?_, j + 1, rfl, fr_of ⟨rfl, congrArg (Value.int .u64) hp2.symm, rfl, rfl, trivial⟩, by omega, G⟩
   omega
  ·-- false
   first | (replace hlt2 := of_decide_eq_true hlt2) | (replace hlt2 := of_decide_eq_false hlt2) | skip
   have hj2 : j = b := by omega
   subst hj2
   obtain ⟨hp0, hp1, hp2⟩ := pow_bound j (by omega)
   refine W_exit ?_
   refine W_seq (W_region rfl ?_)
   refine WL_some (og rfl ?_)
   (first | refine r_move_int rfl ?_ | refine r_move rfl ?_)
   refine WL_some (og rfl ?_)
   (first | refine r_move_int rfl ?_ | refine r_move rfl ?_)
   refine WL_some (og rfl ?_)
   (first | (refine r_rem rfl rfl ?_ ?_ ?_; omega; omega) | (refine r_remw rfl rfl ?_ ?_; omega))
   refine WL_some (og rfl ?_)
   (first | refine r_assign_int rfl ?_ | refine r_assign rfl ?_)
   refine WL_nil ?_
   refine W_ret ?_
   exact ret1 (res_int rfl) ⟨rfl, G⟩

theorem bits_2_30 (w : World) (x : Int) (h0 : 0 ≤ x) (h1 : x ≤ 18446744073709551615) : Gives Try.prog 76 #[.int .u64 x, .int .i64 2, .int .i64 30] w (.int .u64 (x / 4 % 1073741824)) := by
  have h := bits_calls w x 2 30 h0 h1 (by omega) (by omega)
  rw [show x / 2 ^ 2 % 2 ^ 30 = x / 4 % 1073741824 from by simp] at h
  exact h

theorem bits_32_16 (w : World) (x : Int) (h0 : 0 ≤ x) (h1 : x ≤ 18446744073709551615) : Gives Try.prog 76 #[.int .u64 x, .int .i64 32, .int .i64 16] w (.int .u64 (x / 4294967296 % 65536)) := by
  have h := bits_calls w x 32 16 h0 h1 (by omega) (by omega)
  rw [show x / 2 ^ 32 % 2 ^ 16 = x / 4294967296 % 65536 from by simp] at h
  exact h

theorem bits_48_16 (w : World) (x : Int) (h0 : 0 ≤ x) (h1 : x ≤ 18446744073709551615) : Gives Try.prog 76 #[.int .u64 x, .int .i64 48, .int .i64 16] w (.int .u64 (x / 281474976710656 % 65536)) := by
  have h := bits_calls w x 48 16 h0 h1 (by omega) (by omega)
  rw [show x / 2 ^ 48 % 2 ^ 16 = x / 281474976710656 % 65536 from by simp] at h
  exact h

theorem bits_32_3 (w : World) (x : Int) (h0 : 0 ≤ x) (h1 : x ≤ 18446744073709551615) : Gives Try.prog 76 #[.int .u64 x, .int .i64 32, .int .i64 3] w (.int .u64 (x / 4294967296 % 8)) := by
  have h := bits_calls w x 32 3 h0 h1 (by omega) (by omega)
  rw [show x / 2 ^ 32 % 2 ^ 3 = x / 4294967296 % 8 from by simp] at h
  exact h

theorem bits_35_29 (w : World) (x : Int) (h0 : 0 ≤ x) (h1 : x ≤ 18446744073709551615) : Gives Try.prog 76 #[.int .u64 x, .int .i64 35, .int .i64 29] w (.int .u64 (x / 34359738368 % 536870912)) := by
  have h := bits_calls w x 35 29 h0 h1 (by omega) (by omega)
  rw [show x / 2 ^ 35 % 2 ^ 29 = x / 34359738368 % 536870912 from by simp] at h
  exact h

theorem bits_3_29 (w : World) (x : Int) (h0 : 0 ≤ x) (h1 : x ≤ 18446744073709551615) : Gives Try.prog 76 #[.int .u64 x, .int .i64 3, .int .i64 29] w (.int .u64 (x / 8 % 536870912)) := by
  have h := bits_calls w x 3 29 h0 h1 (by omega) (by omega)
  rw [show x / 2 ^ 3 % 2 ^ 29 = x / 8 % 536870912 from by simp] at h
  exact h

theorem bits_32_32 (w : World) (x : Int) (h0 : 0 ≤ x) (h1 : x ≤ 18446744073709551615) : Gives Try.prog 76 #[.int .u64 x, .int .i64 32, .int .i64 32] w (.int .u64 (x / 4294967296 % 4294967296)) := by
  have h := bits_calls w x 32 32 h0 h1 (by omega) (by omega)
  rw [show x / 2 ^ 32 % 2 ^ 32 = x / 4294967296 % 4294967296 from by simp] at h
  exact h

theorem bits_2_1 (w : World) (x : Int) (h0 : 0 ≤ x) (h1 : x ≤ 18446744073709551615) : Gives Try.prog 76 #[.int .u64 x, .int .i64 2, .int .i64 1] w (.int .u64 (x / 4 % 2)) := by
  have h := bits_calls w x 2 1 h0 h1 (by omega) (by omega)
  rw [show x / 2 ^ 2 % 2 ^ 1 = x / 4 % 2 from by simp] at h
  exact h

set_option maxRecDepth 100000 in
theorem rsigned_calls (w : World) (n : Int) (h0 : 0 ≤ n) (h1 : n < 1073741824) : Gives Try.prog 77 #[.int .u64 n, .int .i64 30] w (.int .i64 (sgn30 n)) := by
 have G := Grow.rfl' w
 refine gives_of Try.func77 Try.ntmps77 Try.results77 rfl rfl ?_
 refine W_seq (W_region rfl ?_)
 refine WL_some (og rfl ?_)
 (first | refine r_assign_int rfl ?_ | refine r_assign rfl ?_)
 refine WL_nil ?_
 refine W_seq (W_region rfl ?_)
 refine WL_some (og rfl ?_)
 (first | refine r_move_int rfl ?_ | refine r_move rfl ?_)
 refine WL_some (og rfl ?_)
 (first | (refine r_min_l rfl rfl rfl ?_ ?_; omega) | (refine r_min_r rfl rfl rfl ?_ ?_; omega) | refine r_min rfl rfl rfl ?_)
 refine WL_some (og rfl ?_)
 (first | (refine r_max_l rfl rfl rfl ?_ ?_; omega) | (refine r_max_r rfl rfl rfl ?_ ?_; omega) | refine r_max rfl rfl rfl ?_)
 refine WL_some (og rfl ?_)
 (first | refine r_assign_int rfl ?_ | refine r_assign rfl ?_)
 refine WL_nil ?_
 refine W_seq (W_region rfl ?_)
 refine WL_some (og rfl ?_)
 (first | refine r_assign_int rfl ?_ | refine r_assign rfl ?_)
 refine WL_nil ?_
 refine W_seq ?_
 refine W_seq (W_region rfl ?_)
 refine WL_some (og rfl ?_)
 (first | refine r_assign_int rfl ?_ | refine r_assign rfl ?_)
 refine WL_nil ?_
 refine W_block ?_
 refine W_loop (fun m_ e_ w_ => ∃ (k : Nat), m_ = 29 - k ∧ Fr [(0, .int .u64 n), (1, .int .i64 30), (5, .int .i64 (2 ^ k)), (6, .int .i64 (k + 1))] e_ ∧ (k ≤ 29) ∧ Grow w w_) _ ⟨0, rfl, fr_of ⟨rfl, rfl, rfl, rfl, trivial⟩, by omega, G⟩ ?_
 clear G
 rintro m_ e_ w1 ⟨k, rfl, ⟨e2, rfl⟩, hk, G⟩
 refine W_seq ?_
 refine W_seq (W_region rfl ?_)
 refine WL_some (og rfl ?_)
 (first | refine r_move_int rfl ?_ | refine r_move rfl ?_)
 refine WL_some (og rfl ?_)
 (first | refine r_move_int rfl ?_ | refine r_move rfl ?_)
 refine WL_some (og rfl ?_)
 (first | (refine r_lss_t rfl rfl ?_ ?_; (first | assumption | omega)) | (refine r_lss_f rfl rfl ?_ ?_; (first | assumption | omega)) | refine r_lss rfl rfl ?_)
 refine WL_nil ?_
 refine W_cond2 rfl (fun hlt => ?_) (fun hlt => ?_)
 ·-- true
  first | (replace hlt := of_decide_eq_true hlt) | (replace hlt := of_decide_eq_false hlt) | skip
  obtain ⟨hp0, hp1, hp2⟩ := pow_bound30 k (by omega)
  refine W_skip ?_
  refine W_seq ?_
  refine W_block ?_
  refine W_region rfl ?_
  refine WL_some (og rfl ?_)
  (first | refine r_move_int rfl ?_ | refine r_move rfl ?_)
  refine WL_some (og rfl ?_)
  (first | (refine r_mul rfl rfl ?_ ?_; (constructor <;> omega)) | refine r_mulw rfl rfl ?_)
  refine WL_some (og rfl ?_)
  (first | refine r_assign_int rfl ?_ | refine r_assign rfl ?_)
  refine WL_nil ?_
  refine W_region rfl ?_
  refine WL_some (og rfl ?_)
  (first | refine r_move_int rfl ?_ | refine r_move rfl ?_)
  refine WL_some (og rfl ?_)
  (first | (refine r_add rfl rfl ?_ ?_; (constructor <;> omega)) | refine r_addw rfl rfl ?_)
  refine WL_some (og rfl ?_)
  (first | refine r_assign_int rfl ?_ | refine r_assign rfl ?_)
  refine WL_nil ?_
  refine ⟨_, ?_, k + 1, rfl, fr_of ⟨rfl, rfl, congrArg (Value.int .i64) hp2.symm, rfl, trivial⟩, by omega, G⟩
  omega
 ·-- false
  first | (replace hlt := of_decide_eq_true hlt) | (replace hlt := of_decide_eq_false hlt) | skip
  have hk2 : k = 29 := by omega
  subst hk2
  have hpw : (2 : Int) ^ 29 = 536870912 := rfl
  refine W_exit ?_
  refine W_seq (W_region rfl ?_)
  refine WL_some (og rfl ?_)
  (first | refine r_move_int rfl ?_ | refine r_move rfl ?_)
  refine WL_some (og rfl ?_)
  (first | refine r_move_int rfl ?_ | refine r_move rfl ?_)
  refine WL_some (og rfl ?_)
  (first | (refine r_conv rfl ?_ ?_; (constructor <;> omega)) | refine r_convw rfl ?_)
  refine WL_some (og rfl ?_)
  (first | (refine r_mul rfl rfl ?_ ?_; (constructor <;> omega)) | refine r_mulw rfl rfl ?_)
  refine WL_some (og rfl ?_)
  (first | (refine r_rem rfl rfl ?_ ?_ ?_; omega; omega) | (refine r_remw rfl rfl ?_ ?_; omega))
  refine WL_some (og rfl ?_)
  (first | (refine r_conv rfl ?_ ?_; (constructor <;> omega)) | refine r_convw rfl ?_)
  refine WL_some (og rfl ?_)
  (first | refine r_assign_int rfl ?_ | refine r_assign rfl ?_)
  refine WL_nil ?_
  refine W_seq ?_
  refine W_seq (W_region rfl ?_)
  refine WL_some (og rfl ?_)
  (first | refine r_move_int rfl ?_ | refine r_move rfl ?_)
  refine WL_some (og rfl ?_)
  (first | refine r_move_int rfl ?_ | refine r_move rfl ?_)
  refine WL_some (og rfl ?_)
  (first | (refine r_geq_t rfl rfl ?_ ?_; (first | assumption | omega)) | (refine r_geq_f rfl rfl ?_ ?_; (first | assumption | omega)) | refine r_geq rfl rfl ?_)
  refine WL_nil ?_
  refine W_cond2 rfl (fun hge => ?_) (fun hge => ?_)
  ·-- true
   first | (replace hge := of_decide_eq_true hge) | (replace hge := of_decide_eq_false hge) | skip
   refine W_seq (W_region rfl ?_)
   refine WL_some (og rfl ?_)
   (first | refine r_move_int rfl ?_ | refine r_move rfl ?_)
   refine WL_some (og rfl ?_)
   (first | refine r_move_int rfl ?_ | refine r_move rfl ?_)
   refine WL_some (og rfl ?_)
   (first | (refine r_sub rfl rfl ?_ ?_; (constructor <;> omega)) | refine r_subw rfl rfl ?_)
   refine WL_some (og rfl ?_)
   (first | refine r_move_int rfl ?_ | refine r_move rfl ?_)
   refine WL_some (og rfl ?_)
   (first | (refine r_sub rfl rfl ?_ ?_; (constructor <;> omega)) | refine r_subw rfl rfl ?_)
   refine WL_some (og rfl ?_)
   (first | refine r_assign_int rfl ?_ | refine r_assign rfl ?_)
   refine WL_nil ?_
   refine W_ret ?_
   refine ret1 (res_int rfl) ⟨congrArg (Value.int .i64) ?_, G⟩
   unfold sgn30; rw [if_neg (by omega)]; omega
  ·-- false
   first | (replace hge := of_decide_eq_true hge) | (replace hge := of_decide_eq_false hge) | skip
   refine W_skip ?_
   refine W_seq (W_region rfl ?_)
   refine WL_some (og rfl ?_)
   (first | refine r_move_int rfl ?_ | refine r_move rfl ?_)
   refine WL_some (og rfl ?_)
   (first | refine r_assign_int rfl ?_ | refine r_assign rfl ?_)
   refine WL_nil ?_
   refine W_ret ?_
   refine ret1 (res_int rfl) ⟨congrArg (Value.int .i64) ?_, G⟩
   unfold sgn30; rw [if_pos (by omega)]; omega

theorem bits0 (w : World) (x m : Int) (b : Nat) (hx0 : 0 ≤ x) (hx1 : x ≤ 18446744073709551615) (hb : b ≤ 62) (hm : x % 2 ^ b = m) : Gives Try.prog 76 #[.int .u64 x, .int .i64 0, .int .i64 b] w (.int .u64 m) := by
  have h := bits_calls w x 0 b hx0 hx1 (by omega) hb
  rw [Int.pow_zero, Int.ediv_one, hm] at h
  exact h

set_option maxRecDepth 100000 in
theorem low_calls (w : World) (x m : Int) (b : Nat) (hb : b ≤ 62) (hm : IntKind.u64.wrap x % 2 ^ b = m) : Gives Try.prog 47 #[.int .i64 x, .int .i64 b] w (.int .u64 m) := by
 have G := Grow.rfl' w
 refine gives_of Try.func47 Try.ntmps47 Try.results47 rfl rfl ?_
 have hu := wrap_u64 x
 refine W_seq (W_region rfl ?_)
 refine WL_some (og rfl ?_)
 (first | refine r_assign_int rfl ?_ | refine r_assign rfl ?_)
 refine WL_nil ?_
 refine W_seq (W_region rfl ?_)
 refine WL_some (og rfl ?_)
 (first | refine r_move_int rfl ?_ | refine r_move rfl ?_)
 refine WL_some (og rfl ?_)
 (first | (refine r_conv rfl ?_ ?_; (constructor <;> omega)) | refine r_convw rfl ?_)
 refine WL_some (og rfl ?_)
 (first | refine r_move_int rfl ?_ | refine r_move rfl ?_)
 refine stp (r_gives rfl (bits0 _ _ _ b (by omega) (by omega) hb hm) ?_)
 intro w1 g2
 replace G := G.tr g2
 clear g2
 refine WL_some (og rfl ?_)
 (first | refine r_assign_int rfl ?_ | refine r_assign rfl ?_)
 refine WL_nil ?_
 refine W_ret ?_
 exact ret1 (res_int rfl) ⟨rfl, G⟩

theorem low_30 (w : World) (x : Int) : Gives Try.prog 47 #[.int .i64 x, .int .i64 30] w (.int .u64 (x % 1073741824)) :=
  low_calls w x _ 30 (by omega) (by rw [wrap_u64]; show _ % (1073741824 : Int) = _; omega)

theorem low_16 (w : World) (x : Int) : Gives Try.prog 47 #[.int .i64 x, .int .i64 16] w (.int .u64 (x % 65536)) :=
  low_calls w x _ 16 (by omega) (by rw [wrap_u64]; show _ % (65536 : Int) = _; omega)

theorem low_3 (w : World) (x : Int) : Gives Try.prog 47 #[.int .i64 x, .int .i64 3] w (.int .u64 (x % 8)) :=
  low_calls w x _ 3 (by omega) (by rw [wrap_u64]; show _ % (8 : Int) = _; omega)

theorem low_29 (w : World) (x : Int) : Gives Try.prog 47 #[.int .i64 x, .int .i64 29] w (.int .u64 (x % 536870912)) :=
  low_calls w x _ 29 (by omega) (by rw [wrap_u64]; show _ % (536870912 : Int) = _; omega)

theorem low_32 (w : World) (x : Int) : Gives Try.prog 47 #[.int .i64 x, .int .i64 32] w (.int .u64 (x % 4294967296)) :=
  low_calls w x _ 32 (by omega) (by rw [wrap_u64]; show _ % (4294967296 : Int) = _; omega)

set_option maxRecDepth 100000 in
theorem rdecode_calls (w : World) (x : Int) (hx0 : 0 ≤ x) (hx1 : x ≤ 18446744073709551615) : Gives Try.prog 48 #[.int .u64 x] w (.tuple #[(decP x).v, .int .i64 (decE x)]) := by
 have G := Grow.rfl' w
 refine gives_of Try.func48 Try.ntmps48 Try.results48 rfl rfl ?_
 refine W_seq (W_region rfl ?_)
 refine stp (r_alloc ?_)
 intro b1 w2 hb3 hc4 g5
 refine WL_some (og rfl ?_)
 (first | refine r_assign_int rfl ?_ | refine r_assign rfl ?_)
 refine WL_nil ?_
 refine W_seq ?_
 refine W_seq (W_region rfl ?_)
 refine WL_some (og rfl ?_)
 (first | refine r_move_int rfl ?_ | refine r_move rfl ?_)
 refine WL_some (og rfl ?_)
 (first | (refine r_eql_t rfl rfl ?_ ?_; (first | assumption | omega)) | (refine r_eql_f rfl rfl ?_ ?_; (first | assumption | omega)) | refine r_eql rfl rfl ?_)
 refine WL_nil ?_
 have hge6 := Nat.le_trans G.size hb3
 replace G := G.tr g5
 clear g5 hb3
 refine W_cond2 rfl (fun h0 => ?_) (fun h0 => ?_)
 ·-- true
  first | (replace h0 := of_decide_eq_true h0) | (replace h0 := of_decide_eq_false h0) | skip
  refine W_seq (W_region rfl ?_)
  refine stp (r_build (v := .agg #[.int .i64 (0), .int .i64 (0), .int .i64 (0), .int .i64 (0), .int .i64 (0), .int .i64 (0), .int .i64 (0), .bool false]) (fun w => by kernel_rfl) ?_)
  refine stn (r_storeAll rfl rfl hc4 (by rfl) (by rfl) (by rfl) ?_)
  intro w10 hc11 u12
  replace G := G.upd u12 hge6
  clear u12 hc4
  refine WL_some (og rfl ?_)
  (first | refine r_assign_int rfl ?_ | refine r_assign rfl ?_)
  refine WL_nil ?_
  refine W_ret ?_
  subst h0
  refine ret2 (res_all rfl (by assumption) (by rfl)) (res_int rfl) ⟨?_, G⟩
  simp [decP, decE, Pt.v, Pt0]
 ·-- false
  first | (replace h0 := of_decide_eq_true h0) | (replace h0 := of_decide_eq_false h0) | skip
  refine W_skip ?_
  refine W_seq (W_region rfl ?_)
  refine WL_some (og rfl ?_)
  (first | refine r_move_int rfl ?_ | refine r_move rfl ?_)
  refine stp (r_gives rfl (bits_2_30 _ _ (by omega) (by omega)) ?_)
  intro w13 g14
  replace hc4 := g14.heap hc4
  replace G := G.tr g14
  clear g14
  refine stp (r_gives rfl (rsigned_calls _ _ (by omega) (by omega)) ?_)
  intro w15 g16
  replace hc4 := g16.heap hc4
  replace G := G.tr g16
  clear g16
  refine WL_some (og rfl ?_)
  (first | refine r_assign_int rfl ?_ | refine r_assign rfl ?_)
  refine WL_nil ?_
  refine W_seq ?_
  refine W_seq (W_region rfl ?_)
  refine WL_some (og rfl ?_)
  (first | refine r_move_int rfl ?_ | refine r_move rfl ?_)
  refine WL_some (og rfl ?_)
  (first | (refine r_rem rfl rfl ?_ ?_ ?_; omega; omega) | (refine r_remw rfl rfl ?_ ?_; omega))
  refine WL_nil ?_
  refine W_block ?_
  refine W_seq (W_region rfl ?_)
  refine WL_some (og rfl ?_)
  (first | (refine r_eql_t rfl rfl ?_ ?_; (first | assumption | omega)) | (refine r_eql_f rfl rfl ?_ ?_; (first | assumption | omega)) | refine r_eql rfl rfl ?_)
  refine WL_some (og rfl ?_)
  (first | refine r_assign_bool rfl ?_ | refine r_assign rfl ?_)
  refine WL_nil ?_
  refine W_cond2 rfl (fun h1 => ?_) (fun h1 => ?_)
  ·-- true
   first | (replace h1 := of_decide_eq_true h1) | (replace h1 := of_decide_eq_false h1) | skip
   refine W_seq (W_region rfl ?_)
   refine WL_some (og rfl ?_)
   (first | refine r_move_int rfl ?_ | refine r_move rfl ?_)
   refine WL_some (og rfl ?_)
   (first | refine r_move_int rfl ?_ | refine r_move rfl ?_)
   refine stp (r_gives rfl (bits_32_16 _ _ (by omega) (by omega)) ?_)
   intro w17 g18
   replace hc4 := g18.heap hc4
   replace G := G.tr g18
   clear g18
   refine WL_some (og rfl ?_)
   (first | (refine r_conv rfl ?_ ?_; (constructor <;> omega)) | refine r_convw rfl ?_)
   refine WL_some (og rfl ?_)
   (first | refine r_move_int rfl ?_ | refine r_move rfl ?_)
   refine stp (r_gives rfl (bits_48_16 _ _ (by omega) (by omega)) ?_)
   intro w19 g20
   replace hc4 := g20.heap hc4
   replace G := G.tr g20
   clear g20
   refine WL_some (og rfl ?_)
   (first | (refine r_conv rfl ?_ ?_; (constructor <;> omega)) | refine r_convw rfl ?_)
   refine stp (r_build (v := .agg #[.int .i64 (1), .int .i64 (sgn30 (x / 4 % 1073741824)), .int .i64 (x / 4294967296 % 65536), .int .i64 (x / 281474976710656 % 65536), .int .i64 (0), .int .i64 (0), .int .i64 (0), .bool false]) (fun w => by kernel_rfl) ?_)
   refine stn (r_storeAll rfl rfl hc4 (by rfl) (by rfl) (by rfl) ?_)
   intro w24 hc25 u26
   replace G := G.upd u26 hge6
   clear u26 hc4
   refine WL_some (og rfl ?_)
   (first | refine r_assign_int rfl ?_ | refine r_assign rfl ?_)
   refine WL_nil ?_
   refine W_ret ?_
   refine ret2 (res_all rfl (by assumption) (by rfl)) (res_int rfl) ⟨?_, G⟩
   simp [decP, decE, Pt.v, Pt0, h0, h1]
  ·-- false
   first | (replace h1 := of_decide_eq_true h1) | (replace h1 := of_decide_eq_false h1) | skip
   refine W_seq (W_region rfl ?_)
   refine WL_some (og rfl ?_)
   (first | (refine r_eql_t rfl rfl ?_ ?_; (first | assumption | omega)) | (refine r_eql_f rfl rfl ?_ ?_; (first | assumption | omega)) | refine r_eql rfl rfl ?_)
   refine WL_some (og rfl ?_)
   (first | refine r_assign_bool rfl ?_ | refine r_assign rfl ?_)
   refine WL_nil ?_
   refine W_cond2 rfl (fun h2 => ?_) (fun h2 => ?_)
   ·-- true
    first | (replace h2 := of_decide_eq_true h2) | (replace h2 := of_decide_eq_false h2) | skip
    refine W_seq (W_region rfl ?_)
    refine WL_some (og rfl ?_)
    (first | refine r_move_int rfl ?_ | refine r_move rfl ?_)
    refine WL_some (og rfl ?_)
    (first | refine r_move_int rfl ?_ | refine r_move rfl ?_)
    refine stp (r_gives rfl (bits_32_3 _ _ (by omega) (by omega)) ?_)
    intro w27 g28
    replace hc4 := g28.heap hc4
    replace G := G.tr g28
    clear g28
    refine WL_some (og rfl ?_)
    (first | (refine r_conv rfl ?_ ?_; (constructor <;> omega)) | refine r_convw rfl ?_)
    refine WL_some (og rfl ?_)
    (first | refine r_move_int rfl ?_ | refine r_move rfl ?_)
    refine stp (r_gives rfl (bits_35_29 _ _ (by omega) (by omega)) ?_)
    intro w29 g30
    replace hc4 := g30.heap hc4
    replace G := G.tr g30
    clear g30
    refine WL_some (og rfl ?_)
    (first | (refine r_conv rfl ?_ ?_; (constructor <;> omega)) | refine r_convw rfl ?_)
    refine stp (r_build (v := .agg #[.int .i64 (2), .int .i64 (sgn30 (x / 4 % 1073741824)), .int .i64 (0), .int .i64 (0), .int .i64 (x / 4294967296 % 8), .int .i64 (x / 34359738368 % 536870912), .int .i64 (0), .bool false]) (fun w => by kernel_rfl) ?_)
    refine stn (r_storeAll rfl rfl hc4 (by rfl) (by rfl) (by rfl) ?_)
    intro w34 hc35 u36
    replace G := G.upd u36 hge6
    clear u36 hc4
    refine WL_some (og rfl ?_)
    (first | refine r_assign_int rfl ?_ | refine r_assign rfl ?_)
    refine WL_nil ?_
    refine W_ret ?_
    refine ret2 (res_all rfl (by assumption) (by rfl)) (res_int rfl) ⟨?_, G⟩
    simp [decP, decE, Pt.v, Pt0, h0, h1, h2]
   ·-- false
    first | (replace h2 := of_decide_eq_true h2) | (replace h2 := of_decide_eq_false h2) | skip
    refine W_seq (W_region rfl ?_)
    refine WL_some (og rfl ?_)
    (first | (refine r_eql_t rfl rfl ?_ ?_; (first | assumption | omega)) | (refine r_eql_f rfl rfl ?_ ?_; (first | assumption | omega)) | refine r_eql rfl rfl ?_)
    refine WL_some (og rfl ?_)
    (first | refine r_assign_bool rfl ?_ | refine r_assign rfl ?_)
    refine WL_nil ?_
    refine W_cond2 rfl (fun h3 => ?_) (fun h3 => ?_)
    ·-- true
     first | (replace h3 := of_decide_eq_true h3) | (replace h3 := of_decide_eq_false h3) | skip
     refine W_seq (W_region rfl ?_)
     refine WL_some (og rfl ?_)
     (first | refine r_move_int rfl ?_ | refine r_move rfl ?_)
     refine stp (r_gives rfl (bits_3_29 _ _ (by omega) (by omega)) ?_)
     intro w37 g38
     replace hc4 := g38.heap hc4
     replace G := G.tr g38
     clear g38
     refine WL_some (og rfl ?_)
     (first | (refine r_conv rfl ?_ ?_; (constructor <;> omega)) | refine r_convw rfl ?_)
     refine WL_some (og rfl ?_)
     (first | refine r_move_int rfl ?_ | refine r_move rfl ?_)
     refine stp (r_gives rfl (bits_32_32 _ _ (by omega) (by omega)) ?_)
     intro w39 g40
     replace hc4 := g40.heap hc4
     replace G := G.tr g40
     clear g40
     refine WL_some (og rfl ?_)
     (first | (refine r_conv rfl ?_ ?_; (constructor <;> omega)) | refine r_convw rfl ?_)
     refine WL_some (og rfl ?_)
     (first | refine r_move_int rfl ?_ | refine r_move rfl ?_)
     refine stp (r_gives rfl (bits_2_1 _ _ (by omega) (by omega)) ?_)
     intro w41 g42
     replace hc4 := g42.heap hc4
     replace G := G.tr g42
     clear g42
     refine stp (r_eql rfl rfl ?_)
     refine stp (r_build (v := .agg #[.int .i64 (3), .int .i64 (x / 8 % 536870912), .int .i64 (0), .int .i64 (0), .int .i64 (0), .int .i64 (0), .int .i64 (x / 4294967296 % 4294967296), .bool (decide (x / 4 % 2 = 1))]) (fun w => by kernel_rfl) ?_)
     refine stn (r_storeAll rfl rfl hc4 (by rfl) (by rfl) (by rfl) ?_)
     intro w46 hc47 u48
     replace G := G.upd u48 hge6
     clear u48 hc4
     refine WL_some (og rfl ?_)
     (first | refine r_assign_int rfl ?_ | refine r_assign rfl ?_)
     refine WL_nil ?_
     refine W_ret ?_
     refine ret2 (res_all rfl (by assumption) (by rfl)) (res_int rfl) ⟨?_, G⟩
     simp [decP, decE, Pt.v, Pt0, h0, h1, h2, h3]
    ·-- false
     first | (replace h3 := of_decide_eq_true h3) | (replace h3 := of_decide_eq_false h3) | skip
     have h4 : x % 4 = 3 := by omega
     refine W_skip ?_
     refine W_seq (W_region rfl ?_)
     refine stp (r_build (v := .agg #[.int .i64 (0), .int .i64 (0), .int .i64 (0), .int .i64 (0), .int .i64 (0), .int .i64 (0), .int .i64 (0), .bool false]) (fun w => by kernel_rfl) ?_)
     refine stn (r_storeAll rfl rfl hc4 (by rfl) (by rfl) (by rfl) ?_)
     intro w52 hc53 u54
     replace G := G.upd u54 hge6
     clear u54 hc4
     refine WL_some (og rfl ?_)
     (first | refine r_assign_int rfl ?_ | refine r_assign rfl ?_)
     refine WL_nil ?_
     refine W_ret ?_
     refine ret2 (res_all rfl (by assumption) (by rfl)) (res_int rfl) ⟨?_, G⟩
     simp [decP, decE, Pt.v, Pt0, h0, h1, h2, h3, h4]

set_option maxRecDepth 100000 in
theorem rencode_calls (w : World) (p : Pt) : Gives Try.prog 28 #[.agg #[.int .i64 (p.kind), .int .i64 (p.off), .int .i64 (p.data), .int .i64 (p.ptrs), .int .i64 (p.size), .int .i64 (p.count), .int .i64 (p.seg), .bool p.dbl]] w (.tuple #[.int .u64 (encR p), .int .i64 (encE p)]) := by
 have G := Grow.rfl' w
 refine gives_of Try.func28 Try.ntmps28 Try.results28 rfl rfl ?_
 refine W_seq (W_region rfl ?_)
 refine WL_some (og rfl ?_)
 (first | refine r_box_agg rfl ?_ | refine r_box_int rfl ?_ | refine r_box_slice rfl ?_ | refine r_box rfl rfl ?_)
 intro b1 w2 hb3 hc4 g5
 have hge6 := Nat.le_trans G.size hb3
 replace G := G.tr g5
 clear g5 hb3
 refine WL_some (og rfl ?_)
 (first | refine r_assign_int rfl ?_ | refine r_assign rfl ?_)
 refine WL_some (og rfl ?_)
 (first | refine r_assign_int rfl ?_ | refine r_assign rfl ?_)
 refine WL_nil ?_
 refine W_seq (W_region rfl ?_)
 refine WL_some (og rfl ?_)
 (first | refine r_assign_int rfl ?_ | refine r_assign rfl ?_)
 refine WL_nil ?_
 refine W_seq ?_
 refine W_seq (W_region rfl ?_)
 refine stp (r_fieldAddr rfl ?_)
 refine stp (r_load rfl (by assumption) (by rfl) ?_)
 refine WL_nil ?_
 refine W_block ?_
 refine W_seq (W_region rfl ?_)
 refine WL_some (og rfl ?_)
 (first | (refine r_eql_t rfl rfl ?_ ?_; (first | assumption | omega)) | (refine r_eql_f rfl rfl ?_ ?_; (first | assumption | omega)) | refine r_eql rfl rfl ?_)
 refine WL_some (og rfl ?_)
 (first | refine r_assign_bool rfl ?_ | refine r_assign rfl ?_)
 refine WL_nil ?_
 refine W_cond2 rfl (fun h1 => ?_) (fun h1 => ?_)
 ·-- true
  first | (replace h1 := of_decide_eq_true h1) | (replace h1 := of_decide_eq_false h1) | skip
  have hw : 4 * (p.off % 1073741824) + p.data % 65536 * 4294967296 + p.ptrs % 65536 * 281474976710656 = encW p := by unfold encW; rw [if_pos h1]; omega
  obtain ⟨hx0, hx1⟩ := encW_range p
  by_cases hd : decE (encW p) = 0
  ·
   refine W_any 15 [[], [0], [1, 0], [2, 1, 0], [], [0], [5, 4, 3, 1, 0], [6, 5, 4, 2, 1, 0], [7, 6, 5, 4, 3, 2, 1, 0], [], [0], [10, 9, 8, 6, 5, 4, 1, 0], [11, 10, 9, 7, 6, 5, 2, 1, 0], [12, 11, 10, 9, 8, 7, 6, 5, 4, 3, 2, 1, 0], [13, 12, 11, 10, 9, 8, 7, 6, 5, 4, 3, 2, 1, 0]] mixed (by kernel_rfl) (by kernel_rfl) (by kernel_rfl) ?_
   intro w7 g8
   replace hc4 := g8.heap hc4
   replace G := G.tr g8
   clear g8
   apply AO_ex
   ·intro w_ g_; refine og rfl ?_; refine r_fieldAddr rfl ?_; exact ⟨Grow.rfl' _, rfl⟩
   apply AO_ex
   ·intro w_ g_; refine og rfl ?_; refine r_load rfl (by exact Grow.heap g_ (by assumption)) (by rfl) ?_; exact ⟨Grow.rfl' _, rfl⟩
   apply AO_ex
   ·intro w_ g_; refine og rfl ?_; refine r_gives rfl (low_30 _ _) ?_; intro w2_ g2_; exact ⟨g2_, rfl⟩
   apply AO_ex
   ·intro w_ g_; refine og rfl ?_; (first | (refine r_mul rfl rfl ?_ ?_; (constructor <;> omega)) | refine r_mulw rfl rfl ?_); exact ⟨Grow.rfl' _, rfl⟩
   apply AO_ex
   ·intro w_ g_; refine og rfl ?_; refine r_fieldAddr rfl ?_; exact ⟨Grow.rfl' _, rfl⟩
   apply AO_ex
   ·intro w_ g_; refine og rfl ?_; refine r_load rfl (by exact Grow.heap g_ (by assumption)) (by rfl) ?_; exact ⟨Grow.rfl' _, rfl⟩
   apply AO_ex
   ·intro w_ g_; refine og rfl ?_; refine r_gives rfl (low_16 _ _) ?_; intro w2_ g2_; exact ⟨g2_, rfl⟩
   apply AO_ex
   ·intro w_ g_; refine og rfl ?_; (first | (refine r_shlc (m := 4294967296) rfl rfl (by decide) (by decide) ?_ ?_; (constructor <;> omega)) | refine r_shlcw (m := 4294967296) rfl rfl (by decide) (by decide) ?_); exact ⟨Grow.rfl' _, rfl⟩
   apply AO_ex
   ·intro w_ g_; refine og rfl ?_; (first | (refine r_add rfl rfl ?_ ?_; (constructor <;> omega)) | refine r_addw rfl rfl ?_); exact ⟨Grow.rfl' _, rfl⟩
   apply AO_ex
   ·intro w_ g_; refine og rfl ?_; refine r_fieldAddr rfl ?_; exact ⟨Grow.rfl' _, rfl⟩
   apply AO_ex
   ·intro w_ g_; refine og rfl ?_; refine r_load rfl (by exact Grow.heap g_ (by assumption)) (by rfl) ?_; exact ⟨Grow.rfl' _, rfl⟩
   apply AO_ex
   ·intro w_ g_; refine og rfl ?_; refine r_gives rfl (low_16 _ _) ?_; intro w2_ g2_; exact ⟨g2_, rfl⟩
   apply AO_ex
   ·intro w_ g_; refine og rfl ?_; (first | (refine r_shlc (m := 281474976710656) rfl rfl (by decide) (by decide) ?_ ?_; (constructor <;> omega)) | refine r_shlcw (m := 281474976710656) rfl rfl (by decide) (by decide) ?_); exact ⟨Grow.rfl' _, rfl⟩
   apply AO_ex
   ·intro w_ g_; refine og rfl ?_; (first | (refine r_add rfl rfl ?_ ?_; (constructor <;> omega)) | refine r_addw rfl rfl ?_); exact ⟨Grow.rfl' _, rfl⟩
   apply AO_ex
   ·intro w_ g_; refine og rfl ?_; (first | refine r_assign_int rfl ?_ | refine r_assign rfl ?_); exact ⟨Grow.rfl' _, rfl⟩
   refine AO_nil ?_
   intro w9 g10
   replace hc4 := g10.heap hc4
   replace G := G.tr g10
   clear g10
   refine WL_nil ?_
   refine W_seq (W_region rfl ?_)
   refine WL_some (og rfl ?_)
   (first | refine r_move_int rfl ?_ | refine r_move rfl ?_)
   refine stp (r_gives rfl (by (try rw [hw]); exact rdecode_calls _ _ hx0 hx1) ?_)
   intro w11 g12
   replace hc4 := g12.heap hc4
   replace G := G.tr g12
   clear g12
   refine WL_some (og rfl ?_)
   (first | refine r_move_tuple rfl ?_ | refine r_move rfl ?_)
   refine stp (r_extract rfl rfl ?_)
   refine stp (r_extract rfl rfl ?_)
   refine stp (r_alloc ?_)
   intro b13 w14 hb15 hc16 g17
   refine stn (r_storeAll rfl rfl hc16 (by rfl) (by rfl) (by rfl) ?_)
   intro w18 hc19 u20
   have g21 := g17.upd u20 hb15
   have hge22 := Nat.le_trans G.size hb15
   have ne23 := Nat.ne_of_lt (Nat.lt_of_lt_of_le (lt_of_heap hc4) hb15)
   replace hc4 := g21.heap hc4
   replace G := G.tr g21
   clear u20 g17 hb15 hc16
   refine WL_some (og rfl ?_)
   (first | refine r_assign_int rfl ?_ | refine r_assign rfl ?_)
   refine WL_nil ?_
   refine W_seq ?_
   refine W_seq (W_region rfl ?_)
   refine WL_some (og rfl ?_)
   (first | refine r_move_int rfl ?_ | refine r_move rfl ?_)
   refine WL_some (og rfl ?_)
   (first | (refine r_neq_t rfl rfl ?_ ?_; (first | assumption | omega)) | (refine r_neq_f rfl rfl ?_ ?_; (first | assumption | omega)) | refine r_neq rfl rfl ?_)
   refine WL_some (og rfl ?_)
   (first | refine r_move_bool rfl ?_ | refine r_move rfl ?_)
   refine WL_some (og rfl ?_)
   (first | refine r_loadAll rfl (by assumption) (by rfl) ?_ | refine r_loadN rfl (by assumption) (by rfl) (by rfl) ?_)
   refine WL_some (og rfl ?_)
   (first | refine r_loadAll rfl (by assumption) (by rfl) ?_ | refine r_loadN rfl (by assumption) (by rfl) (by rfl) ?_)
   refine stp (r_neqS rfl rfl (by rfl) ?_)
   refine WL_some (og rfl ?_)
   (first | (refine r_pick_t rfl ?_ rfl ?_; (first | rfl | assumption)) | (refine r_pick_f rfl ?_ rfl ?_; (first | rfl | assumption)))
   refine WL_nil ?_
   refine W_cond2 rfl (fun hc => ?_) (fun hc => ?_)
   ·-- true
    first | (replace hc := of_decide_eq_true hc) | (replace hc := of_decide_eq_false hc) | skip
    refine W_seq (W_region rfl ?_)
    refine WL_some (og rfl ?_)
    (first | refine r_assign_int rfl ?_ | refine r_assign rfl ?_)
    refine WL_some (og rfl ?_)
    (first | refine r_assign_int rfl ?_ | refine r_assign rfl ?_)
    refine WL_nil ?_
    refine W_ret ?_
    refine ret2 (res_int rfl) (res_int rfl) ⟨?_, G⟩
    have hq : ¬ decP (encW p) = p := by
     intro hq
     rw [hq] at hc
     simp at hc
    simp [encR, encE, encOk, hd, hq]
   ·-- false
    first | (replace hc := of_decide_eq_true hc) | (replace hc := of_decide_eq_false hc) | skip
    refine W_skip ?_
    refine W_seq (W_region rfl ?_)
    refine WL_some (og rfl ?_)
    (first | refine r_move_int rfl ?_ | refine r_move rfl ?_)
    refine WL_some (og rfl ?_)
    (first | refine r_assign_int rfl ?_ | refine r_assign rfl ?_)
    refine WL_some (og rfl ?_)
    (first | refine r_assign_int rfl ?_ | refine r_assign rfl ?_)
    refine WL_nil ?_
    refine W_ret ?_
    refine ret2 (res_int rfl) (res_int rfl) ⟨?_, G⟩
    have hq : decP (encW p) = p := by
     generalize decP (encW p) = q at hc ⊢
     cases q; cases p; simpa [and_assoc] using hc
    simp [encR, encE, encOk, hd, hq] <;> omega
  ·
   refine W_any 15 [[], [0], [1, 0], [2, 1, 0], [], [0], [5, 4, 3, 1, 0], [6, 5, 4, 2, 1, 0], [7, 6, 5, 4, 3, 2, 1, 0], [], [0], [10, 9, 8, 6, 5, 4, 1, 0], [11, 10, 9, 7, 6, 5, 2, 1, 0], [12, 11, 10, 9, 8, 7, 6, 5, 4, 3, 2, 1, 0], [13, 12, 11, 10, 9, 8, 7, 6, 5, 4, 3, 2, 1, 0]] mixed (by kernel_rfl) (by kernel_rfl) (by kernel_rfl) ?_
   intro w24 g25
   replace hc4 := g25.heap hc4
   replace G := G.tr g25
   clear g25
   apply AO_ex
   ·intro w_ g_; refine og rfl ?_; refine r_fieldAddr rfl ?_; exact ⟨Grow.rfl' _, rfl⟩
   apply AO_ex
   ·intro w_ g_; refine og rfl ?_; refine r_load rfl (by exact Grow.heap g_ (by assumption)) (by rfl) ?_; exact ⟨Grow.rfl' _, rfl⟩
   apply AO_ex
   ·intro w_ g_; refine og rfl ?_; refine r_gives rfl (low_30 _ _) ?_; intro w2_ g2_; exact ⟨g2_, rfl⟩
   apply AO_ex
   ·intro w_ g_; refine og rfl ?_; (first | (refine r_mul rfl rfl ?_ ?_; (constructor <;> omega)) | refine r_mulw rfl rfl ?_); exact ⟨Grow.rfl' _, rfl⟩
   apply AO_ex
   ·intro w_ g_; refine og rfl ?_; refine r_fieldAddr rfl ?_; exact ⟨Grow.rfl' _, rfl⟩
   apply AO_ex
   ·intro w_ g_; refine og rfl ?_; refine r_load rfl (by exact Grow.heap g_ (by assumption)) (by rfl) ?_; exact ⟨Grow.rfl' _, rfl⟩
   apply AO_ex
   ·intro w_ g_; refine og rfl ?_; refine r_gives rfl (low_16 _ _) ?_; intro w2_ g2_; exact ⟨g2_, rfl⟩
   apply AO_ex
   ·intro w_ g_; refine og rfl ?_; (first | (refine r_shlc (m := 4294967296) rfl rfl (by decide) (by decide) ?_ ?_; (constructor <;> omega)) | refine r_shlcw (m := 4294967296) rfl rfl (by decide) (by decide) ?_); exact ⟨Grow.rfl' _, rfl⟩
   apply AO_ex
   ·intro w_ g_; refine og rfl ?_; (first | (refine r_add rfl rfl ?_ ?_; (constructor <;> omega)) | refine r_addw rfl rfl ?_); exact ⟨Grow.rfl' _, rfl⟩
   apply AO_ex
   ·intro w_ g_; refine og rfl ?_; refine r_fieldAddr rfl ?_; exact ⟨Grow.rfl' _, rfl⟩
   apply AO_ex
   ·intro w_ g_; refine og rfl ?_; refine r_load rfl (by exact Grow.heap g_ (by assumption)) (by rfl) ?_; exact ⟨Grow.rfl' _, rfl⟩
   apply AO_ex
   ·intro w_ g_; refine og rfl ?_; refine r_gives rfl (low_16 _ _) ?_; intro w2_ g2_; exact ⟨g2_, rfl⟩
   apply AO_ex
   ·intro w_ g_; refine og rfl ?_; (first | (refine r_shlc (m := 281474976710656) rfl rfl (by decide) (by decide) ?_ ?_; (constructor <;> omega)) | refine r_shlcw (m := 281474976710656) rfl rfl (by decide) (by decide) ?_); exact ⟨Grow.rfl' _, rfl⟩
   apply AO_ex
   ·intro w_ g_; refine og rfl ?_; (first | (refine r_add rfl rfl ?_ ?_; (constructor <;> omega)) | refine r_addw rfl rfl ?_); exact ⟨Grow.rfl' _, rfl⟩
   apply AO_ex
   ·intro w_ g_; refine og rfl ?_; (first | refine r_assign_int rfl ?_ | refine r_assign rfl ?_); exact ⟨Grow.rfl' _, rfl⟩
   refine AO_nil ?_
   intro w26 g27
   replace hc4 := g27.heap hc4
   replace G := G.tr g27
   clear g27
   refine WL_nil ?_
   refine W_seq (W_region rfl ?_)
   refine WL_some (og rfl ?_)
   (first | refine r_move_int rfl ?_ | refine r_move rfl ?_)
   refine stp (r_gives rfl (by (try rw [hw]); exact rdecode_calls _ _ hx0 hx1) ?_)
   intro w28 g29
   replace hc4 := g29.heap hc4
   replace G := G.tr g29
   clear g29
   refine WL_some (og rfl ?_)
   (first | refine r_move_tuple rfl ?_ | refine r_move rfl ?_)
   refine stp (r_extract rfl rfl ?_)
   refine stp (r_extract rfl rfl ?_)
   refine stp (r_alloc ?_)
   intro b30 w31 hb32 hc33 g34
   refine stn (r_storeAll rfl rfl hc33 (by rfl) (by rfl) (by rfl) ?_)
   intro w35 hc36 u37
   have g38 := g34.upd u37 hb32
   have hge39 := Nat.le_trans G.size hb32
   have ne40 := Nat.ne_of_lt (Nat.lt_of_lt_of_le (lt_of_heap hc4) hb32)
   replace hc4 := g38.heap hc4
   replace G := G.tr g38
   clear u37 g34 hb32 hc33
   refine WL_some (og rfl ?_)
   (first | refine r_assign_int rfl ?_ | refine r_assign rfl ?_)
   refine WL_nil ?_
   refine W_seq ?_
   refine W_seq (W_region rfl ?_)
   refine WL_some (og rfl ?_)
   (first | refine r_move_int rfl ?_ | refine r_move rfl ?_)
   refine WL_some (og rfl ?_)
   (first | (refine r_neq_t rfl rfl ?_ ?_; (first | assumption | omega)) | (refine r_neq_f rfl rfl ?_ ?_; (first | assumption | omega)) | refine r_neq rfl rfl ?_)
   refine WL_some (og rfl ?_)
   (first | refine r_move_bool rfl ?_ | refine r_move rfl ?_)
   refine WL_some (og_no rfl ?_)
   refine WL_some (og_no rfl ?_)
   refine WL_some (og_no rfl ?_)
   refine WL_some (og rfl ?_)
   (first | (refine r_pick_t rfl ?_ rfl ?_; (first | rfl | assumption)) | (refine r_pick_f rfl ?_ rfl ?_; (first | rfl | assumption)))
   refine WL_nil ?_
   refine W_true rfl ?_
   refine W_seq (W_region rfl ?_)
   refine WL_some (og rfl ?_)
   (first | refine r_assign_int rfl ?_ | refine r_assign rfl ?_)
   refine WL_some (og rfl ?_)
   (first | refine r_assign_int rfl ?_ | refine r_assign rfl ?_)
   refine WL_nil ?_
   refine W_ret ?_
   refine ret2 (res_int rfl) (res_int rfl) ⟨?_, G⟩
   simp [encR, encE, encOk, hd]
 ·-- false
  first | (replace h1 := of_decide_eq_true h1) | (replace h1 := of_decide_eq_false h1) | skip
  refine W_seq (W_region rfl ?_)
  refine WL_some (og rfl ?_)
  (first | (refine r_eql_t rfl rfl ?_ ?_; (first | assumption | omega)) | (refine r_eql_f rfl rfl ?_ ?_; (first | assumption | omega)) | refine r_eql rfl rfl ?_)
  refine WL_some (og rfl ?_)
  (first | refine r_assign_bool rfl ?_ | refine r_assign rfl ?_)
  refine WL_nil ?_
  refine W_cond2 rfl (fun h2 => ?_) (fun h2 => ?_)
  ·-- true
   first | (replace h2 := of_decide_eq_true h2) | (replace h2 := of_decide_eq_false h2) | skip
   have hw : 1 + 4 * (p.off % 1073741824) + p.size % 8 * 4294967296 + p.count % 536870912 * 34359738368 = encW p := by unfold encW; rw [if_neg h1, if_pos h2]; omega
   obtain ⟨hx0, hx1⟩ := encW_range p
   by_cases hd : decE (encW p) = 0
   ·
    refine W_any 16 [[], [0], [1, 0], [2, 1, 0], [3, 2, 1, 0], [], [0], [6, 5, 4, 1, 0], [7, 6, 5, 2, 1, 0], [8, 7, 6, 5, 4, 3, 2, 1, 0], [], [0], [11, 10, 9, 6, 5, 4, 1, 0], [12, 11, 10, 7, 6, 5, 2, 1, 0], [13, 12, 11, 10, 9, 8, 7, 6, 5, 4, 3, 2, 1, 0], [14, 13, 12, 11, 10, 9, 8, 7, 6, 5, 4, 3, 2, 1, 0]] mixed (by kernel_rfl) (by kernel_rfl) (by kernel_rfl) ?_
    intro w41 g42
    replace hc4 := g42.heap hc4
    replace G := G.tr g42
    clear g42
    apply AO_ex
    ·intro w_ g_; refine og rfl ?_; refine r_fieldAddr rfl ?_; exact ⟨Grow.rfl' _, rfl⟩
    apply AO_ex
    ·intro w_ g_; refine og rfl ?_; refine r_load rfl (by exact Grow.heap g_ (by assumption)) (by rfl) ?_; exact ⟨Grow.rfl' _, rfl⟩
    apply AO_ex
    ·intro w_ g_; refine og rfl ?_; refine r_gives rfl (low_30 _ _) ?_; intro w2_ g2_; exact ⟨g2_, rfl⟩
    apply AO_ex
    ·intro w_ g_; refine og rfl ?_; (first | (refine r_mul rfl rfl ?_ ?_; (constructor <;> omega)) | refine r_mulw rfl rfl ?_); exact ⟨Grow.rfl' _, rfl⟩
    apply AO_ex
    ·intro w_ g_; refine og rfl ?_; (first | (refine r_add rfl rfl ?_ ?_; (constructor <;> omega)) | refine r_addw rfl rfl ?_); exact ⟨Grow.rfl' _, rfl⟩
    apply AO_ex
    ·intro w_ g_; refine og rfl ?_; refine r_fieldAddr rfl ?_; exact ⟨Grow.rfl' _, rfl⟩
    apply AO_ex
    ·intro w_ g_; refine og rfl ?_; refine r_load rfl (by exact Grow.heap g_ (by assumption)) (by rfl) ?_; exact ⟨Grow.rfl' _, rfl⟩
    apply AO_ex
    ·intro w_ g_; refine og rfl ?_; refine r_gives rfl (low_3 _ _) ?_; intro w2_ g2_; exact ⟨g2_, rfl⟩
    apply AO_ex
    ·intro w_ g_; refine og rfl ?_; (first | (refine r_shlc (m := 4294967296) rfl rfl (by decide) (by decide) ?_ ?_; (constructor <;> omega)) | refine r_shlcw (m := 4294967296) rfl rfl (by decide) (by decide) ?_); exact ⟨Grow.rfl' _, rfl⟩
    apply AO_ex
    ·intro w_ g_; refine og rfl ?_; (first | (refine r_add rfl rfl ?_ ?_; (constructor <;> omega)) | refine r_addw rfl rfl ?_); exact ⟨Grow.rfl' _, rfl⟩
    apply AO_ex
    ·intro w_ g_; refine og rfl ?_; refine r_fieldAddr rfl ?_; exact ⟨Grow.rfl' _, rfl⟩
    apply AO_ex
    ·intro w_ g_; refine og rfl ?_; refine r_load rfl (by exact Grow.heap g_ (by assumption)) (by rfl) ?_; exact ⟨Grow.rfl' _, rfl⟩
    apply AO_ex
    ·intro w_ g_; refine og rfl ?_; refine r_gives rfl (low_29 _ _) ?_; intro w2_ g2_; exact ⟨g2_, rfl⟩
    apply AO_ex
    ·intro w_ g_; refine og rfl ?_; (first | (refine r_shlc (m := 34359738368) rfl rfl (by decide) (by decide) ?_ ?_; (constructor <;> omega)) | refine r_shlcw (m := 34359738368) rfl rfl (by decide) (by decide) ?_); exact ⟨Grow.rfl' _, rfl⟩
    apply AO_ex
    ·intro w_ g_; refine og rfl ?_; (first | (refine r_add rfl rfl ?_ ?_; (constructor <;> omega)) | refine r_addw rfl rfl ?_); exact ⟨Grow.rfl' _, rfl⟩
    apply AO_ex
    ·intro w_ g_; refine og rfl ?_; (first | refine r_assign_int rfl ?_ | refine r_assign rfl ?_); exact ⟨Grow.rfl' _, rfl⟩
    refine AO_nil ?_
    intro w43 g44
    replace hc4 := g44.heap hc4
    replace G := G.tr g44
    clear g44
    refine WL_nil ?_
    refine W_seq (W_region rfl ?_)
    refine WL_some (og rfl ?_)
    (first | refine r_move_int rfl ?_ | refine r_move rfl ?_)
    refine stp (r_gives rfl (by (try rw [hw]); exact rdecode_calls _ _ hx0 hx1) ?_)
    intro w45 g46
    replace hc4 := g46.heap hc4
    replace G := G.tr g46
    clear g46
    refine WL_some (og rfl ?_)
    (first | refine r_move_tuple rfl ?_ | refine r_move rfl ?_)
    refine stp (r_extract rfl rfl ?_)
    refine stp (r_extract rfl rfl ?_)
    refine stp (r_alloc ?_)
    intro b47 w48 hb49 hc50 g51
    refine stn (r_storeAll rfl rfl hc50 (by rfl) (by rfl) (by rfl) ?_)
    intro w52 hc53 u54
    have g55 := g51.upd u54 hb49
    have hge56 := Nat.le_trans G.size hb49
    have ne57 := Nat.ne_of_lt (Nat.lt_of_lt_of_le (lt_of_heap hc4) hb49)
    replace hc4 := g55.heap hc4
    replace G := G.tr g55
    clear u54 g51 hb49 hc50
    refine WL_some (og rfl ?_)
    (first | refine r_assign_int rfl ?_ | refine r_assign rfl ?_)
    refine WL_nil ?_
    refine W_seq ?_
    refine W_seq (W_region rfl ?_)
    refine WL_some (og rfl ?_)
    (first | refine r_move_int rfl ?_ | refine r_move rfl ?_)
    refine WL_some (og rfl ?_)
    (first | (refine r_neq_t rfl rfl ?_ ?_; (first | assumption | omega)) | (refine r_neq_f rfl rfl ?_ ?_; (first | assumption | omega)) | refine r_neq rfl rfl ?_)
    refine WL_some (og rfl ?_)
    (first | refine r_move_bool rfl ?_ | refine r_move rfl ?_)
    refine WL_some (og rfl ?_)
    (first | refine r_loadAll rfl (by assumption) (by rfl) ?_ | refine r_loadN rfl (by assumption) (by rfl) (by rfl) ?_)
    refine WL_some (og rfl ?_)
    (first | refine r_loadAll rfl (by assumption) (by rfl) ?_ | refine r_loadN rfl (by assumption) (by rfl) (by rfl) ?_)
    refine stp (r_neqS rfl rfl (by rfl) ?_)
    refine WL_some (og rfl ?_)
    (first | (refine r_pick_t rfl ?_ rfl ?_; (first | rfl | assumption)) | (refine r_pick_f rfl ?_ rfl ?_; (first | rfl | assumption)))
    refine WL_nil ?_
    refine W_cond2 rfl (fun hc => ?_) (fun hc => ?_)
    ·-- true
     first | (replace hc := of_decide_eq_true hc) | (replace hc := of_decide_eq_false hc) | skip
     refine W_seq (W_region rfl ?_)
     refine WL_some (og rfl ?_)
     (first | refine r_assign_int rfl ?_ | refine r_assign rfl ?_)
     refine WL_some (og rfl ?_)
     (first | refine r_assign_int rfl ?_ | refine r_assign rfl ?_)
     refine WL_nil ?_
     refine W_ret ?_
     refine ret2 (res_int rfl) (res_int rfl) ⟨?_, G⟩
     have hq : ¬ decP (encW p) = p := by
      intro hq
      rw [hq] at hc
      simp at hc
     simp [encR, encE, encOk, hd, hq]
    ·-- false
     first | (replace hc := of_decide_eq_true hc) | (replace hc := of_decide_eq_false hc) | skip
     refine W_skip ?_
     refine W_seq (W_region rfl ?_)
     refine WL_some (og rfl ?_)
     (first | refine r_move_int rfl ?_ | refine r_move rfl ?_)
     refine WL_some (og rfl ?_)
     (first | refine r_assign_int rfl ?_ | refine r_assign rfl ?_)
     refine WL_some (og rfl ?_)
     (first | refine r_assign_int rfl ?_ | refine r_assign rfl ?_)
     refine WL_nil ?_
     refine W_ret ?_
     refine ret2 (res_int rfl) (res_int rfl) ⟨?_, G⟩
     have hq : decP (encW p) = p := by
      generalize decP (encW p) = q at hc ⊢
      cases q; cases p; simpa [and_assoc] using hc
     simp [encR, encE, encOk, hd, hq] <;> omega
   ·
    refine W_any 16 [[], [0], [1, 0], [2, 1, 0], [3, 2, 1, 0], [], [0], [6, 5, 4, 1, 0], [7, 6, 5, 2, 1, 0], [8, 7, 6, 5, 4, 3, 2, 1, 0], [], [0], [11, 10, 9, 6, 5, 4, 1, 0], [12, 11, 10, 7, 6, 5, 2, 1, 0], [13, 12, 11, 10, 9, 8, 7, 6, 5, 4, 3, 2, 1, 0], [14, 13, 12, 11, 10, 9, 8, 7, 6, 5, 4, 3, 2, 1, 0]] mixed (by kernel_rfl) (by kernel_rfl) (by kernel_rfl) ?_
    intro w58 g59
    replace hc4 := g59.heap hc4
    replace G := G.tr g59
    clear g59
    apply AO_ex
    ·intro w_ g_; refine og rfl ?_; refine r_fieldAddr rfl ?_; exact ⟨Grow.rfl' _, rfl⟩
    apply AO_ex
    ·intro w_ g_; refine og rfl ?_; refine r_load rfl (by exact Grow.heap g_ (by assumption)) (by rfl) ?_; exact ⟨Grow.rfl' _, rfl⟩
    apply AO_ex
    ·intro w_ g_; refine og rfl ?_; refine r_gives rfl (low_30 _ _) ?_; intro w2_ g2_; exact ⟨g2_, rfl⟩
    apply AO_ex
    ·intro w_ g_; refine og rfl ?_; (first | (refine r_mul rfl rfl ?_ ?_; (constructor <;> omega)) | refine r_mulw rfl rfl ?_); exact ⟨Grow.rfl' _, rfl⟩
    apply AO_ex
    ·intro w_ g_; refine og rfl ?_; (first | (refine r_add rfl rfl ?_ ?_; (constructor <;> omega)) | refine r_addw rfl rfl ?_); exact ⟨Grow.rfl' _, rfl⟩
    apply AO_ex
    ·intro w_ g_; refine og rfl ?_; refine r_fieldAddr rfl ?_; exact ⟨Grow.rfl' _, rfl⟩
    apply AO_ex
    ·intro w_ g_; refine og rfl ?_; refine r_load rfl (by exact Grow.heap g_ (by assumption)) (by rfl) ?_; exact ⟨Grow.rfl' _, rfl⟩
    apply AO_ex
    ·intro w_ g_; refine og rfl ?_; refine r_gives rfl (low_3 _ _) ?_; intro w2_ g2_; exact ⟨g2_, rfl⟩
    apply AO_ex
    ·intro w_ g_; refine og rfl ?_; (first | (refine r_shlc (m := 4294967296) rfl rfl (by decide) (by decide) ?_ ?_; (constructor <;> omega)) | refine r_shlcw (m := 4294967296) rfl rfl (by decide) (by decide) ?_); exact ⟨Grow.rfl' _, rfl⟩
    apply AO_ex
    ·intro w_ g_; refine og rfl ?_; (first | (refine r_add rfl rfl ?_ ?_; (constructor <;> omega)) | refine r_addw rfl rfl ?_); exact ⟨Grow.rfl' _, rfl⟩
    apply AO_ex
    ·intro w_ g_; refine og rfl ?_; refine r_fieldAddr rfl ?_; exact ⟨Grow.rfl' _, rfl⟩
    apply AO_ex
    ·intro w_ g_; refine og rfl ?_; refine r_load rfl (by exact Grow.heap g_ (by assumption)) (by rfl) ?_; exact ⟨Grow.rfl' _, rfl⟩
    apply AO_ex
    ·intro w_ g_; refine og rfl ?_; refine r_gives rfl (low_29 _ _) ?_; intro w2_ g2_; exact ⟨g2_, rfl⟩
    apply AO_ex
    ·intro w_ g_; refine og rfl ?_; (first | (refine r_shlc (m := 34359738368) rfl rfl (by decide) (by decide) ?_ ?_; (constructor <;> omega)) | refine r_shlcw (m := 34359738368) rfl rfl (by decide) (by decide) ?_); exact ⟨Grow.rfl' _, rfl⟩
    apply AO_ex
    ·intro w_ g_; refine og rfl ?_; (first | (refine r_add rfl rfl ?_ ?_; (constructor <;> omega)) | refine r_addw rfl rfl ?_); exact ⟨Grow.rfl' _, rfl⟩
    apply AO_ex
    ·intro w_ g_; refine og rfl ?_; (first | refine r_assign_int rfl ?_ | refine r_assign rfl ?_); exact ⟨Grow.rfl' _, rfl⟩
    refine AO_nil ?_
    intro w60 g61
    replace hc4 := g61.heap hc4
    replace G := G.tr g61
    clear g61
    refine WL_nil ?_
    refine W_seq (W_region rfl ?_)
    refine WL_some (og rfl ?_)
    (first | refine r_move_int rfl ?_ | refine r_move rfl ?_)
    refine stp (r_gives rfl (by (try rw [hw]); exact rdecode_calls _ _ hx0 hx1) ?_)
    intro w62 g63
    replace hc4 := g63.heap hc4
    replace G := G.tr g63
    clear g63
    refine WL_some (og rfl ?_)
    (first | refine r_move_tuple rfl ?_ | refine r_move rfl ?_)
    refine stp (r_extract rfl rfl ?_)
    refine stp (r_extract rfl rfl ?_)
    refine stp (r_alloc ?_)
    intro b64 w65 hb66 hc67 g68
    refine stn (r_storeAll rfl rfl hc67 (by rfl) (by rfl) (by rfl) ?_)
    intro w69 hc70 u71
    have g72 := g68.upd u71 hb66
    have hge73 := Nat.le_trans G.size hb66
    have ne74 := Nat.ne_of_lt (Nat.lt_of_lt_of_le (lt_of_heap hc4) hb66)
    replace hc4 := g72.heap hc4
    replace G := G.tr g72
    clear u71 g68 hb66 hc67
    refine WL_some (og rfl ?_)
    (first | refine r_assign_int rfl ?_ | refine r_assign rfl ?_)
    refine WL_nil ?_
    refine W_seq ?_
    refine W_seq (W_region rfl ?_)
    refine WL_some (og rfl ?_)
    (first | refine r_move_int rfl ?_ | refine r_move rfl ?_)
    refine WL_some (og rfl ?_)
    (first | (refine r_neq_t rfl rfl ?_ ?_; (first | assumption | omega)) | (refine r_neq_f rfl rfl ?_ ?_; (first | assumption | omega)) | refine r_neq rfl rfl ?_)
    refine WL_some (og rfl ?_)
    (first | refine r_move_bool rfl ?_ | refine r_move rfl ?_)
    refine WL_some (og_no rfl ?_)
    refine WL_some (og_no rfl ?_)
    refine WL_some (og_no rfl ?_)
    refine WL_some (og rfl ?_)
    (first | (refine r_pick_t rfl ?_ rfl ?_; (first | rfl | assumption)) | (refine r_pick_f rfl ?_ rfl ?_; (first | rfl | assumption)))
    refine WL_nil ?_
    refine W_true rfl ?_
    refine W_seq (W_region rfl ?_)
    refine WL_some (og rfl ?_)
    (first | refine r_assign_int rfl ?_ | refine r_assign rfl ?_)
    refine WL_some (og rfl ?_)
    (first | refine r_assign_int rfl ?_ | refine r_assign rfl ?_)
    refine WL_nil ?_
    refine W_ret ?_
    refine ret2 (res_int rfl) (res_int rfl) ⟨?_, G⟩
    simp [encR, encE, encOk, hd]
  ·-- false
   first | (replace h2 := of_decide_eq_true h2) | (replace h2 := of_decide_eq_false h2) | skip
   refine W_seq (W_region rfl ?_)
   refine WL_some (og rfl ?_)
   (first | (refine r_eql_t rfl rfl ?_ ?_; (first | assumption | omega)) | (refine r_eql_f rfl rfl ?_ ?_; (first | assumption | omega)) | refine r_eql rfl rfl ?_)
   refine WL_some (og rfl ?_)
   (first | refine r_assign_bool rfl ?_ | refine r_assign rfl ?_)
   refine WL_nil ?_
   refine W_cond2 rfl (fun h3 => ?_) (fun h3 => ?_)
   ·-- true
    first | (replace h3 := of_decide_eq_true h3) | (replace h3 := of_decide_eq_false h3) | skip
    refine W_seq ?_
    refine W_any 11 [[], [0], [1, 0], [2, 1, 0], [3, 2, 1, 0], [], [0], [6, 5, 4, 1, 0], [7, 6, 5, 2, 1, 0], [8, 7, 6, 5, 4, 3, 2, 1, 0], [9, 8, 7, 6, 5, 4, 3, 2, 1, 0]] mixed (by kernel_rfl) (by kernel_rfl) (by kernel_rfl) ?_
    intro w75 g76
    replace hc4 := g76.heap hc4
    replace G := G.tr g76
    clear g76
    apply AO_ex
    ·intro w_ g_; refine og rfl ?_; refine r_fieldAddr rfl ?_; exact ⟨Grow.rfl' _, rfl⟩
    apply AO_ex
    ·intro w_ g_; refine og rfl ?_; refine r_load rfl (by exact Grow.heap g_ (by assumption)) (by rfl) ?_; exact ⟨Grow.rfl' _, rfl⟩
    apply AO_ex
    ·intro w_ g_; refine og rfl ?_; refine r_gives rfl (low_29 _ _) ?_; intro w2_ g2_; exact ⟨g2_, rfl⟩
    apply AO_ex
    ·intro w_ g_; refine og rfl ?_; (first | (refine r_mul rfl rfl ?_ ?_; (constructor <;> omega)) | refine r_mulw rfl rfl ?_); exact ⟨Grow.rfl' _, rfl⟩
    apply AO_ex
    ·intro w_ g_; refine og rfl ?_; (first | (refine r_add rfl rfl ?_ ?_; (constructor <;> omega)) | refine r_addw rfl rfl ?_); exact ⟨Grow.rfl' _, rfl⟩
    apply AO_ex
    ·intro w_ g_; refine og rfl ?_; refine r_fieldAddr rfl ?_; exact ⟨Grow.rfl' _, rfl⟩
    apply AO_ex
    ·intro w_ g_; refine og rfl ?_; refine r_load rfl (by exact Grow.heap g_ (by assumption)) (by rfl) ?_; exact ⟨Grow.rfl' _, rfl⟩
    apply AO_ex
    ·intro w_ g_; refine og rfl ?_; refine r_gives rfl (low_32 _ _) ?_; intro w2_ g2_; exact ⟨g2_, rfl⟩
    apply AO_ex
    ·intro w_ g_; refine og rfl ?_; (first | (refine r_shlc (m := 4294967296) rfl rfl (by decide) (by decide) ?_ ?_; (constructor <;> omega)) | refine r_shlcw (m := 4294967296) rfl rfl (by decide) (by decide) ?_); exact ⟨Grow.rfl' _, rfl⟩
    apply AO_ex
    ·intro w_ g_; refine og rfl ?_; (first | (refine r_add rfl rfl ?_ ?_; (constructor <;> omega)) | refine r_addw rfl rfl ?_); exact ⟨Grow.rfl' _, rfl⟩
    apply AO_ex
    ·intro w_ g_; refine og rfl ?_; (first | refine r_assign_int rfl ?_ | refine r_assign rfl ?_); exact ⟨Grow.rfl' _, rfl⟩
    refine AO_nil ?_
    intro w77 g78
    replace hc4 := g78.heap hc4
    replace G := G.tr g78
    clear g78
    refine WL_nil ?_
    refine W_seq (W_region rfl ?_)
    refine stp (r_fieldAddr rfl ?_)
    refine stp (r_load rfl (by assumption) (by rfl) ?_)
    refine WL_nil ?_
    refine W_cond2 rfl (fun hd_ => ?_) (fun hd_ => ?_)
    ·-- true
     first | (replace hd_ := of_decide_eq_true hd_) | (replace hd_ := of_decide_eq_false hd_) | skip
     have hw : 2 + 8 * (p.off % 536870912) + p.seg % 4294967296 * 4294967296 + 4 = encW p := by unfold encW; rw [if_neg h1, if_neg h2, if_pos h3, hd_]; simp; omega
     obtain ⟨hx0, hx1⟩ := encW_range p
     by_cases hd : decE (encW p) = 0
     ·
      refine W_region rfl ?_
      refine WL_some (og rfl ?_)
      (first | refine r_move_int rfl ?_ | refine r_move rfl ?_)
      refine WL_some (og rfl ?_)
      (first | (refine r_add rfl rfl ?_ ?_; (constructor <;> omega)) | refine r_addw rfl rfl ?_)
      refine WL_some (og rfl ?_)
      (first | refine r_assign_int rfl ?_ | refine r_assign rfl ?_)
      refine WL_nil ?_
      refine W_seq (W_region rfl ?_)
      refine WL_some (og rfl ?_)
      (first | refine r_move_int rfl ?_ | refine r_move rfl ?_)
      refine stp (r_gives rfl (by (try rw [hw]); exact rdecode_calls _ _ hx0 hx1) ?_)
      intro w79 g80
      replace hc4 := g80.heap hc4
      replace G := G.tr g80
      clear g80
      refine WL_some (og rfl ?_)
      (first | refine r_move_tuple rfl ?_ | refine r_move rfl ?_)
      refine stp (r_extract rfl rfl ?_)
      refine stp (r_extract rfl rfl ?_)
      refine stp (r_alloc ?_)
      intro b81 w82 hb83 hc84 g85
      refine stn (r_storeAll rfl rfl hc84 (by rfl) (by rfl) (by rfl) ?_)
      intro w86 hc87 u88
      have g89 := g85.upd u88 hb83
      have hge90 := Nat.le_trans G.size hb83
      have ne91 := Nat.ne_of_lt (Nat.lt_of_lt_of_le (lt_of_heap hc4) hb83)
      replace hc4 := g89.heap hc4
      replace G := G.tr g89
      clear u88 g85 hb83 hc84
      refine WL_some (og rfl ?_)
      (first | refine r_assign_int rfl ?_ | refine r_assign rfl ?_)
      refine WL_nil ?_
      refine W_seq ?_
      refine W_seq (W_region rfl ?_)
      refine WL_some (og rfl ?_)
      (first | refine r_move_int rfl ?_ | refine r_move rfl ?_)
      refine WL_some (og rfl ?_)
      (first | (refine r_neq_t rfl rfl ?_ ?_; (first | assumption | omega)) | (refine r_neq_f rfl rfl ?_ ?_; (first | assumption | omega)) | refine r_neq rfl rfl ?_)
      refine WL_some (og rfl ?_)
      (first | refine r_move_bool rfl ?_ | refine r_move rfl ?_)
      refine WL_some (og rfl ?_)
      (first | refine r_loadAll rfl (by assumption) (by rfl) ?_ | refine r_loadN rfl (by assumption) (by rfl) (by rfl) ?_)
      refine WL_some (og rfl ?_)
      (first | refine r_loadAll rfl (by assumption) (by rfl) ?_ | refine r_loadN rfl (by assumption) (by rfl) (by rfl) ?_)
      refine stp (r_neqS rfl rfl (by rfl) ?_)
      refine WL_some (og rfl ?_)
      (first | (refine r_pick_t rfl ?_ rfl ?_; (first | rfl | assumption)) | (refine r_pick_f rfl ?_ rfl ?_; (first | rfl | assumption)))
      refine WL_nil ?_
      refine W_cond2 rfl (fun hc => ?_) (fun hc => ?_)
      ·-- true
       first | (replace hc := of_decide_eq_true hc) | (replace hc := of_decide_eq_false hc) | skip
       refine W_seq (W_region rfl ?_)
       refine WL_some (og rfl ?_)
       (first | refine r_assign_int rfl ?_ | refine r_assign rfl ?_)
       refine WL_some (og rfl ?_)
       (first | refine r_assign_int rfl ?_ | refine r_assign rfl ?_)
       refine WL_nil ?_
       refine W_ret ?_
       refine ret2 (res_int rfl) (res_int rfl) ⟨?_, G⟩
       have hq : ¬ decP (encW p) = p := by
        intro hq
        rw [hq] at hc
        simp at hc
       simp [encR, encE, encOk, hd, hq]
      ·-- false
       first | (replace hc := of_decide_eq_true hc) | (replace hc := of_decide_eq_false hc) | skip
       refine W_skip ?_
       refine W_seq (W_region rfl ?_)
       refine WL_some (og rfl ?_)
       (first | refine r_move_int rfl ?_ | refine r_move rfl ?_)
       refine WL_some (og rfl ?_)
       (first | refine r_assign_int rfl ?_ | refine r_assign rfl ?_)
       refine WL_some (og rfl ?_)
       (first | refine r_assign_int rfl ?_ | refine r_assign rfl ?_)
       refine WL_nil ?_
       refine W_ret ?_
       refine ret2 (res_int rfl) (res_int rfl) ⟨?_, G⟩
       have hq : decP (encW p) = p := by
        generalize decP (encW p) = q at hc ⊢
        cases q; cases p; simpa [and_assoc] using hc
       simp [encR, encE, encOk, hd, hq] <;> omega
     ·
      refine W_region rfl ?_
      refine WL_some (og rfl ?_)
      (first | refine r_move_int rfl ?_ | refine r_move rfl ?_)
      refine WL_some (og rfl ?_)
      (first | (refine r_add rfl rfl ?_ ?_; (constructor <;> omega)) | refine r_addw rfl rfl ?_)
      refine WL_some (og rfl ?_)
      (first | refine r_assign_int rfl ?_ | refine r_assign rfl ?_)
      refine WL_nil ?_
      refine W_seq (W_region rfl ?_)
      refine WL_some (og rfl ?_)
      (first | refine r_move_int rfl ?_ | refine r_move rfl ?_)
      refine stp (r_gives rfl (by (try rw [hw]); exact rdecode_calls _ _ hx0 hx1) ?_)
      intro w92 g93
      replace hc4 := g93.heap hc4
      replace G := G.tr g93
      clear g93
      refine WL_some (og rfl ?_)
      (first | refine r_move_tuple rfl ?_ | refine r_move rfl ?_)
      refine stp (r_extract rfl rfl ?_)
      refine stp (r_extract rfl rfl ?_)
      refine stp (r_alloc ?_)
      intro b94 w95 hb96 hc97 g98
      refine stn (r_storeAll rfl rfl hc97 (by rfl) (by rfl) (by rfl) ?_)
      intro w99 hc100 u101
      have g102 := g98.upd u101 hb96
      have hge103 := Nat.le_trans G.size hb96
      have ne104 := Nat.ne_of_lt (Nat.lt_of_lt_of_le (lt_of_heap hc4) hb96)
      replace hc4 := g102.heap hc4
      replace G := G.tr g102
      clear u101 g98 hb96 hc97
      refine WL_some (og rfl ?_)
      (first | refine r_assign_int rfl ?_ | refine r_assign rfl ?_)
      refine WL_nil ?_
      refine W_seq ?_
      refine W_seq (W_region rfl ?_)
      refine WL_some (og rfl ?_)
      (first | refine r_move_int rfl ?_ | refine r_move rfl ?_)
      refine WL_some (og rfl ?_)
      (first | (refine r_neq_t rfl rfl ?_ ?_; (first | assumption | omega)) | (refine r_neq_f rfl rfl ?_ ?_; (first | assumption | omega)) | refine r_neq rfl rfl ?_)
      refine WL_some (og rfl ?_)
      (first | refine r_move_bool rfl ?_ | refine r_move rfl ?_)
      refine WL_some (og_no rfl ?_)
      refine WL_some (og_no rfl ?_)
      refine WL_some (og_no rfl ?_)
      refine WL_some (og rfl ?_)
      (first | (refine r_pick_t rfl ?_ rfl ?_; (first | rfl | assumption)) | (refine r_pick_f rfl ?_ rfl ?_; (first | rfl | assumption)))
      refine WL_nil ?_
      refine W_true rfl ?_
      refine W_seq (W_region rfl ?_)
      refine WL_some (og rfl ?_)
      (first | refine r_assign_int rfl ?_ | refine r_assign rfl ?_)
      refine WL_some (og rfl ?_)
      (first | refine r_assign_int rfl ?_ | refine r_assign rfl ?_)
      refine WL_nil ?_
      refine W_ret ?_
      refine ret2 (res_int rfl) (res_int rfl) ⟨?_, G⟩
      simp [encR, encE, encOk, hd]
    ·-- false
     first | (replace hd_ := of_decide_eq_true hd_) | (replace hd_ := of_decide_eq_false hd_) | skip
     have hw : 2 + 8 * (p.off % 536870912) + p.seg % 4294967296 * 4294967296 = encW p := by unfold encW; rw [if_neg h1, if_neg h2, if_pos h3, hd_]; simp; omega
     obtain ⟨hx0, hx1⟩ := encW_range p
     by_cases hd : decE (encW p) = 0
     ·
      refine W_skip ?_
      refine W_seq (W_region rfl ?_)
      refine WL_some (og rfl ?_)
      (first | refine r_move_int rfl ?_ | refine r_move rfl ?_)
      refine stp (r_gives rfl (by (try rw [hw]); exact rdecode_calls _ _ hx0 hx1) ?_)
      intro w105 g106
      replace hc4 := g106.heap hc4
      replace G := G.tr g106
      clear g106
      refine WL_some (og rfl ?_)
      (first | refine r_move_tuple rfl ?_ | refine r_move rfl ?_)
      refine stp (r_extract rfl rfl ?_)
      refine stp (r_extract rfl rfl ?_)
      refine stp (r_alloc ?_)
      intro b107 w108 hb109 hc110 g111
      refine stn (r_storeAll rfl rfl hc110 (by rfl) (by rfl) (by rfl) ?_)
      intro w112 hc113 u114
      have g115 := g111.upd u114 hb109
      have hge116 := Nat.le_trans G.size hb109
      have ne117 := Nat.ne_of_lt (Nat.lt_of_lt_of_le (lt_of_heap hc4) hb109)
      replace hc4 := g115.heap hc4
      replace G := G.tr g115
      clear u114 g111 hb109 hc110
      refine WL_some (og rfl ?_)
      (first | refine r_assign_int rfl ?_ | refine r_assign rfl ?_)
      refine WL_nil ?_
      refine W_seq ?_
      refine W_seq (W_region rfl ?_)
      refine WL_some (og rfl ?_)
      (first | refine r_move_int rfl ?_ | refine r_move rfl ?_)
      refine WL_some (og rfl ?_)
      (first | (refine r_neq_t rfl rfl ?_ ?_; (first | assumption | omega)) | (refine r_neq_f rfl rfl ?_ ?_; (first | assumption | omega)) | refine r_neq rfl rfl ?_)
      refine WL_some (og rfl ?_)
      (first | refine r_move_bool rfl ?_ | refine r_move rfl ?_)
      refine WL_some (og rfl ?_)
      (first | refine r_loadAll rfl (by assumption) (by rfl) ?_ | refine r_loadN rfl (by assumption) (by rfl) (by rfl) ?_)
      refine WL_some (og rfl ?_)
      (first | refine r_loadAll rfl (by assumption) (by rfl) ?_ | refine r_loadN rfl (by assumption) (by rfl) (by rfl) ?_)
      refine stp (r_neqS rfl rfl (by rfl) ?_)
      refine WL_some (og rfl ?_)
      (first | (refine r_pick_t rfl ?_ rfl ?_; (first | rfl | assumption)) | (refine r_pick_f rfl ?_ rfl ?_; (first | rfl | assumption)))
      refine WL_nil ?_
      refine W_cond2 rfl (fun hc => ?_) (fun hc => ?_)
      ·-- true
       first | (replace hc := of_decide_eq_true hc) | (replace hc := of_decide_eq_false hc) | skip
       refine W_seq (W_region rfl ?_)
       refine WL_some (og rfl ?_)
       (first | refine r_assign_int rfl ?_ | refine r_assign rfl ?_)
       refine WL_some (og rfl ?_)
       (first | refine r_assign_int rfl ?_ | refine r_assign rfl ?_)
       refine WL_nil ?_
       refine W_ret ?_
       refine ret2 (res_int rfl) (res_int rfl) ⟨?_, G⟩
       have hq : ¬ decP (encW p) = p := by
        intro hq
        rw [hq] at hc
        simp at hc
       simp [encR, encE, encOk, hd, hq]
      ·-- false
       first | (replace hc := of_decide_eq_true hc) | (replace hc := of_decide_eq_false hc) | skip
       refine W_skip ?_
       refine W_seq (W_region rfl ?_)
       refine WL_some (og rfl ?_)
       (first | refine r_move_int rfl ?_ | refine r_move rfl ?_)
       refine WL_some (og rfl ?_)
       (first | refine r_assign_int rfl ?_ | refine r_assign rfl ?_)
       refine WL_some (og rfl ?_)
       (first | refine r_assign_int rfl ?_ | refine r_assign rfl ?_)
       refine WL_nil ?_
       refine W_ret ?_
       refine ret2 (res_int rfl) (res_int rfl) ⟨?_, G⟩
       have hq : decP (encW p) = p := by
        generalize decP (encW p) = q at hc ⊢
        cases q; cases p; simpa [and_assoc] using hc
       simp [encR, encE, encOk, hd, hq] <;> omega
     ·
      refine W_skip ?_
      refine W_seq (W_region rfl ?_)
      refine WL_some (og rfl ?_)
      (first | refine r_move_int rfl ?_ | refine r_move rfl ?_)
      refine stp (r_gives rfl (by (try rw [hw]); exact rdecode_calls _ _ hx0 hx1) ?_)
      intro w118 g119
      replace hc4 := g119.heap hc4
      replace G := G.tr g119
      clear g119
      refine WL_some (og rfl ?_)
      (first | refine r_move_tuple rfl ?_ | refine r_move rfl ?_)
      refine stp (r_extract rfl rfl ?_)
      refine stp (r_extract rfl rfl ?_)
      refine stp (r_alloc ?_)
      intro b120 w121 hb122 hc123 g124
      refine stn (r_storeAll rfl rfl hc123 (by rfl) (by rfl) (by rfl) ?_)
      intro w125 hc126 u127
      have g128 := g124.upd u127 hb122
      have hge129 := Nat.le_trans G.size hb122
      have ne130 := Nat.ne_of_lt (Nat.lt_of_lt_of_le (lt_of_heap hc4) hb122)
      replace hc4 := g128.heap hc4
      replace G := G.tr g128
      clear u127 g124 hb122 hc123
      refine WL_some (og rfl ?_)
      (first | refine r_assign_int rfl ?_ | refine r_assign rfl ?_)
      refine WL_nil ?_
      refine W_seq ?_
      refine W_seq (W_region rfl ?_)
      refine WL_some (og rfl ?_)
      (first | refine r_move_int rfl ?_ | refine r_move rfl ?_)
      refine WL_some (og rfl ?_)
      (first | (refine r_neq_t rfl rfl ?_ ?_; (first | assumption | omega)) | (refine r_neq_f rfl rfl ?_ ?_; (first | assumption | omega)) | refine r_neq rfl rfl ?_)
      refine WL_some (og rfl ?_)
      (first | refine r_move_bool rfl ?_ | refine r_move rfl ?_)
      refine WL_some (og_no rfl ?_)
      refine WL_some (og_no rfl ?_)
      refine WL_some (og_no rfl ?_)
      refine WL_some (og rfl ?_)
      (first | (refine r_pick_t rfl ?_ rfl ?_; (first | rfl | assumption)) | (refine r_pick_f rfl ?_ rfl ?_; (first | rfl | assumption)))
      refine WL_nil ?_
      refine W_true rfl ?_
      refine W_seq (W_region rfl ?_)
      refine WL_some (og rfl ?_)
      (first | refine r_assign_int rfl ?_ | refine r_assign rfl ?_)
      refine WL_some (og rfl ?_)
      (first | refine r_assign_int rfl ?_ | refine r_assign rfl ?_)
      refine WL_nil ?_
      refine W_ret ?_
      refine ret2 (res_int rfl) (res_int rfl) ⟨?_, G⟩
      simp [encR, encE, encOk, hd]
   ·-- false
    first | (replace h3 := of_decide_eq_true h3) | (replace h3 := of_decide_eq_false h3) | skip
    have hw : 0 = encW p := by unfold encW; rw [if_neg h1, if_neg h2, if_neg h3]
    obtain ⟨hx0, hx1⟩ := encW_range p
    by_cases hd : decE (encW p) = 0
    ·
     refine W_skip ?_
     refine W_seq (W_region rfl ?_)
     refine WL_some (og rfl ?_)
     (first | refine r_move_int rfl ?_ | refine r_move rfl ?_)
     refine stp (r_gives rfl (by (try rw [hw]); exact rdecode_calls _ _ hx0 hx1) ?_)
     intro w131 g132
     replace hc4 := g132.heap hc4
     replace G := G.tr g132
     clear g132
     refine WL_some (og rfl ?_)
     (first | refine r_move_tuple rfl ?_ | refine r_move rfl ?_)
     refine stp (r_extract rfl rfl ?_)
     refine stp (r_extract rfl rfl ?_)
     refine stp (r_alloc ?_)
     intro b133 w134 hb135 hc136 g137
     refine stn (r_storeAll rfl rfl hc136 (by rfl) (by rfl) (by rfl) ?_)
     intro w138 hc139 u140
     have g141 := g137.upd u140 hb135
     have hge142 := Nat.le_trans G.size hb135
     have ne143 := Nat.ne_of_lt (Nat.lt_of_lt_of_le (lt_of_heap hc4) hb135)
     replace hc4 := g141.heap hc4
     replace G := G.tr g141
     clear u140 g137 hb135 hc136
     refine WL_some (og rfl ?_)
     (first | refine r_assign_int rfl ?_ | refine r_assign rfl ?_)
     refine WL_nil ?_
     refine W_seq ?_
     refine W_seq (W_region rfl ?_)
     refine WL_some (og rfl ?_)
     (first | refine r_move_int rfl ?_ | refine r_move rfl ?_)
     refine WL_some (og rfl ?_)
     (first | (refine r_neq_t rfl rfl ?_ ?_; (first | assumption | omega)) | (refine r_neq_f rfl rfl ?_ ?_; (first | assumption | omega)) | refine r_neq rfl rfl ?_)
     refine WL_some (og rfl ?_)
     (first | refine r_move_bool rfl ?_ | refine r_move rfl ?_)
     refine WL_some (og rfl ?_)
     (first | refine r_loadAll rfl (by assumption) (by rfl) ?_ | refine r_loadN rfl (by assumption) (by rfl) (by rfl) ?_)
     refine WL_some (og rfl ?_)
     (first | refine r_loadAll rfl (by assumption) (by rfl) ?_ | refine r_loadN rfl (by assumption) (by rfl) (by rfl) ?_)
     refine stp (r_neqS rfl rfl (by rfl) ?_)
     refine WL_some (og rfl ?_)
     (first | (refine r_pick_t rfl ?_ rfl ?_; (first | rfl | assumption)) | (refine r_pick_f rfl ?_ rfl ?_; (first | rfl | assumption)))
     refine WL_nil ?_
     refine W_cond2 rfl (fun hc => ?_) (fun hc => ?_)
     ·-- true
      first | (replace hc := of_decide_eq_true hc) | (replace hc := of_decide_eq_false hc) | skip
      refine W_seq (W_region rfl ?_)
      refine WL_some (og rfl ?_)
      (first | refine r_assign_int rfl ?_ | refine r_assign rfl ?_)
      refine WL_some (og rfl ?_)
      (first | refine r_assign_int rfl ?_ | refine r_assign rfl ?_)
      refine WL_nil ?_
      refine W_ret ?_
      refine ret2 (res_int rfl) (res_int rfl) ⟨?_, G⟩
      have hq : ¬ decP (encW p) = p := by
       intro hq
       rw [hq] at hc
       simp at hc
      simp [encR, encE, encOk, hd, hq]
     ·-- false
      first | (replace hc := of_decide_eq_true hc) | (replace hc := of_decide_eq_false hc) | skip
      refine W_skip ?_
      refine W_seq (W_region rfl ?_)
      refine WL_some (og rfl ?_)
      (first | refine r_move_int rfl ?_ | refine r_move rfl ?_)
      refine WL_some (og rfl ?_)
      (first | refine r_assign_int rfl ?_ | refine r_assign rfl ?_)
      refine WL_some (og rfl ?_)
      (first | refine r_assign_int rfl ?_ | refine r_assign rfl ?_)
      refine WL_nil ?_
      refine W_ret ?_
      refine ret2 (res_int rfl) (res_int rfl) ⟨?_, G⟩
      have hq : decP (encW p) = p := by
       generalize decP (encW p) = q at hc ⊢
       cases q; cases p; simpa [and_assoc] using hc
      simp [encR, encE, encOk, hd, hq] <;> omega
    ·
     refine W_skip ?_
     refine W_seq (W_region rfl ?_)
     refine WL_some (og rfl ?_)
     (first | refine r_move_int rfl ?_ | refine r_move rfl ?_)
     refine stp (r_gives rfl (by (try rw [hw]); exact rdecode_calls _ _ hx0 hx1) ?_)
     intro w144 g145
     replace hc4 := g145.heap hc4
     replace G := G.tr g145
     clear g145
     refine WL_some (og rfl ?_)
     (first | refine r_move_tuple rfl ?_ | refine r_move rfl ?_)
     refine stp (r_extract rfl rfl ?_)
     refine stp (r_extract rfl rfl ?_)
     refine stp (r_alloc ?_)
     intro b146 w147 hb148 hc149 g150
     refine stn (r_storeAll rfl rfl hc149 (by rfl) (by rfl) (by rfl) ?_)
     intro w151 hc152 u153
     have g154 := g150.upd u153 hb148
     have hge155 := Nat.le_trans G.size hb148
     have ne156 := Nat.ne_of_lt (Nat.lt_of_lt_of_le (lt_of_heap hc4) hb148)
     replace hc4 := g154.heap hc4
     replace G := G.tr g154
     clear u153 g150 hb148 hc149
     refine WL_some (og rfl ?_)
     (first | refine r_assign_int rfl ?_ | refine r_assign rfl ?_)
     refine WL_nil ?_
     refine W_seq ?_
     refine W_seq (W_region rfl ?_)
     refine WL_some (og rfl ?_)
     (first | refine r_move_int rfl ?_ | refine r_move rfl ?_)
     refine WL_some (og rfl ?_)
     (first | (refine r_neq_t rfl rfl ?_ ?_; (first | assumption | omega)) | (refine r_neq_f rfl rfl ?_ ?_; (first | assumption | omega)) | refine r_neq rfl rfl ?_)
     refine WL_some (og rfl ?_)
     (first | refine r_move_bool rfl ?_ | refine r_move rfl ?_)
     refine WL_some (og_no rfl ?_)
     refine WL_some (og_no rfl ?_)
     refine WL_some (og_no rfl ?_)
     refine WL_some (og rfl ?_)
     (first | (refine r_pick_t rfl ?_ rfl ?_; (first | rfl | assumption)) | (refine r_pick_f rfl ?_ rfl ?_; (first | rfl | assumption)))
     refine WL_nil ?_
     refine W_true rfl ?_
     refine W_seq (W_region rfl ?_)
     refine WL_some (og rfl ?_)
     (first | refine r_assign_int rfl ?_ | refine r_assign rfl ?_)
     refine WL_some (og rfl ?_)
     (first | refine r_assign_int rfl ?_ | refine r_assign rfl ?_)
     refine WL_nil ?_
     refine W_ret ?_
     refine ret2 (res_int rfl) (res_int rfl) ⟨?_, G⟩
     simp [encR, encE, encOk, hd]

end Go.Proofs.Ytfhfecepcnapfaa.K

namespace Go.Proofs.Ytfhfecepcnapfaa.K
open Go Go.RowKit Go.Proofs
attribute [local irreducible] Run1 OpG WL W AO Gives
set_option maxRecDepth 100000 in
theorem ceil_calls (w : World) (n : Int) (h0 : 0 ≤ n) (h1 : n ≤ 140737488355328) : Gives Try.prog 54 #[.int .i64 n, .int .i64 8] w (.int .i64 ((n + 7) / 8)) := by
 have G := Grow.rfl' w
 refine gives_of Try.func54 Try.ntmps54 Try.results54 rfl rfl ?_
 refine W_seq (W_region rfl ?_)
 refine stp (r_assign_int rfl ?_)
 refine WL_nil ?_
 refine W_seq ?_
 refine W_seq (W_region rfl ?_)
 refine stp (r_move_int rfl ?_)
 refine stp (r_lss rfl rfl ?_)
 refine stp (r_move_bool rfl ?_)
 refine WL_some (og_if (s := .bool (decide (n < 0))) (b := false) (v := .int .i64 n) rfl (wgb_f _) (fun hc1 => ?_) ?_)
 ·
  have hc1_ := hc1
  try simp only [sb] at hc1_
  refine r_move_int rfl ?_
  exact ⟨rfl, rfl⟩
 refine WL_some (og_if (s := .bool (decide (n < 0))) (b := false) (v := .bool (decide (n > 9007199254740992))) rfl (wgb_f _) (fun hc2 => ?_) ?_)
 ·
  have hc2_ := hc2
  try simp only [sb] at hc2_
  refine r_gtr (gvt hc2) rfl ?_
  exact ⟨rfl, rfl⟩
 refine stp (r_or2 rfl rfl rfl ?_)
 refine stp (r_move_bool rfl ?_)
 refine WL_some (og_if (s := .bool ((decide (n < 0)) || (decide (n > 9007199254740992)))) (b := false) (v := .int .i64 8) rfl (wgb_f _) (fun hc3 => ?_) ?_)
 ·
  have hc3_ := hc3
  try simp only [sb] at hc3_
  refine r_move_int rfl ?_
  exact ⟨rfl, rfl⟩
 refine WL_some (og_if (s := .bool ((decide (n < 0)) || (decide (n > 9007199254740992)))) (b := false) (v := .bool false) rfl (wgb_f _) (fun hc4 => ?_) ?_)
 ·
  have hc4_ := hc4
  try simp only [sb] at hc4_
  refine r_lss_f (gvt hc4) rfl (by decide) ?_
  exact ⟨rfl, rfl⟩
 refine stp (r_or2 rfl rfl rfl ?_)
 refine stp (r_move_bool rfl ?_)
 refine WL_some (og_if (s := .bool (((decide (n < 0)) || (decide (n > 9007199254740992))) || false)) (b := false) (v := .int .i64 8) rfl (wgb_f _) (fun hc5 => ?_) ?_)
 ·
  have hc5_ := hc5
  try simp only [sb] at hc5_
  refine r_move_int rfl ?_
  exact ⟨rfl, rfl⟩
 refine WL_some (og_if (s := .bool (((decide (n < 0)) || (decide (n > 9007199254740992))) || false)) (b := false) (v := .bool false) rfl (wgb_f _) (fun hc6 => ?_) ?_)
 ·
  have hc6_ := hc6
  try simp only [sb] at hc6_
  refine r_gtr_f (gvt hc6) rfl (by decide) ?_
  exact ⟨rfl, rfl⟩
 refine stp (r_or2 rfl rfl rfl ?_)
 refine WL_nil ?_
 refine W_cond2 (b := ((((decide (n < 0)) || (decide (n > 9007199254740992))) || false) || false)) rfl (fun h1 => ?_) (fun h1 => ?_)
 ·-- true
  simp only [sb] at h1
  refine W_seq (W_region rfl ?_)
  refine stp (r_assign_int rfl ?_)
  refine WL_nil ?_
  refine W_ret ?_
  refine ret1 (res_tmp (v := .int .i64 0) rfl) ⟨?_, G⟩
  first | (exfalso; omega; done) | (congr 1; omega)
 ·-- false
  simp only [sb] at h1
  refine W_skip ?_
  refine W_seq (W_region rfl ?_)
  refine stp (r_move_int rfl ?_)
  refine stp (r_move_int rfl ?_)
  refine stp (r_add rfl rfl ?_ ?_); constructor <;> omega
  refine stp (r_sub rfl rfl ?_ ?_); constructor <;> omega
  refine stp (r_move_int rfl ?_)
  refine stp (r_quo rfl rfl ?_ ?_ ?_ ?_); omega; omega; (constructor <;> omega)
  refine stp (r_assign_int rfl ?_)
  refine WL_nil ?_
  refine W_ret ?_
  refine ret1 (res_tmp (v := .int .i64 (((n + 8) - 1) / 8)) rfl) ⟨?_, G⟩
  first | (exfalso; omega; done) | (congr 1; omega)

set_option maxRecDepth 100000 in
theorem need_calls (w : World) {c : List Value} {t : Nd} (T : NodeR w c t) : Gives Try.prog 33 #[.agg c.toArray] w (.int .i64 t.need) := by
 obtain @⟨kind, size, words, bytes, kids, ws, bs, ks, kc, hk, hs, hW, hwr, hB, hbr, hK, hKs⟩ := T
 obtain ⟨aw, cw, rfl, hcw, hcw2, RW⟩ := hW
 obtain ⟨ab, cb, rfl, hcb, hcb2, RB⟩ := hB
 obtain ⟨ak, ck, rfl, hck, hck2, RK⟩ := hK
 have lw := RW.lim
 have lb := RB.lim
 have lk := RK.lim
 simp only [inR] at hk hs
 have G := Grow.rfl' w
 refine gives_of Try.func33 Try.ntmps33 Try.results33 rfl rfl ?_
 refine W_seq (W_region rfl ?_)
 refine WL_some (og rfl ?_)
 (first | refine r_box_agg rfl ?_ | refine r_box_int rfl ?_ | refine r_box_slice rfl ?_ | refine r_box rfl rfl ?_)
 intro b1 w2 hb3 hc4 g5
 have hge6 := Nat.le_trans G.size hb3
 replace G := G.tr g5
 clear g5 hb3
 refine stp (r_assign_int rfl ?_)
 refine WL_nil ?_
 refine W_seq ?_
 refine W_seq (W_region rfl ?_)
 refine stp (r_fieldAddr rfl ?_)
 refine stp (r_load (v := .int .i64 kind) rfl hc4 rfl ?_)
 refine stp (r_neq rfl rfl ?_)
 refine stp (r_move_bool rfl ?_)
 refine WL_some (og_if (s := .bool (decide (kind ≠ 1))) (b := true) (v := .pointer (some ⟨b1, 0, none⟩)) rfl (wgb_t _) (fun hc7 => ?_) ?_)
 ·
  have hc7_ := of_decide_eq_true hc7
  refine r_fieldAddr rfl ?_
  exact ⟨rfl, rfl⟩
 refine WL_some (og_if (s := .bool (decide (kind ≠ 1))) (b := true) (v := .int .i64 kind) rfl (wgb_t _) (fun hc8 => ?_) ?_)
 ·
  have hc8_ := of_decide_eq_true hc8
  refine r_load (v := .int .i64 kind) (gvt hc8) hc4 rfl ?_
  exact ⟨rfl, rfl⟩
 refine WL_some (og_if (s := .bool (decide (kind ≠ 1))) (b := true) (v := .bool (decide (kind ≠ 2))) rfl (wgb_t _) (fun hc9 => ?_) ?_)
 ·
  have hc9_ := of_decide_eq_true hc9
  refine r_neq (gvt hc9) rfl ?_
  exact ⟨rfl, rfl⟩
 refine stp (r_and2 rfl rfl rfl ?_)
 refine WL_nil ?_
 refine W_cond2 (b := ((decide (kind ≠ 1)) && (decide (kind ≠ 2)))) rfl (fun h1 => ?_) (fun h1 => ?_)
 ·-- true
  simp only [sb] at h1
  refine W_seq (W_region rfl ?_)
  refine stp (r_assign_int rfl ?_)
  refine WL_nil ?_
  refine W_ret ?_
  refine ret1 (res_tmp (v := .int .i64 0) rfl) ⟨?_, G⟩
  simp [Nd.need, *] <;> omega
 ·-- false
  simp only [sb] at h1
  refine W_skip ?_
  refine W_seq (W_region rfl ?_)
  refine stp (r_fieldAddr rfl ?_)
  refine stp (r_load (v := .slice aw words.length cw) rfl hc4 rfl ?_)
  refine stp (r_len rfl rfl rfl ?_)
  refine stp (r_fieldAddr rfl ?_)
  refine stp (r_load (v := .slice ak kids.length ck) rfl hc4 rfl ?_)
  refine stp (r_len rfl rfl rfl ?_)
  refine stp (r_add rfl rfl ?_ ?_); constructor <;> omega
  refine stp (r_assign_int rfl ?_)
  refine WL_nil ?_
  refine W_seq ?_
  refine W_seq (W_region rfl ?_)
  refine stp (r_fieldAddr rfl ?_)
  refine stp (r_load (v := .int .i64 kind) rfl hc4 rfl ?_)
  refine stp (r_eql rfl rfl ?_)
  refine WL_nil ?_
  refine W_cond2 (b := (decide (kind = 2))) rfl (fun h2 => ?_) (fun h2 => ?_)
  ·-- true
   replace h2 := of_decide_eq_true h2
   refine W_region rfl ?_
   refine stp (r_move_int rfl ?_)
   refine stp (r_fieldAddr rfl ?_)
   refine stp (r_load (v := .slice ab bytes.length cb) rfl hc4 rfl ?_)
   refine stp (r_len rfl rfl rfl ?_)
   refine stp (r_gives (v := .int .i64 (((bytes.length : Int) + 7) / 8)) rfl (ceil_calls _ _ (by omega) (by omega)) ?_)
   intro w10 g11
   replace hc4 := g11.heap hc4
   replace G := G.tr g11
   clear g11
   refine stp (r_add rfl rfl ?_ ?_); constructor <;> omega
   refine stp (r_assign_int rfl ?_)
   refine WL_nil ?_
   refine W_seq (W_region rfl ?_)
   refine stp (r_move_int rfl ?_)
   refine stp (r_assign_int rfl ?_)
   refine WL_nil ?_
   refine W_ret ?_
   refine ret1 (res_tmp (v := .int .i64 (((words.length : Int) + (kids.length : Int)) + (((bytes.length : Int) + 7) / 8))) rfl) ⟨?_, G⟩
   simp [Nd.need, *] <;> omega
  ·-- false
   replace h2 := of_decide_eq_false h2
   refine W_skip ?_
   refine W_seq (W_region rfl ?_)
   refine stp (r_move_int rfl ?_)
   refine stp (r_assign_int rfl ?_)
   refine WL_nil ?_
   refine W_ret ?_
   refine ret1 (res_tmp (v := .int .i64 ((words.length : Int) + (kids.length : Int))) rfl) ⟨?_, G⟩
   simp [Nd.need, *] <;> omega

set_option maxRecDepth 100000 in
theorem rneed_calls (w : World) {c : List Value} {t : Nd} (T : NodeR w c t) : Gives Try.prog 34 #[.agg c.toArray] w (.int .i64 t.need) := by
 obtain @⟨kind, size, words, bytes, kids, ws, bs, ks, kc, hk, hs, hW, hwr, hB, hbr, hK, hKs⟩ := T
 obtain ⟨aw, cw, rfl, hcw, hcw2, RW⟩ := hW
 obtain ⟨ab, cb, rfl, hcb, hcb2, RB⟩ := hB
 obtain ⟨ak, ck, rfl, hck, hck2, RK⟩ := hK
 have lw := RW.lim
 have lb := RB.lim
 have lk := RK.lim
 simp only [inR] at hk hs
 have G := Grow.rfl' w
 refine gives_of Try.func34 Try.ntmps34 Try.results34 rfl rfl ?_
 refine W_seq (W_region rfl ?_)
 refine WL_some (og rfl ?_)
 (first | refine r_box_agg rfl ?_ | refine r_box_int rfl ?_ | refine r_box_slice rfl ?_ | refine r_box rfl rfl ?_)
 intro b1 w2 hb3 hc4 g5
 have hge6 := Nat.le_trans G.size hb3
 replace G := G.tr g5
 clear g5 hb3
 refine stp (r_assign_int rfl ?_)
 refine WL_nil ?_
 refine W_seq ?_
 refine W_seq (W_region rfl ?_)
 refine stp (r_fieldAddr rfl ?_)
 refine stp (r_load (v := .int .i64 kind) rfl hc4 rfl ?_)
 refine WL_nil ?_
 refine W_block ?_
 refine W_seq (W_region rfl ?_)
 refine stp (r_eql rfl rfl ?_)
 refine stp (r_assign_bool rfl ?_)
 refine WL_nil ?_
 refine W_cond2 (b := (decide (kind = 1))) rfl (fun h1 => ?_) (fun h1 => ?_)
 ·-- true
  replace h1 := of_decide_eq_true h1
  refine W_seq (W_region rfl ?_)
  refine stp (r_fieldAddr rfl ?_)
  refine stp (r_load (v := .slice aw words.length cw) rfl hc4 rfl ?_)
  refine stp (r_len rfl rfl rfl ?_)
  refine stp (r_fieldAddr rfl ?_)
  refine stp (r_load (v := .slice ak kids.length ck) rfl hc4 rfl ?_)
  refine stp (r_len rfl rfl rfl ?_)
  refine stp (r_add rfl rfl ?_ ?_); constructor <;> omega
  refine stp (r_assign_int rfl ?_)
  refine WL_nil ?_
  refine W_ret ?_
  refine ret1 (res_tmp (v := .int .i64 ((words.length : Int) + (kids.length : Int))) rfl) ⟨?_, G⟩
  simp [Nd.need, *]
 ·-- false
  replace h1 := of_decide_eq_false h1
  refine W_seq (W_region rfl ?_)
  refine stp (r_eql rfl rfl ?_)
  refine stp (r_assign_bool rfl ?_)
  refine WL_nil ?_
  refine W_cond2 (b := (decide (kind = 2))) rfl (fun h2 => ?_) (fun h2 => ?_)
  ·-- true
   replace h2 := of_decide_eq_true h2
   refine W_seq (W_region rfl ?_)
   refine stp (r_fieldAddr rfl ?_)
   refine stp (r_load (v := .slice aw words.length cw) rfl hc4 rfl ?_)
   refine stp (r_len rfl rfl rfl ?_)
   refine stp (r_fieldAddr rfl ?_)
   refine stp (r_load (v := .slice ak kids.length ck) rfl hc4 rfl ?_)
   refine stp (r_len rfl rfl rfl ?_)
   refine stp (r_add rfl rfl ?_ ?_); constructor <;> omega
   refine stp (r_fieldAddr rfl ?_)
   refine stp (r_load (v := .slice ab bytes.length cb) rfl hc4 rfl ?_)
   refine stp (r_len rfl rfl rfl ?_)
   refine stp (r_add rfl rfl ?_ ?_); constructor <;> omega
   refine stp (r_quo rfl rfl ?_ ?_ ?_ ?_); omega; omega; (constructor <;> omega)
   refine stp (r_add rfl rfl ?_ ?_); constructor <;> omega
   refine stp (r_assign_int rfl ?_)
   refine WL_nil ?_
   refine W_ret ?_
   refine ret1 (res_tmp (v := .int .i64 (((words.length : Int) + (kids.length : Int)) + (((bytes.length : Int) + 7) / 8))) rfl) ⟨?_, G⟩
   simp [Nd.need, *]
  ·-- false
   replace h2 := of_decide_eq_false h2
   refine W_skip ?_
   refine W_seq (W_region rfl ?_)
   refine stp (r_assign_int rfl ?_)
   refine WL_nil ?_
   refine W_ret ?_
   refine ret1 (res_tmp (v := .int .i64 0) rfl) ⟨?_, G⟩
   simp [Nd.need, *]

set_option maxRecDepth 100000 in
theorem deep_calls : ∀ (n_ : Nat) (w : World) {c : List Value} {t : Nd} (T : NodeR w c t) {left : Nat} (hl : left ≤ 32), t.sz ≤ n_ → Gives Try.prog 55 #[.agg c.toArray, .int .i64 (left : Int)] w (.bool (t.right left)) := by
 intro n_
 induction n_ with
 | zero => intro w c t T left hl hm_; exact absurd hm_ (by have := t.sz_pos; omega)
 | succ n_ ih_ =>
 intro w c t T left hl hm_
 have T0 := T
 obtain @⟨kind, size, words, bytes, kids, ws, bs, ks, kc, hk, hs, hW, hwr, hB, hbr, hK, hKs⟩ := T
 obtain ⟨aw, cw, rfl, hcw, hcw2, RW⟩ := hW
 obtain ⟨ab, cb, rfl, hcb, hcb2, RB⟩ := hB
 obtain ⟨ak, ck, rfl, hck, hck2, RK⟩ := hK
 have lw := RW.lim
 have lb := RB.lim
 have lk := RK.lim
 simp only [inR] at hk hs
 have G := Grow.rfl' w
 refine gives_of Try.func55 Try.ntmps55 Try.results55 rfl rfl ?_
 refine W_seq (W_region rfl ?_)
 refine WL_some (og rfl ?_)
 (first | refine r_box_agg rfl ?_ | refine r_box_int rfl ?_ | refine r_box_slice rfl ?_ | refine r_box rfl rfl ?_)
 intro b1 w2 hb3 hc4 g5
 have hge6 := Nat.le_trans G.size hb3
 replace G := G.tr g5
 clear g5 hb3
 refine stp (r_assign (v := .bool false) rfl ?_)
 refine WL_nil ?_
 refine W_seq ?_
 refine W_seq (W_region rfl ?_)
 refine stp (r_fieldAddr rfl ?_)
 refine stp (r_load (v := .int .i64 kind) rfl hc4 rfl ?_)
 refine stp (r_eql rfl rfl ?_)
 refine WL_nil ?_
 refine W_cond2 (b := (decide (kind = 0))) rfl (fun h1 => ?_) (fun h1 => ?_)
 ·-- true
  replace h1 := of_decide_eq_true h1
  refine W_seq (W_region rfl ?_)
  refine stp (r_fieldAddr rfl ?_)
  refine stp (r_load (v := .int .i64 size) rfl hc4 rfl ?_)
  refine stp (r_eql rfl rfl ?_)
  refine stp (r_move_bool rfl ?_)
  refine WL_some (og_if (s := .bool (decide (size = 0))) (b := true) (v := .pointer (some ⟨b1, 2, none⟩)) rfl (wgb_t _) (fun hc7 => ?_) ?_)
  ·
   have hc7_ := of_decide_eq_true hc7
   refine r_fieldAddr rfl ?_
   exact ⟨rfl, rfl⟩
  refine WL_some (og_if (s := .bool (decide (size = 0))) (b := true) (v := .slice aw words.length cw) rfl (wgb_t _) (fun hc8 => ?_) ?_)
  ·
   have hc8_ := of_decide_eq_true hc8
   refine r_load (v := .slice aw words.length cw) (gvt hc8) hc4 rfl ?_
   exact ⟨rfl, rfl⟩
  refine WL_some (og_if (s := .bool (decide (size = 0))) (b := true) (v := .int .i64 (words.length : Int)) rfl (wgb_t _) (fun hc9 => ?_) ?_)
  ·
   have hc9_ := of_decide_eq_true hc9
   refine r_len rfl rfl (gvt hc9) ?_
   exact ⟨rfl, rfl⟩
  refine WL_some (og_if (s := .bool (decide (size = 0))) (b := true) (v := .pointer (some ⟨b1, 3, none⟩)) rfl (wgb_t _) (fun hc10 => ?_) ?_)
  ·
   have hc10_ := of_decide_eq_true hc10
   refine r_fieldAddr rfl ?_
   exact ⟨rfl, rfl⟩
  refine WL_some (og_if (s := .bool (decide (size = 0))) (b := true) (v := .slice ab bytes.length cb) rfl (wgb_t _) (fun hc11 => ?_) ?_)
  ·
   have hc11_ := of_decide_eq_true hc11
   refine r_load (v := .slice ab bytes.length cb) (gvt hc11) hc4 rfl ?_
   exact ⟨rfl, rfl⟩
  refine WL_some (og_if (s := .bool (decide (size = 0))) (b := true) (v := .int .i64 (bytes.length : Int)) rfl (wgb_t _) (fun hc12 => ?_) ?_)
  ·
   have hc12_ := of_decide_eq_true hc12
   refine r_len rfl rfl (gvt hc12) ?_
   exact ⟨rfl, rfl⟩
  refine WL_some (og_if (s := .bool (decide (size = 0))) (b := true) (v := .int .i64 ((words.length : Int) + (bytes.length : Int))) rfl (wgb_t _) (fun hc13 => ?_) ?_)
  ·
   have hc13_ := of_decide_eq_true hc13
   refine r_add (gvt hc13) (gvt hc13) ?_ ?_; constructor <;> omega
   exact ⟨rfl, rfl⟩
  refine WL_some (og_if (s := .bool (decide (size = 0))) (b := true) (v := .pointer (some ⟨b1, 4, none⟩)) rfl (wgb_t _) (fun hc14 => ?_) ?_)
  ·
   have hc14_ := of_decide_eq_true hc14
   refine r_fieldAddr rfl ?_
   exact ⟨rfl, rfl⟩
  refine WL_some (og_if (s := .bool (decide (size = 0))) (b := true) (v := .slice ak kids.length ck) rfl (wgb_t _) (fun hc15 => ?_) ?_)
  ·
   have hc15_ := of_decide_eq_true hc15
   refine r_load (v := .slice ak kids.length ck) (gvt hc15) hc4 rfl ?_
   exact ⟨rfl, rfl⟩
  refine WL_some (og_if (s := .bool (decide (size = 0))) (b := true) (v := .int .i64 (kids.length : Int)) rfl (wgb_t _) (fun hc16 => ?_) ?_)
  ·
   have hc16_ := of_decide_eq_true hc16
   refine r_len rfl rfl (gvt hc16) ?_
   exact ⟨rfl, rfl⟩
  refine WL_some (og_if (s := .bool (decide (size = 0))) (b := true) (v := .int .i64 (((words.length : Int) + (bytes.length : Int)) + (kids.length : Int))) rfl (wgb_t _) (fun hc17 => ?_) ?_)
  ·
   have hc17_ := of_decide_eq_true hc17
   refine r_add (gvt hc17) (gvt hc17) ?_ ?_; constructor <;> omega
   exact ⟨rfl, rfl⟩
  refine WL_some (og_if (s := .bool (decide (size = 0))) (b := true) (v := .bool (decide ((((words.length : Int) + (bytes.length : Int)) + (kids.length : Int)) = 0))) rfl (wgb_t _) (fun hc18 => ?_) ?_)
  ·
   have hc18_ := of_decide_eq_true hc18
   refine r_eql (gvt hc18) rfl ?_
   exact ⟨rfl, rfl⟩
  refine stp (r_and2 rfl rfl rfl ?_)
  refine stp (r_assign_bool rfl ?_)
  refine WL_nil ?_
  refine W_ret ?_
  refine ret1 (res_tmp (v := .bool ((decide (size = 0)) && (decide ((((words.length : Int) + (bytes.length : Int)) + (kids.length : Int)) = 0)))) rfl) ⟨?_, G⟩
  by_cases hs0 : size = 0 <;> by_cases hz : (words.length : Int) + bytes.length + kids.length = 0
  ·have hk := own_kids_nil hz; subst hk; simp [Nd.right, Nd.rights, Nd.own, h1, hs0]
  ·simp only [Nd.right, Nd.own, h1, hs0, hz, if_true, decide_true, decide_false, Bool.and_false, Bool.false_and]
  ·simp [Nd.right, Nd.own, h1, hs0]
  ·simp [Nd.right, Nd.own, h1, hs0]
 ·-- false
  replace h1 := of_decide_eq_false h1
  refine W_skip ?_
  refine W_seq (W_region rfl ?_)
  refine stp (r_fieldAddr rfl ?_)
  refine stp (r_load (v := .slice aw words.length cw) rfl hc4 rfl ?_)
  refine stp (r_len rfl rfl rfl ?_)
  refine stp (r_assign_int rfl ?_)
  refine WL_nil ?_
  refine W_seq (W_region rfl ?_)
  refine stp (r_fieldAddr rfl ?_)
  refine stp (r_load (v := .slice ab bytes.length cb) rfl hc4 rfl ?_)
  refine stp (r_len rfl rfl rfl ?_)
  refine stp (r_assign_int rfl ?_)
  refine WL_nil ?_
  refine W_seq (W_region rfl ?_)
  refine stp (r_fieldAddr rfl ?_)
  refine stp (r_load (v := .slice ak kids.length ck) rfl hc4 rfl ?_)
  refine stp (r_len rfl rfl rfl ?_)
  refine stp (r_assign_int rfl ?_)
  refine WL_nil ?_
  refine W_cut2 (fun e_ w_ => Fr [(1, .int .i64 (left : Int)), (2, .pointer (some ⟨b1, 0, none⟩)), (4, .bool false), (7, .int .i64 (kids.length : Int)), (8, .bool ((Nd.mk kind size words bytes kids).own))] e_ ∧ (w_.heap[b1]? = some (.cells #[.int .i64 kind, .int .i64 size, .slice aw words.length cw, .slice ab bytes.length cb, .slice ak kids.length ck] 37 (0, 0))) ∧ Grow w w_) ?_ ?_
  ·-- the parts
   refine W_region rfl ?_
   refine stp (r_fieldAddr rfl ?_)
   refine stp (r_load (v := .int .i64 kind) rfl hc4 rfl ?_)
   refine stp (r_eql rfl rfl ?_)
   refine stp (r_move_bool rfl ?_)
   refine WL_some (og_if (s := .bool (decide (kind = 1))) (b := true) (v := .pointer (some ⟨b1, 1, none⟩)) rfl (wgb_t _) (fun hc19 => ?_) ?_)
   ·
    have hc19_ := of_decide_eq_true hc19
    refine r_fieldAddr rfl ?_
    exact ⟨rfl, rfl⟩
   refine WL_some (og_if (s := .bool (decide (kind = 1))) (b := true) (v := .int .i64 size) rfl (wgb_t _) (fun hc20 => ?_) ?_)
   ·
    have hc20_ := of_decide_eq_true hc20
    refine r_load (v := .int .i64 size) (gvt hc20) hc4 rfl ?_
    exact ⟨rfl, rfl⟩
   refine WL_some (og_if (s := .bool (decide (kind = 1))) (b := true) (v := .bool (decide (size = 0))) rfl (wgb_t _) (fun hc21 => ?_) ?_)
   ·
    have hc21_ := of_decide_eq_true hc21
    refine r_eql (gvt hc21) rfl ?_
    exact ⟨rfl, rfl⟩
   refine stp (r_and2 rfl rfl rfl ?_)
   refine stp (r_move_bool rfl ?_)
   refine WL_some (og_if (s := .bool ((decide (kind = 1)) && (decide (size = 0)))) (b := true) (v := .int .i64 (words.length : Int)) rfl (wgb_t _) (fun hc22 => ?_) ?_)
   ·
    obtain ⟨hc22a, hc22b⟩ := and_t hc22
    have hc22a_ := of_decide_eq_true hc22a
    have hc22b_ := of_decide_eq_true hc22b
    refine r_move_int rfl ?_
    exact ⟨rfl, rfl⟩
   refine WL_some (og_if (s := .bool ((decide (kind = 1)) && (decide (size = 0)))) (b := true) (v := .bool (decide ((words.length : Int) ≤ 100))) rfl (wgb_t _) (fun hc23 => ?_) ?_)
   ·
    obtain ⟨hc23a, hc23b⟩ := and_t hc23
    have hc23a_ := of_decide_eq_true hc23a
    have hc23b_ := of_decide_eq_true hc23b
    refine r_leq (gvt hc23) rfl ?_
    exact ⟨rfl, rfl⟩
   refine stp (r_and2 rfl rfl rfl ?_)
   refine stp (r_move_bool rfl ?_)
   refine WL_some (og_if (s := .bool (((decide (kind = 1)) && (decide (size = 0))) && (decide ((words.length : Int) ≤ 100)))) (b := true) (v := .int .i64 (bytes.length : Int)) rfl (wgb_t _) (fun hc24 => ?_) ?_)
   ·
    obtain ⟨hc24a, hc24b⟩ := and_t hc24
    obtain ⟨hc24aa, hc24ab⟩ := and_t hc24a
    have hc24aa_ := of_decide_eq_true hc24aa
    have hc24ab_ := of_decide_eq_true hc24ab
    have hc24b_ := of_decide_eq_true hc24b
    refine r_move_int rfl ?_
    exact ⟨rfl, rfl⟩
   refine WL_some (og_if (s := .bool (((decide (kind = 1)) && (decide (size = 0))) && (decide ((words.length : Int) ≤ 100)))) (b := true) (v := .bool (decide ((bytes.length : Int) = 0))) rfl (wgb_t _) (fun hc25 => ?_) ?_)
   ·
    obtain ⟨hc25a, hc25b⟩ := and_t hc25
    obtain ⟨hc25aa, hc25ab⟩ := and_t hc25a
    have hc25aa_ := of_decide_eq_true hc25aa
    have hc25ab_ := of_decide_eq_true hc25ab
    have hc25b_ := of_decide_eq_true hc25b
    refine r_eql (gvt hc25) rfl ?_
    exact ⟨rfl, rfl⟩
   refine stp (r_and2 rfl rfl rfl ?_)
   refine stp (r_move_bool rfl ?_)
   refine WL_some (og_if (s := .bool ((((decide (kind = 1)) && (decide (size = 0))) && (decide ((words.length : Int) ≤ 100))) && (decide ((bytes.length : Int) = 0)))) (b := true) (v := .int .i64 (kids.length : Int)) rfl (wgb_t _) (fun hc26 => ?_) ?_)
   ·
    obtain ⟨hc26a, hc26b⟩ := and_t hc26
    obtain ⟨hc26aa, hc26ab⟩ := and_t hc26a
    obtain ⟨hc26aaa, hc26aab⟩ := and_t hc26aa
    have hc26aaa_ := of_decide_eq_true hc26aaa
    have hc26aab_ := of_decide_eq_true hc26aab
    have hc26ab_ := of_decide_eq_true hc26ab
    have hc26b_ := of_decide_eq_true hc26b
    refine r_move_int rfl ?_
    exact ⟨rfl, rfl⟩
   refine WL_some (og_if (s := .bool ((((decide (kind = 1)) && (decide (size = 0))) && (decide ((words.length : Int) ≤ 100))) && (decide ((bytes.length : Int) = 0)))) (b := true) (v := .bool (decide ((kids.length : Int) ≤ 100))) rfl (wgb_t _) (fun hc27 => ?_) ?_)
   ·
    obtain ⟨hc27a, hc27b⟩ := and_t hc27
    obtain ⟨hc27aa, hc27ab⟩ := and_t hc27a
    obtain ⟨hc27aaa, hc27aab⟩ := and_t hc27aa
    have hc27aaa_ := of_decide_eq_true hc27aaa
    have hc27aab_ := of_decide_eq_true hc27aab
    have hc27ab_ := of_decide_eq_true hc27ab
    have hc27b_ := of_decide_eq_true hc27b
    refine r_leq (gvt hc27) rfl ?_
    exact ⟨rfl, rfl⟩
   refine stp (r_and2 rfl rfl rfl ?_)
   refine stp (r_assign_bool rfl ?_)
   refine WL_nil ?_
   refine W_seq (W_region rfl ?_)
   refine stp (r_fieldAddr rfl ?_)
   refine stp (r_load (v := .int .i64 kind) rfl hc4 rfl ?_)
   refine stp (r_eql rfl rfl ?_)
   refine WL_nil ?_
   refine W_cond2 (b := (decide (kind = 2))) rfl (fun h2 => ?_) (fun h2 => ?_)
   ·-- true
    replace h2 := of_decide_eq_true h2
    refine W_region rfl ?_
    refine stp (r_fieldAddr rfl ?_)
    refine stp (r_load (v := .int .i64 size) rfl hc4 rfl ?_)
    refine stp (r_eql rfl rfl ?_)
    refine stp (r_move_bool rfl ?_)
    refine WL_some (og_if (s := .bool (decide (size = 2))) (b := true) (v := .int .i64 (words.length : Int)) rfl (wgb_t _) (fun hc28 => ?_) ?_)
    ·
     have hc28_ := of_decide_eq_true hc28
     refine r_move_int rfl ?_
     exact ⟨rfl, rfl⟩
    refine WL_some (og_if (s := .bool (decide (size = 2))) (b := true) (v := .bool (decide ((words.length : Int) = 0))) rfl (wgb_t _) (fun hc29 => ?_) ?_)
    ·
     have hc29_ := of_decide_eq_true hc29
     refine r_eql (gvt hc29) rfl ?_
     exact ⟨rfl, rfl⟩
    refine stp (r_and2 rfl rfl rfl ?_)
    refine stp (r_move_bool rfl ?_)
    refine WL_some (og_if (s := .bool ((decide (size = 2)) && (decide ((words.length : Int) = 0)))) (b := true) (v := .int .i64 (kids.length : Int)) rfl (wgb_t _) (fun hc30 => ?_) ?_)
    ·
     obtain ⟨hc30a, hc30b⟩ := and_t hc30
     have hc30a_ := of_decide_eq_true hc30a
     have hc30b_ := of_decide_eq_true hc30b
     refine r_move_int rfl ?_
     exact ⟨rfl, rfl⟩
    refine WL_some (og_if (s := .bool ((decide (size = 2)) && (decide ((words.length : Int) = 0)))) (b := true) (v := .bool (decide ((kids.length : Int) = 0))) rfl (wgb_t _) (fun hc31 => ?_) ?_)
    ·
     obtain ⟨hc31a, hc31b⟩ := and_t hc31
     have hc31a_ := of_decide_eq_true hc31a
     have hc31b_ := of_decide_eq_true hc31b
     refine r_eql (gvt hc31) rfl ?_
     exact ⟨rfl, rfl⟩
    refine stp (r_and2 rfl rfl rfl ?_)
    refine stp (r_move_bool rfl ?_)
    refine WL_some (og_if (s := .bool (((decide (size = 2)) && (decide ((words.length : Int) = 0))) && (decide ((kids.length : Int) = 0)))) (b := true) (v := .int .i64 (bytes.length : Int)) rfl (wgb_t _) (fun hc32 => ?_) ?_)
    ·
     obtain ⟨hc32a, hc32b⟩ := and_t hc32
     obtain ⟨hc32aa, hc32ab⟩ := and_t hc32a
     have hc32aa_ := of_decide_eq_true hc32aa
     have hc32ab_ := of_decide_eq_true hc32ab
     have hc32b_ := of_decide_eq_true hc32b
     refine r_move_int rfl ?_
     exact ⟨rfl, rfl⟩
    refine WL_some (og_if (s := .bool (((decide (size = 2)) && (decide ((words.length : Int) = 0))) && (decide ((kids.length : Int) = 0)))) (b := true) (v := .bool (decide ((bytes.length : Int) ≤ 4096))) rfl (wgb_t _) (fun hc33 => ?_) ?_)
    ·
     obtain ⟨hc33a, hc33b⟩ := and_t hc33
     obtain ⟨hc33aa, hc33ab⟩ := and_t hc33a
     have hc33aa_ := of_decide_eq_true hc33aa
     have hc33ab_ := of_decide_eq_true hc33ab
     have hc33b_ := of_decide_eq_true hc33b
     refine r_leq (gvt hc33) rfl ?_
     exact ⟨rfl, rfl⟩
    refine stp (r_and2 rfl rfl rfl ?_)
    refine stp (r_move_bool rfl ?_)
    refine WL_some (og_if (s := .bool ((((decide (size = 2)) && (decide ((words.length : Int) = 0))) && (decide ((kids.length : Int) = 0))) && (decide ((bytes.length : Int) ≤ 4096)))) (b := false) (v := .pointer (some ⟨b1, 1, none⟩)) rfl (wgb_f _) (fun hc34 => ?_) ?_)
    ·
     have hc34_ := hc34
     try simp only [sb] at hc34_
     refine r_fieldAddr rfl ?_
     exact ⟨rfl, rfl⟩
    refine WL_some (og_if (s := .bool ((((decide (size = 2)) && (decide ((words.length : Int) = 0))) && (decide ((kids.length : Int) = 0))) && (decide ((bytes.length : Int) ≤ 4096)))) (b := false) (v := .int .i64 size) rfl (wgb_f _) (fun hc35 => ?_) ?_)
    ·
     have hc35_ := hc35
     try simp only [sb] at hc35_
     refine r_load (v := .int .i64 size) (gvt hc35) hc4 rfl ?_
     exact ⟨rfl, rfl⟩
    refine WL_some (og_if (s := .bool ((((decide (size = 2)) && (decide ((words.length : Int) = 0))) && (decide ((kids.length : Int) = 0))) && (decide ((bytes.length : Int) ≤ 4096)))) (b := false) (v := .bool (decide (size = 5))) rfl (wgb_f _) (fun hc36 => ?_) ?_)
    ·
     have hc36_ := hc36
     try simp only [sb] at hc36_
     refine r_eql (gvt hc36) rfl ?_
     exact ⟨rfl, rfl⟩
    refine WL_some (og_if (s := .bool ((((decide (size = 2)) && (decide ((words.length : Int) = 0))) && (decide ((kids.length : Int) = 0))) && (decide ((bytes.length : Int) ≤ 4096)))) (b := false) (v := .bool (decide (size = 5))) rfl (wgb_f _) (fun hc37 => ?_) ?_)
    ·
     have hc37_ := hc37
     try simp only [sb] at hc37_
     refine r_move (v := .bool (decide (size = 5))) (gvt hc37) ?_
     exact ⟨rfl, rfl⟩
    refine WL_some (og_if (s := gv (!((((decide (size = 2)) && (decide ((words.length : Int) = 0))) && (decide ((kids.length : Int) = 0))) && (decide ((bytes.length : Int) ≤ 4096)))) (.bool (decide (size = 5)))) (b := true) (v := .int .i64 (bytes.length : Int)) rfl (wgb_gt _ _) (fun hc38 => ?_) ?_)
    ·
     obtain ⟨hc38a, hc38b⟩ := and_t hc38
     have hc38a_ := hc38a
     try simp only [sb] at hc38a_
     have hc38b_ := of_decide_eq_true hc38b
     refine r_move_int rfl ?_
     exact ⟨rfl, rfl⟩
    refine WL_some (og_if (s := gv (!((((decide (size = 2)) && (decide ((words.length : Int) = 0))) && (decide ((kids.length : Int) = 0))) && (decide ((bytes.length : Int) ≤ 4096)))) (.bool (decide (size = 5)))) (b := true) (v := .bool (decide ((bytes.length : Int) = 0))) rfl (wgb_gt _ _) (fun hc39 => ?_) ?_)
    ·
     obtain ⟨hc39a, hc39b⟩ := and_t hc39
     have hc39a_ := hc39a
     try simp only [sb] at hc39a_
     have hc39b_ := of_decide_eq_true hc39b
     refine r_eql (gvt hc39) rfl ?_
     exact ⟨rfl, rfl⟩
    refine WL_some (og_if (s := .bool ((((decide (size = 2)) && (decide ((words.length : Int) = 0))) && (decide ((kids.length : Int) = 0))) && (decide ((bytes.length : Int) ≤ 4096)))) (b := false) (v := .bool ((decide (size = 5)) && (decide ((bytes.length : Int) = 0)))) rfl (wgb_f _) (fun hc40 => ?_) ?_)
    ·
     have hc40_ := hc40
     try simp only [sb] at hc40_
     refine r_and3 hc40 (gvt hc40) rfl rfl ?_
     exact ⟨rfl, rfl⟩
    refine WL_some (og_if (s := .bool ((((decide (size = 2)) && (decide ((words.length : Int) = 0))) && (decide ((kids.length : Int) = 0))) && (decide ((bytes.length : Int) ≤ 4096)))) (b := false) (v := .bool ((decide (size = 5)) && (decide ((bytes.length : Int) = 0)))) rfl (wgb_f _) (fun hc41 => ?_) ?_)
    ·
     have hc41_ := hc41
     try simp only [sb] at hc41_
     refine r_move (v := .bool ((decide (size = 5)) && (decide ((bytes.length : Int) = 0)))) (gvt hc41) ?_
     exact ⟨rfl, rfl⟩
    refine WL_some (og_if (s := gv (!((((decide (size = 2)) && (decide ((words.length : Int) = 0))) && (decide ((kids.length : Int) = 0))) && (decide ((bytes.length : Int) ≤ 4096)))) (.bool ((decide (size = 5)) && (decide ((bytes.length : Int) = 0))))) (b := true) (v := .int .i64 (kids.length : Int)) rfl (wgb_gt _ _) (fun hc42 => ?_) ?_)
    ·
     obtain ⟨hc42a, hc42b⟩ := and_t hc42
     have hc42a_ := hc42a
     try simp only [sb] at hc42a_
     obtain ⟨hc42ba, hc42bb⟩ := and_t hc42b
     have hc42ba_ := of_decide_eq_true hc42ba
     have hc42bb_ := of_decide_eq_true hc42bb
     refine r_move_int rfl ?_
     exact ⟨rfl, rfl⟩
    refine WL_some (og_if (s := gv (!((((decide (size = 2)) && (decide ((words.length : Int) = 0))) && (decide ((kids.length : Int) = 0))) && (decide ((bytes.length : Int) ≤ 4096)))) (.bool ((decide (size = 5)) && (decide ((bytes.length : Int) = 0))))) (b := true) (v := .bool (decide ((kids.length : Int) = 0))) rfl (wgb_gt _ _) (fun hc43 => ?_) ?_)
    ·
     obtain ⟨hc43a, hc43b⟩ := and_t hc43
     have hc43a_ := hc43a
     try simp only [sb] at hc43a_
     obtain ⟨hc43ba, hc43bb⟩ := and_t hc43b
     have hc43ba_ := of_decide_eq_true hc43ba
     have hc43bb_ := of_decide_eq_true hc43bb
     refine r_eql (gvt hc43) rfl ?_
     exact ⟨rfl, rfl⟩
    refine WL_some (og_if (s := .bool ((((decide (size = 2)) && (decide ((words.length : Int) = 0))) && (decide ((kids.length : Int) = 0))) && (decide ((bytes.length : Int) ≤ 4096)))) (b := false) (v := .bool (((decide (size = 5)) && (decide ((bytes.length : Int) = 0))) && (decide ((kids.length : Int) = 0)))) rfl (wgb_f _) (fun hc44 => ?_) ?_)
    ·
     have hc44_ := hc44
     try simp only [sb] at hc44_
     refine r_and3 hc44 (gvt hc44) rfl rfl ?_
     exact ⟨rfl, rfl⟩
    refine WL_some (og_if (s := .bool ((((decide (size = 2)) && (decide ((words.length : Int) = 0))) && (decide ((kids.length : Int) = 0))) && (decide ((bytes.length : Int) ≤ 4096)))) (b := false) (v := .bool (((decide (size = 5)) && (decide ((bytes.length : Int) = 0))) && (decide ((kids.length : Int) = 0)))) rfl (wgb_f _) (fun hc45 => ?_) ?_)
    ·
     have hc45_ := hc45
     try simp only [sb] at hc45_
     refine r_move (v := .bool (((decide (size = 5)) && (decide ((bytes.length : Int) = 0))) && (decide ((kids.length : Int) = 0)))) (gvt hc45) ?_
     exact ⟨rfl, rfl⟩
    refine WL_some (og_if (s := gv (!((((decide (size = 2)) && (decide ((words.length : Int) = 0))) && (decide ((kids.length : Int) = 0))) && (decide ((bytes.length : Int) ≤ 4096)))) (.bool (((decide (size = 5)) && (decide ((bytes.length : Int) = 0))) && (decide ((kids.length : Int) = 0))))) (b := true) (v := .int .i64 (words.length : Int)) rfl (wgb_gt _ _) (fun hc46 => ?_) ?_)
    ·
     obtain ⟨hc46a, hc46b⟩ := and_t hc46
     have hc46a_ := hc46a
     try simp only [sb] at hc46a_
     obtain ⟨hc46ba, hc46bb⟩ := and_t hc46b
     obtain ⟨hc46baa, hc46bab⟩ := and_t hc46ba
     have hc46baa_ := of_decide_eq_true hc46baa
     have hc46bab_ := of_decide_eq_true hc46bab
     have hc46bb_ := of_decide_eq_true hc46bb
     refine r_move_int rfl ?_
     exact ⟨rfl, rfl⟩
    refine WL_some (og_if (s := gv (!((((decide (size = 2)) && (decide ((words.length : Int) = 0))) && (decide ((kids.length : Int) = 0))) && (decide ((bytes.length : Int) ≤ 4096)))) (.bool (((decide (size = 5)) && (decide ((bytes.length : Int) = 0))) && (decide ((kids.length : Int) = 0))))) (b := true) (v := .bool (decide ((words.length : Int) ≤ 4096))) rfl (wgb_gt _ _) (fun hc47 => ?_) ?_)
    ·
     obtain ⟨hc47a, hc47b⟩ := and_t hc47
     have hc47a_ := hc47a
     try simp only [sb] at hc47a_
     obtain ⟨hc47ba, hc47bb⟩ := and_t hc47b
     obtain ⟨hc47baa, hc47bab⟩ := and_t hc47ba
     have hc47baa_ := of_decide_eq_true hc47baa
     have hc47bab_ := of_decide_eq_true hc47bab
     have hc47bb_ := of_decide_eq_true hc47bb
     refine r_leq (gvt hc47) rfl ?_
     exact ⟨rfl, rfl⟩
    refine WL_some (og_if (s := .bool ((((decide (size = 2)) && (decide ((words.length : Int) = 0))) && (decide ((kids.length : Int) = 0))) && (decide ((bytes.length : Int) ≤ 4096)))) (b := false) (v := .bool ((((decide (size = 5)) && (decide ((bytes.length : Int) = 0))) && (decide ((kids.length : Int) = 0))) && (decide ((words.length : Int) ≤ 4096)))) rfl (wgb_f _) (fun hc48 => ?_) ?_)
    ·
     have hc48_ := hc48
     try simp only [sb] at hc48_
     refine r_and3 hc48 (gvt hc48) rfl rfl ?_
     exact ⟨rfl, rfl⟩
    refine stp (r_or2 rfl rfl rfl ?_)
    refine stp (r_move_bool rfl ?_)
    refine WL_some (og_if (s := .bool (((((decide (size = 2)) && (decide ((words.length : Int) = 0))) && (decide ((kids.length : Int) = 0))) && (decide ((bytes.length : Int) ≤ 4096))) || ((((decide (size = 5)) && (decide ((bytes.length : Int) = 0))) && (decide ((kids.length : Int) = 0))) && (decide ((words.length : Int) ≤ 4096))))) (b := false) (v := .pointer (some ⟨b1, 1, none⟩)) rfl (wgb_f _) (fun hc49 => ?_) ?_)
    ·
     have hc49_ := hc49
     try simp only [sb] at hc49_
     refine r_fieldAddr rfl ?_
     exact ⟨rfl, rfl⟩
    refine WL_some (og_if (s := .bool (((((decide (size = 2)) && (decide ((words.length : Int) = 0))) && (decide ((kids.length : Int) = 0))) && (decide ((bytes.length : Int) ≤ 4096))) || ((((decide (size = 5)) && (decide ((bytes.length : Int) = 0))) && (decide ((kids.length : Int) = 0))) && (decide ((words.length : Int) ≤ 4096))))) (b := false) (v := .int .i64 size) rfl (wgb_f _) (fun hc50 => ?_) ?_)
    ·
     have hc50_ := hc50
     try simp only [sb] at hc50_
     refine r_load (v := .int .i64 size) (gvt hc50) hc4 rfl ?_
     exact ⟨rfl, rfl⟩
    refine WL_some (og_if (s := .bool (((((decide (size = 2)) && (decide ((words.length : Int) = 0))) && (decide ((kids.length : Int) = 0))) && (decide ((bytes.length : Int) ≤ 4096))) || ((((decide (size = 5)) && (decide ((bytes.length : Int) = 0))) && (decide ((kids.length : Int) = 0))) && (decide ((words.length : Int) ≤ 4096))))) (b := false) (v := .bool (decide (size = 6))) rfl (wgb_f _) (fun hc51 => ?_) ?_)
    ·
     have hc51_ := hc51
     try simp only [sb] at hc51_
     refine r_eql (gvt hc51) rfl ?_
     exact ⟨rfl, rfl⟩
    refine WL_some (og_if (s := .bool (((((decide (size = 2)) && (decide ((words.length : Int) = 0))) && (decide ((kids.length : Int) = 0))) && (decide ((bytes.length : Int) ≤ 4096))) || ((((decide (size = 5)) && (decide ((bytes.length : Int) = 0))) && (decide ((kids.length : Int) = 0))) && (decide ((words.length : Int) ≤ 4096))))) (b := false) (v := .bool (decide (size = 6))) rfl (wgb_f _) (fun hc52 => ?_) ?_)
    ·
     have hc52_ := hc52
     try simp only [sb] at hc52_
     refine r_move (v := .bool (decide (size = 6))) (gvt hc52) ?_
     exact ⟨rfl, rfl⟩
    refine WL_some (og_if (s := gv (!(((((decide (size = 2)) && (decide ((words.length : Int) = 0))) && (decide ((kids.length : Int) = 0))) && (decide ((bytes.length : Int) ≤ 4096))) || ((((decide (size = 5)) && (decide ((bytes.length : Int) = 0))) && (decide ((kids.length : Int) = 0))) && (decide ((words.length : Int) ≤ 4096))))) (.bool (decide (size = 6)))) (b := true) (v := .int .i64 (bytes.length : Int)) rfl (wgb_gt _ _) (fun hc53 => ?_) ?_)
    ·
     obtain ⟨hc53a, hc53b⟩ := and_t hc53
     have hc53a_ := hc53a
     try simp only [sb] at hc53a_
     have hc53b_ := of_decide_eq_true hc53b
     refine r_move_int rfl ?_
     exact ⟨rfl, rfl⟩
    refine WL_some (og_if (s := gv (!(((((decide (size = 2)) && (decide ((words.length : Int) = 0))) && (decide ((kids.length : Int) = 0))) && (decide ((bytes.length : Int) ≤ 4096))) || ((((decide (size = 5)) && (decide ((bytes.length : Int) = 0))) && (decide ((kids.length : Int) = 0))) && (decide ((words.length : Int) ≤ 4096))))) (.bool (decide (size = 6)))) (b := true) (v := .bool (decide ((bytes.length : Int) = 0))) rfl (wgb_gt _ _) (fun hc54 => ?_) ?_)
    ·
     obtain ⟨hc54a, hc54b⟩ := and_t hc54
     have hc54a_ := hc54a
     try simp only [sb] at hc54a_
     have hc54b_ := of_decide_eq_true hc54b
     refine r_eql (gvt hc54) rfl ?_
     exact ⟨rfl, rfl⟩
    refine WL_some (og_if (s := .bool (((((decide (size = 2)) && (decide ((words.length : Int) = 0))) && (decide ((kids.length : Int) = 0))) && (decide ((bytes.length : Int) ≤ 4096))) || ((((decide (size = 5)) && (decide ((bytes.length : Int) = 0))) && (decide ((kids.length : Int) = 0))) && (decide ((words.length : Int) ≤ 4096))))) (b := false) (v := .bool ((decide (size = 6)) && (decide ((bytes.length : Int) = 0)))) rfl (wgb_f _) (fun hc55 => ?_) ?_)
    ·
     have hc55_ := hc55
     try simp only [sb] at hc55_
     refine r_and3 hc55 (gvt hc55) rfl rfl ?_
     exact ⟨rfl, rfl⟩
    refine WL_some (og_if (s := .bool (((((decide (size = 2)) && (decide ((words.length : Int) = 0))) && (decide ((kids.length : Int) = 0))) && (decide ((bytes.length : Int) ≤ 4096))) || ((((decide (size = 5)) && (decide ((bytes.length : Int) = 0))) && (decide ((kids.length : Int) = 0))) && (decide ((words.length : Int) ≤ 4096))))) (b := false) (v := .bool ((decide (size = 6)) && (decide ((bytes.length : Int) = 0)))) rfl (wgb_f _) (fun hc56 => ?_) ?_)
    ·
     have hc56_ := hc56
     try simp only [sb] at hc56_
     refine r_move (v := .bool ((decide (size = 6)) && (decide ((bytes.length : Int) = 0)))) (gvt hc56) ?_
     exact ⟨rfl, rfl⟩
    refine WL_some (og_if (s := gv (!(((((decide (size = 2)) && (decide ((words.length : Int) = 0))) && (decide ((kids.length : Int) = 0))) && (decide ((bytes.length : Int) ≤ 4096))) || ((((decide (size = 5)) && (decide ((bytes.length : Int) = 0))) && (decide ((kids.length : Int) = 0))) && (decide ((words.length : Int) ≤ 4096))))) (.bool ((decide (size = 6)) && (decide ((bytes.length : Int) = 0))))) (b := true) (v := .int .i64 (words.length : Int)) rfl (wgb_gt _ _) (fun hc57 => ?_) ?_)
    ·
     obtain ⟨hc57a, hc57b⟩ := and_t hc57
     have hc57a_ := hc57a
     try simp only [sb] at hc57a_
     obtain ⟨hc57ba, hc57bb⟩ := and_t hc57b
     have hc57ba_ := of_decide_eq_true hc57ba
     have hc57bb_ := of_decide_eq_true hc57bb
     refine r_move_int rfl ?_
     exact ⟨rfl, rfl⟩
    refine WL_some (og_if (s := gv (!(((((decide (size = 2)) && (decide ((words.length : Int) = 0))) && (decide ((kids.length : Int) = 0))) && (decide ((bytes.length : Int) ≤ 4096))) || ((((decide (size = 5)) && (decide ((bytes.length : Int) = 0))) && (decide ((kids.length : Int) = 0))) && (decide ((words.length : Int) ≤ 4096))))) (.bool ((decide (size = 6)) && (decide ((bytes.length : Int) = 0))))) (b := true) (v := .bool (decide ((words.length : Int) = 0))) rfl (wgb_gt _ _) (fun hc58 => ?_) ?_)
    ·
     obtain ⟨hc58a, hc58b⟩ := and_t hc58
     have hc58a_ := hc58a
     try simp only [sb] at hc58a_
     obtain ⟨hc58ba, hc58bb⟩ := and_t hc58b
     have hc58ba_ := of_decide_eq_true hc58ba
     have hc58bb_ := of_decide_eq_true hc58bb
     refine r_eql (gvt hc58) rfl ?_
     exact ⟨rfl, rfl⟩
    refine WL_some (og_if (s := .bool (((((decide (size = 2)) && (decide ((words.length : Int) = 0))) && (decide ((kids.length : Int) = 0))) && (decide ((bytes.length : Int) ≤ 4096))) || ((((decide (size = 5)) && (decide ((bytes.length : Int) = 0))) && (decide ((kids.length : Int) = 0))) && (decide ((words.length : Int) ≤ 4096))))) (b := false) (v := .bool (((decide (size = 6)) && (decide ((bytes.length : Int) = 0))) && (decide ((words.length : Int) = 0)))) rfl (wgb_f _) (fun hc59 => ?_) ?_)
    ·
     have hc59_ := hc59
     try simp only [sb] at hc59_
     refine r_and3 hc59 (gvt hc59) rfl rfl ?_
     exact ⟨rfl, rfl⟩
    refine WL_some (og_if (s := .bool (((((decide (size = 2)) && (decide ((words.length : Int) = 0))) && (decide ((kids.length : Int) = 0))) && (decide ((bytes.length : Int) ≤ 4096))) || ((((decide (size = 5)) && (decide ((bytes.length : Int) = 0))) && (decide ((kids.length : Int) = 0))) && (decide ((words.length : Int) ≤ 4096))))) (b := false) (v := .bool (((decide (size = 6)) && (decide ((bytes.length : Int) = 0))) && (decide ((words.length : Int) = 0)))) rfl (wgb_f _) (fun hc60 => ?_) ?_)
    ·
     have hc60_ := hc60
     try simp only [sb] at hc60_
     refine r_move (v := .bool (((decide (size = 6)) && (decide ((bytes.length : Int) = 0))) && (decide ((words.length : Int) = 0)))) (gvt hc60) ?_
     exact ⟨rfl, rfl⟩
    refine WL_some (og_if (s := gv (!(((((decide (size = 2)) && (decide ((words.length : Int) = 0))) && (decide ((kids.length : Int) = 0))) && (decide ((bytes.length : Int) ≤ 4096))) || ((((decide (size = 5)) && (decide ((bytes.length : Int) = 0))) && (decide ((kids.length : Int) = 0))) && (decide ((words.length : Int) ≤ 4096))))) (.bool (((decide (size = 6)) && (decide ((bytes.length : Int) = 0))) && (decide ((words.length : Int) = 0))))) (b := true) (v := .int .i64 (kids.length : Int)) rfl (wgb_gt _ _) (fun hc61 => ?_) ?_)
    ·
     obtain ⟨hc61a, hc61b⟩ := and_t hc61
     have hc61a_ := hc61a
     try simp only [sb] at hc61a_
     obtain ⟨hc61ba, hc61bb⟩ := and_t hc61b
     obtain ⟨hc61baa, hc61bab⟩ := and_t hc61ba
     have hc61baa_ := of_decide_eq_true hc61baa
     have hc61bab_ := of_decide_eq_true hc61bab
     have hc61bb_ := of_decide_eq_true hc61bb
     refine r_move_int rfl ?_
     exact ⟨rfl, rfl⟩
    refine WL_some (og_if (s := gv (!(((((decide (size = 2)) && (decide ((words.length : Int) = 0))) && (decide ((kids.length : Int) = 0))) && (decide ((bytes.length : Int) ≤ 4096))) || ((((decide (size = 5)) && (decide ((bytes.length : Int) = 0))) && (decide ((kids.length : Int) = 0))) && (decide ((words.length : Int) ≤ 4096))))) (.bool (((decide (size = 6)) && (decide ((bytes.length : Int) = 0))) && (decide ((words.length : Int) = 0))))) (b := true) (v := .bool (decide ((kids.length : Int) ≤ 4096))) rfl (wgb_gt _ _) (fun hc62 => ?_) ?_)
    ·
     obtain ⟨hc62a, hc62b⟩ := and_t hc62
     have hc62a_ := hc62a
     try simp only [sb] at hc62a_
     obtain ⟨hc62ba, hc62bb⟩ := and_t hc62b
     obtain ⟨hc62baa, hc62bab⟩ := and_t hc62ba
     have hc62baa_ := of_decide_eq_true hc62baa
     have hc62bab_ := of_decide_eq_true hc62bab
     have hc62bb_ := of_decide_eq_true hc62bb
     refine r_leq (gvt hc62) rfl ?_
     exact ⟨rfl, rfl⟩
    refine WL_some (og_if (s := .bool (((((decide (size = 2)) && (decide ((words.length : Int) = 0))) && (decide ((kids.length : Int) = 0))) && (decide ((bytes.length : Int) ≤ 4096))) || ((((decide (size = 5)) && (decide ((bytes.length : Int) = 0))) && (decide ((kids.length : Int) = 0))) && (decide ((words.length : Int) ≤ 4096))))) (b := false) (v := .bool ((((decide (size = 6)) && (decide ((bytes.length : Int) = 0))) && (decide ((words.length : Int) = 0))) && (decide ((kids.length : Int) ≤ 4096)))) rfl (wgb_f _) (fun hc63 => ?_) ?_)
    ·
     have hc63_ := hc63
     try simp only [sb] at hc63_
     refine r_and3 hc63 (gvt hc63) rfl rfl ?_
     exact ⟨rfl, rfl⟩
    refine stp (r_or2 rfl rfl rfl ?_)
    refine stp (r_assign_bool rfl ?_)
    refine WL_nil ?_
    exact ⟨fr_of ⟨rfl, rfl, rfl, rfl, congrArg Value.bool (by first | exact ownk_two h2 | exact ownk_one h1 h2), trivial⟩, hc4, G⟩
   ·-- false
    replace h2 := of_decide_eq_false h2
    refine W_skip ?_
    exact ⟨fr_of ⟨rfl, rfl, rfl, rfl, congrArg Value.bool (by first | exact ownk_two h2 | exact ownk_one h1 h2), trivial⟩, hc4, G⟩
  ·-- behind them
   clear hc4
   clear G
   rintro e_ w64 ⟨⟨e65, rfl⟩, hc4, G⟩
   refine W_seq ?_
   refine W_seq (W_region rfl ?_)
   refine stp (r_move_bool rfl ?_)
   refine stp (r_not rfl ?_)
   refine stp (r_move_bool rfl ?_)
   refine WL_some (og_if (s := .bool (!((Nd.mk kind size words bytes kids).own))) (b := false) (v := .int .i64 (left : Int)) rfl (wgb_f _) (fun hc66 => ?_) ?_)
   ·
    have hc66_ := hc66
    try simp only [sb] at hc66_
    refine r_move_int rfl ?_
    exact ⟨rfl, rfl⟩
   refine WL_some (og_if (s := .bool (!((Nd.mk kind size words bytes kids).own))) (b := false) (v := .bool (decide ((left : Int) = 0))) rfl (wgb_f _) (fun hc67 => ?_) ?_)
   ·
    have hc67_ := hc67
    try simp only [sb] at hc67_
    refine r_eql (gvt hc67) rfl ?_
    exact ⟨rfl, rfl⟩
   refine stp (r_or2 rfl rfl rfl ?_)
   refine WL_nil ?_
   refine W_cond2 (b := ((!((Nd.mk kind size words bytes kids).own)) || (decide ((left : Int) = 0)))) rfl (fun h4 => ?_) (fun h4 => ?_)
   ·-- true
    simp only [sb] at h4
    refine W_seq (W_region rfl ?_)
    refine stp (r_assign (v := .bool false) rfl ?_)
    refine WL_nil ?_
    refine W_ret ?_
    refine ret1 (res_tmp (v := .bool false) rfl) ⟨?_, G⟩
    rcases h4 with h | h
    ·simp [Nd.right, h]
    ·simp [Nd.right, h1, show left = 0 from by omega]
   ·-- false
    simp only [sb] at h4
    refine W_skip ?_
    refine W_seq ?_
    refine W_seq (W_region rfl ?_)
    refine stp (r_assign_int rfl ?_)
    refine WL_nil ?_
    refine W_block ?_
    refine W_loop (fun m_ e_ w_ => ∃ (k : Nat), m_ = kids.length - k ∧ Fr [(1, .int .i64 (left : Int)), (2, .pointer (some ⟨b1, 0, none⟩)), (7, .int .i64 (kids.length : Int)), (9, .int .i64 (k : Int))] e_ ∧ (k ≤ kids.length) ∧ (Nd.rights (kids.take k) (left - 1) = true) ∧ (w_.heap[b1]? = some (.cells #[.int .i64 kind, .int .i64 size, .slice aw words.length cw, .slice ab bytes.length cb, .slice ak kids.length ck] 37 (0, 0))) ∧ Grow w w_) _ ⟨0, rfl, fr_of ⟨rfl, rfl, rfl, rfl, trivial⟩, by omega, by simp [Nd.rights], hc4, G⟩ ?_
    clear hc4
    clear G
    rintro m_ e_ w68 ⟨k, rfl, ⟨e69, rfl⟩, hk2, hyes, hc4, G⟩
    refine W_seq ?_
    refine W_seq (W_region rfl ?_)
    refine stp (r_move_int rfl ?_)
    refine stp (r_move_int rfl ?_)
    refine stp (r_lss rfl rfl ?_)
    refine WL_nil ?_
    refine W_cond2 (b := (decide ((k : Int) < (kids.length : Int)))) rfl (fun hlt => ?_) (fun hlt => ?_)
    ·-- true
     replace hlt := of_decide_eq_true hlt
     have hi : k < kids.length := by omega
     have hat := KidsR.at_ k kids[k] hKs (by simp [hi])
     have hsz := Nd.szs_at kids k kids[k] (by simp [hi])
     refine W_skip ?_
     refine W_seq ?_
     refine W_block ?_
     refine W_seq (W_region rfl ?_)
     refine stp (r_fieldAddr rfl ?_)
     refine stp (r_load (v := .slice ak kids.length ck) rfl hc4 rfl ?_)
     refine stp (r_move_int rfl ?_)
     refine stp (r_indexN (RK.grow G) rfl rfl ?_ ?_); omega
     refine stp (r_loadNR (RK.grow G) rfl (by decide) (by rw [RK.len]; omega) rfl ?_)
     refine stp (r_move_int rfl ?_)
     refine stp (r_sub rfl rfl ?_ ?_); constructor <;> omega
     refine stp (r_gives (v := .bool (kids[k].right (left - 1))) rfl ((by have h := ih_ _ (hat.grow G) (left := left - 1) (by omega) (by simp only [Nd.sz] at hm_; omega); rw [← show ((left : Int) - 1) = ((left - 1 : Nat) : Int) from by omega] at h; exact h)) ?_)
     intro w70 g71
     replace hc4 := g71.heap hc4
     replace G := G.tr g71
     clear g71
     refine stp (r_not rfl ?_)
     refine WL_nil ?_
     refine W_cond2 (b := (!(kids[k].right (left - 1)))) rfl (fun h7 => ?_) (fun h7 => ?_)
     ·-- true
      simp only [sb] at h7
      refine W_seq (W_region rfl ?_)
      refine stp (r_assign (v := .bool false) rfl ?_)
      refine WL_nil ?_
      refine W_ret ?_
      refine ret1 (res_tmp (v := .bool false) rfl) ⟨?_, G⟩
      have := rights_false hi h7
      simp [Nd.right, this]
     ·-- false
      simp only [sb] at h7
      refine W_skip ?_
      refine W_region rfl ?_
      refine stp (r_move_int rfl ?_)
      refine stp (r_add rfl rfl ?_ ?_); constructor <;> omega
      refine stp (r_assign_int rfl ?_)
      refine WL_nil ?_
      refine ⟨_, ?_, k + 1, rfl, fr_of ⟨rfl, rfl, rfl, rfl, trivial⟩, by omega, (by rw [List.take_add_one, List.getElem?_eq_getElem hi, rights_append, hyes]; simp [Nd.rights, h7]), hc4, G⟩
      omega
    ·-- false
     replace hlt := of_decide_eq_false hlt
     have hk2 : k = kids.length := by omega
     subst hk2
     rw [List.take_length] at hyes
     refine W_exit ?_
     refine W_seq (W_region rfl ?_)
     refine stp (r_assign (v := .bool true) rfl ?_)
     refine WL_nil ?_
     refine W_ret ?_
     refine ret1 (res_tmp (v := .bool true) rfl) ⟨?_, G⟩
     simp [Nd.right, h4, h1, hyes]
     omega

set_option maxRecDepth 100000 in
theorem rRight_calls (w : World) {c : List Value} {t : Nd} (T : NodeR w c t) : Gives Try.prog 35 #[.agg c.toArray] w (.bool (t.right 32)) := by
 have h5 := T.len
 obtain ⟨x0, x1, x2, x3, x4, rfl⟩ := five h5
 have G := Grow.rfl' w
 refine gives_of Try.func35 Try.ntmps35 Try.results35 rfl rfl ?_
 refine W_seq (W_region rfl ?_)
 refine WL_some (og rfl ?_)
 (first | refine r_box_agg rfl ?_ | refine r_box_int rfl ?_ | refine r_box_slice rfl ?_ | refine r_box rfl rfl ?_)
 intro b1 w2 hb3 hc4 g5
 have hge6 := Nat.le_trans G.size hb3
 replace G := G.tr g5
 clear g5 hb3
 refine stp (r_assign (v := .bool false) rfl ?_)
 refine WL_nil ?_
 refine W_seq (W_region rfl ?_)
 refine stp (r_loadAll rfl hc4 (by rfl) ?_)
 refine stp (r_gives (v := .bool (t.right 32)) rfl (deep_calls _ _ (T.grow G) (left := 32) (by omega) (Nat.le_refl _)) ?_)
 intro w7 g8
 replace hc4 := g8.heap hc4
 replace G := G.tr g8
 clear g8
 refine stp (r_assign_bool rfl ?_)
 refine WL_nil ?_
 refine W_ret ?_
 refine ret1 (res_tmp (v := .bool (t.right 32)) rfl) ⟨?_, G⟩
 rfl
end Go.Proofs.Ytfhfecepcnapfaa.K

namespace Go.Proofs.Ytfhfecepcnapfaa.K
open Go Go.RowKit Go.Proofs
attribute [local irreducible] Run1 OpG WL W AO Gives
set_option maxRecDepth 100000 in
theorem rnear_calls (w : World) {c : List Value} {t : Nd} (T : NodeR w c t) (off : Int) (hk12 : t.kind = 1 ∨ t.kind = 2) : Gives Try.prog 57 #[.agg c.toArray, .int .i64 off] w (.int .u64 (t.near off)) := by
 obtain @⟨kind, size, words, bytes, kids, ws, bs, ks, kc, hk, hs, hW, hwr, hB, hbr, hK, hKs⟩ := T
 obtain ⟨aw, cw, rfl, hcw, hcw2, RW⟩ := hW
 obtain ⟨ab, cb, rfl, hcb, hcb2, RB⟩ := hB
 obtain ⟨ak, ck, rfl, hck, hck2, RK⟩ := hK
 have lw := RW.lim
 have lb := RB.lim
 have lk := RK.lim
 simp only [inR] at hk hs
 simp only [Nd.kind] at hk12
 have G := Grow.rfl' w
 refine gives_of Try.func57 Try.ntmps57 Try.results57 rfl rfl ?_
 refine W_seq (W_region rfl ?_)
 refine WL_some (og rfl ?_)
 (first | refine r_box_agg rfl ?_ | refine r_box_int rfl ?_ | refine r_box_slice rfl ?_ | refine r_box rfl rfl ?_)
 intro b1 w2 hb3 hc4 g5
 have hge6 := Nat.le_trans G.size hb3
 replace G := G.tr g5
 clear g5 hb3
 refine WL_some (og rfl ?_)
 (first | refine r_assign_int rfl ?_ | refine r_assign rfl ?_)
 refine WL_nil ?_
 refine W_seq (W_region rfl ?_)
 refine stp (r_fieldAddr rfl ?_)
 refine stp (r_load rfl (by assumption) (by rfl) ?_)
 refine WL_some (og rfl ?_)
 (first | refine r_move_int rfl ?_ | refine r_move rfl ?_)
 refine stp (r_fieldAddr rfl ?_)
 refine stp (r_load rfl (by assumption) (by rfl) ?_)
 refine stp (r_len rfl rfl rfl ?_)
 refine stp (r_fieldAddr rfl ?_)
 refine stp (r_load rfl (by assumption) (by rfl) ?_)
 refine stp (r_len rfl rfl rfl ?_)
 refine stp (r_build (v := .agg #[.int .i64 (kind), .int .i64 (off), .int .i64 ((words.length : Int)), .int .i64 ((kids.length : Int)), .int .i64 (0), .int .i64 (0), .int .i64 (0), .bool false]) (fun w => by kernel_rfl) ?_)
 refine stp (r_alloc ?_)
 intro b7 w8 hb9 hc10 g11
 refine stn (r_storeAll rfl rfl hc10 (by rfl) (by rfl) (by rfl) ?_)
 intro w12 hc13 u14
 have g15 := g11.upd u14 hb9
 have hge16 := Nat.le_trans G.size hb9
 have ne17 := Nat.ne_of_lt (Nat.lt_of_lt_of_le (lt_of_heap hc4) hb9)
 replace hc4 := g15.heap hc4
 replace G := G.tr g15
 clear u14 g11 hb9 hc10
 refine WL_nil ?_
 refine W_seq ?_
 refine W_seq (W_region rfl ?_)
 refine stp (r_fieldAddr rfl ?_)
 refine stp (r_load rfl (by assumption) (by rfl) ?_)
 refine WL_some (og rfl ?_)
 (first | (refine r_eql_t rfl rfl ?_ ?_; (first | assumption | omega)) | (refine r_eql_f rfl rfl ?_ ?_; (first | assumption | omega)) | refine r_eql rfl rfl ?_)
 refine WL_nil ?_
 refine W_cond2 rfl (fun k2 => ?_) (fun k2 => ?_)
 ·-- true
  first | (replace k2 := of_decide_eq_true k2) | (replace k2 := of_decide_eq_false k2) | skip
  refine W_region rfl ?_
  refine WL_some (og rfl ?_)
  (first | refine r_move_int rfl ?_ | refine r_move rfl ?_)
  refine stp (r_fieldAddr rfl ?_)
  refine stp (r_load rfl (by assumption) (by rfl) ?_)
  refine stp (r_fieldAddr rfl ?_)
  refine stp (r_load rfl (by assumption) (by rfl) ?_)
  refine stp (r_len rfl rfl rfl ?_)
  refine stp (r_fieldAddr rfl ?_)
  refine stp (r_load rfl (by assumption) (by rfl) ?_)
  refine stp (r_len rfl rfl rfl ?_)
  refine WL_some (og rfl ?_)
  (first | (refine r_add rfl rfl ?_ ?_; (constructor <;> omega)) | refine r_addw rfl rfl ?_)
  refine stp (r_fieldAddr rfl ?_)
  refine stp (r_load rfl (by assumption) (by rfl) ?_)
  refine stp (r_len rfl rfl rfl ?_)
  refine WL_some (og rfl ?_)
  (first | (refine r_add rfl rfl ?_ ?_; (constructor <;> omega)) | refine r_addw rfl rfl ?_)
  refine stp (r_build (v := .agg #[.int .i64 (2), .int .i64 (off), .int .i64 (0), .int .i64 (0), .int .i64 (size), .int .i64 (((words.length : Int) + kids.length + bytes.length)), .int .i64 (0), .bool false]) (fun w => by kernel_rfl) ?_)
  refine stn (r_storeAll rfl rfl hc13 (by rfl) (by rfl) (by rfl) ?_)
  intro w21 hc22 u23
  replace hc4 := u23.heap hc4 ne17
  replace G := G.upd u23 hge16
  clear u23 hc13
  refine WL_nil ?_
  refine W_seq (W_region rfl ?_)
  refine WL_some (og rfl ?_)
  (first | refine r_loadAll rfl (by assumption) (by rfl) ?_ | refine r_loadN rfl (by assumption) (by rfl) (by rfl) ?_)
  refine stp (r_gives rfl (rencode_calls _ ⟨2, off, 0, 0, size, ((words.length : Int) + kids.length + bytes.length), 0, false⟩) ?_)
  intro w24 g25
  replace hc4 := g25.heap hc4
  replace hc22 := g25.heap hc22
  replace G := G.tr g25
  clear g25
  refine WL_some (og rfl ?_)
  (first | refine r_move_tuple rfl ?_ | refine r_move rfl ?_)
  refine stp (r_extract rfl rfl ?_)
  refine stp (r_extract rfl rfl ?_)
  refine WL_some (og rfl ?_)
  (first | refine r_assign_int rfl ?_ | refine r_assign rfl ?_)
  refine WL_some (og rfl ?_)
  (first | refine r_assign_int rfl ?_ | refine r_assign rfl ?_)
  refine WL_nil ?_
  refine W_seq (W_region rfl ?_)
  refine WL_some (og rfl ?_)
  (first | refine r_move_int rfl ?_ | refine r_move rfl ?_)
  refine WL_some (og rfl ?_)
  (first | refine r_assign_int rfl ?_ | refine r_assign rfl ?_)
  refine WL_nil ?_
  refine W_ret ?_
  refine ret1 (res_int rfl) ⟨?_, G⟩
  subst k2
  simp [Nd.near, Nd.ptr]
 ·-- false
  first | (replace k2 := of_decide_eq_true k2) | (replace k2 := of_decide_eq_false k2) | skip
  have k1 : kind = 1 := by omega
  refine W_skip ?_
  refine W_seq (W_region rfl ?_)
  refine WL_some (og rfl ?_)
  (first | refine r_loadAll rfl (by assumption) (by rfl) ?_ | refine r_loadN rfl (by assumption) (by rfl) (by rfl) ?_)
  refine stp (r_gives rfl (rencode_calls _ ⟨kind, off, (words.length : Int), (kids.length : Int), 0, 0, 0, false⟩) ?_)
  intro w26 g27
  replace hc4 := g27.heap hc4
  replace hc13 := g27.heap hc13
  replace G := G.tr g27
  clear g27
  refine WL_some (og rfl ?_)
  (first | refine r_move_tuple rfl ?_ | refine r_move rfl ?_)
  refine stp (r_extract rfl rfl ?_)
  refine stp (r_extract rfl rfl ?_)
  refine WL_some (og rfl ?_)
  (first | refine r_assign_int rfl ?_ | refine r_assign rfl ?_)
  refine WL_some (og rfl ?_)
  (first | refine r_assign_int rfl ?_ | refine r_assign rfl ?_)
  refine WL_nil ?_
  refine W_seq (W_region rfl ?_)
  refine WL_some (og rfl ?_)
  (first | refine r_move_int rfl ?_ | refine r_move rfl ?_)
  refine WL_some (og rfl ?_)
  (first | refine r_assign_int rfl ?_ | refine r_assign rfl ?_)
  refine WL_nil ?_
  refine W_ret ?_
  refine ret1 (res_int rfl) ⟨?_, G⟩
  simp [Nd.near, Nd.ptr, k1]

set_option maxRecDepth 100000 in
theorem rfar_calls (w : World) (seg at_ : Int) : Gives Try.prog 59 #[.int .i64 seg, .int .i64 at_] w (.int .u64 (farP seg at_)) := by
 have G := Grow.rfl' w
 refine gives_of Try.func59 Try.ntmps59 Try.results59 rfl rfl ?_
 refine W_seq (W_region rfl ?_)
 refine WL_some (og rfl ?_)
 (first | refine r_assign_int rfl ?_ | refine r_assign rfl ?_)
 refine WL_nil ?_
 refine W_seq (W_region rfl ?_)
 refine WL_some (og rfl ?_)
 (first | refine r_move_int rfl ?_ | refine r_move rfl ?_)
 refine WL_some (og rfl ?_)
 (first | refine r_move_int rfl ?_ | refine r_move rfl ?_)
 refine stp (r_build (v := .agg #[.int .i64 (3), .int .i64 (at_), .int .i64 (0), .int .i64 (0), .int .i64 (0), .int .i64 (0), .int .i64 (seg), .bool false]) (fun w => by kernel_rfl) ?_)
 refine stp (r_gives rfl (rencode_calls _ ⟨3, at_, 0, 0, 0, 0, seg, false⟩) ?_)
 intro w1 g2
 replace G := G.tr g2
 clear g2
 refine WL_some (og rfl ?_)
 (first | refine r_move_tuple rfl ?_ | refine r_move rfl ?_)
 refine stp (r_extract rfl rfl ?_)
 refine stp (r_extract rfl rfl ?_)
 refine WL_some (og rfl ?_)
 (first | refine r_assign_int rfl ?_ | refine r_assign rfl ?_)
 refine WL_some (og rfl ?_)
 (first | refine r_assign_int rfl ?_ | refine r_assign rfl ?_)
 refine WL_nil ?_
 refine W_seq (W_region rfl ?_)
 refine WL_some (og rfl ?_)
 (first | refine r_move_int rfl ?_ | refine r_move rfl ?_)
 refine WL_some (og rfl ?_)
 (first | refine r_assign_int rfl ?_ | refine r_assign rfl ?_)
 refine WL_nil ?_
 refine W_ret ?_
 exact ret1 (res_int rfl) ⟨rfl, G⟩
end Go.Proofs.Ytfhfecepcnapfaa.K

namespace Go.Proofs.Ytfhfecepcnapfaa.K
open Go Go.RowKit Go.Proofs
attribute [local irreducible] Run1 OpG WL W AO Gives
set_option maxRecDepth 100000 in
theorem add_calls (w : World) (a b : Int) (h0 : 0 ≤ a) (h1 : a ≤ 4096) (h2 : 0 ≤ b) (h3 : b ≤ 140737488355328) : Gives Try.prog 85 #[.int .i64 a, .int .i64 b, .int .i64 4096] w (.tuple #[.int .i64 (if a + b ≤ 4096 then a + b else 0), .bool (decide (a + b ≤ 4096))]) := by
 have G := Grow.rfl' w
 refine gives_of Try.func85 Try.ntmps85 Try.results85 rfl rfl ?_
 by_cases hab : a ≤ b
 ·
  by_cases hs : a + b ≤ 4096
  ·
   refine W_seq (W_region rfl ?_)
   refine WL_some (og rfl ?_)
   (first | refine r_assign_int rfl ?_ | refine r_assign rfl ?_)
   refine WL_some (og rfl ?_)
   (first | refine r_assign_bool rfl ?_ | refine r_assign rfl ?_)
   refine WL_nil ?_
   refine W_seq ?_
   refine W_seq (W_region rfl ?_)
   refine WL_some (og rfl ?_)
   (first | refine r_move_int rfl ?_ | refine r_move rfl ?_)
   refine WL_some (og rfl ?_)
   (first | refine r_move_int rfl ?_ | refine r_move rfl ?_)
   refine WL_some (og rfl ?_)
   (first | (refine r_min_l rfl rfl rfl ?_ ?_; omega) | (refine r_min_r rfl rfl rfl ?_ ?_; omega) | refine r_min rfl rfl rfl ?_)
   refine WL_some (og rfl ?_)
   (first | (refine r_lss_t rfl rfl ?_ ?_; (first | assumption | omega)) | (refine r_lss_f rfl rfl ?_ ?_; (first | assumption | omega)) | refine r_lss rfl rfl ?_)
   refine WL_some (og rfl ?_)
   (first | refine r_move_bool rfl ?_ | refine r_move rfl ?_)
   refine WL_some (og rfl ?_)
   (first | refine r_move_int rfl ?_ | refine r_move rfl ?_)
   refine WL_some (og rfl ?_)
   (first | refine r_move_int rfl ?_ | refine r_move rfl ?_)
   refine WL_some (og rfl ?_)
   (first | (refine r_gtr_t rfl rfl ?_ ?_; (first | assumption | omega)) | (refine r_gtr_f rfl rfl ?_ ?_; (first | assumption | omega)) | refine r_gtr rfl rfl ?_)
   refine stp (r_pick_f rfl rfl rfl ?_)
   refine WL_some (og rfl ?_)
   (first | refine r_move_bool rfl ?_ | refine r_move rfl ?_)
   refine WL_some (og rfl ?_)
   (first | refine r_move_int rfl ?_ | refine r_move rfl ?_)
   refine WL_some (og rfl ?_)
   (first | refine r_move_int rfl ?_ | refine r_move rfl ?_)
   refine WL_some (og rfl ?_)
   (first | refine r_move_int rfl ?_ | refine r_move rfl ?_)
   refine WL_some (og rfl ?_)
   (first | (refine r_sub rfl rfl ?_ ?_; (constructor <;> omega)) | refine r_subw rfl rfl ?_)
   refine WL_some (og rfl ?_)
   (first | (refine r_gtr_t rfl rfl ?_ ?_; (first | assumption | omega)) | (refine r_gtr_f rfl rfl ?_ ?_; (first | assumption | omega)) | refine r_gtr rfl rfl ?_)
   refine stp (r_pick_f rfl rfl rfl ?_)
   refine WL_nil ?_
   refine W_false rfl ?_
   refine W_skip ?_
   refine W_seq (W_region rfl ?_)
   refine WL_some (og rfl ?_)
   (first | refine r_move_int rfl ?_ | refine r_move rfl ?_)
   refine WL_some (og rfl ?_)
   (first | refine r_move_int rfl ?_ | refine r_move rfl ?_)
   refine WL_some (og rfl ?_)
   (first | (refine r_add rfl rfl ?_ ?_; (constructor <;> omega)) | refine r_addw rfl rfl ?_)
   refine WL_some (og rfl ?_)
   (first | refine r_assign_int rfl ?_ | refine r_assign rfl ?_)
   refine WL_some (og rfl ?_)
   (first | refine r_assign_bool rfl ?_ | refine r_assign rfl ?_)
   refine WL_nil ?_
   refine W_ret ?_
   refine ret2 (res_int rfl) (res_bool rfl) ⟨?_, G⟩
   simp [hs]
  ·
   refine W_seq (W_region rfl ?_)
   refine WL_some (og rfl ?_)
   (first | refine r_assign_int rfl ?_ | refine r_assign rfl ?_)
   refine WL_some (og rfl ?_)
   (first | refine r_assign_bool rfl ?_ | refine r_assign rfl ?_)
   refine WL_nil ?_
   refine W_seq ?_
   refine W_seq (W_region rfl ?_)
   refine WL_some (og rfl ?_)
   (first | refine r_move_int rfl ?_ | refine r_move rfl ?_)
   refine WL_some (og rfl ?_)
   (first | refine r_move_int rfl ?_ | refine r_move rfl ?_)
   refine WL_some (og rfl ?_)
   (first | (refine r_min_l rfl rfl rfl ?_ ?_; omega) | (refine r_min_r rfl rfl rfl ?_ ?_; omega) | refine r_min rfl rfl rfl ?_)
   refine WL_some (og rfl ?_)
   (first | (refine r_lss_t rfl rfl ?_ ?_; (first | assumption | omega)) | (refine r_lss_f rfl rfl ?_ ?_; (first | assumption | omega)) | refine r_lss rfl rfl ?_)
   refine WL_some (og rfl ?_)
   (first | refine r_move_bool rfl ?_ | refine r_move rfl ?_)
   refine WL_some (og rfl ?_)
   (first | refine r_move_int rfl ?_ | refine r_move rfl ?_)
   refine WL_some (og rfl ?_)
   (first | refine r_move_int rfl ?_ | refine r_move rfl ?_)
   refine WL_some (og rfl ?_)
   (first | (refine r_gtr_t rfl rfl ?_ ?_; (first | assumption | omega)) | (refine r_gtr_f rfl rfl ?_ ?_; (first | assumption | omega)) | refine r_gtr rfl rfl ?_)
   refine stp (r_pick_f rfl rfl rfl ?_)
   refine WL_some (og rfl ?_)
   (first | refine r_move_bool rfl ?_ | refine r_move rfl ?_)
   refine WL_some (og rfl ?_)
   (first | refine r_move_int rfl ?_ | refine r_move rfl ?_)
   refine WL_some (og rfl ?_)
   (first | refine r_move_int rfl ?_ | refine r_move rfl ?_)
   refine WL_some (og rfl ?_)
   (first | refine r_move_int rfl ?_ | refine r_move rfl ?_)
   refine WL_some (og rfl ?_)
   (first | (refine r_sub rfl rfl ?_ ?_; (constructor <;> omega)) | refine r_subw rfl rfl ?_)
   refine WL_some (og rfl ?_)
   (first | (refine r_gtr_t rfl rfl ?_ ?_; (first | assumption | omega)) | (refine r_gtr_f rfl rfl ?_ ?_; (first | assumption | omega)) | refine r_gtr rfl rfl ?_)
   refine stp (r_pick_f rfl rfl rfl ?_)
   refine WL_nil ?_
   refine W_true rfl ?_
   refine W_seq (W_region rfl ?_)
   refine WL_some (og rfl ?_)
   (first | refine r_assign_int rfl ?_ | refine r_assign rfl ?_)
   refine WL_some (og rfl ?_)
   (first | refine r_assign_bool rfl ?_ | refine r_assign rfl ?_)
   refine WL_nil ?_
   refine W_ret ?_
   refine ret2 (res_int rfl) (res_bool rfl) ⟨?_, G⟩
   simp [hs]
 ·
  by_cases hs : a + b ≤ 4096
  ·
   refine W_seq (W_region rfl ?_)
   refine WL_some (og rfl ?_)
   (first | refine r_assign_int rfl ?_ | refine r_assign rfl ?_)
   refine WL_some (og rfl ?_)
   (first | refine r_assign_bool rfl ?_ | refine r_assign rfl ?_)
   refine WL_nil ?_
   refine W_seq ?_
   refine W_seq (W_region rfl ?_)
   refine WL_some (og rfl ?_)
   (first | refine r_move_int rfl ?_ | refine r_move rfl ?_)
   refine WL_some (og rfl ?_)
   (first | refine r_move_int rfl ?_ | refine r_move rfl ?_)
   refine WL_some (og rfl ?_)
   (first | (refine r_min_l rfl rfl rfl ?_ ?_; omega) | (refine r_min_r rfl rfl rfl ?_ ?_; omega) | refine r_min rfl rfl rfl ?_)
   refine WL_some (og rfl ?_)
   (first | (refine r_lss_t rfl rfl ?_ ?_; (first | assumption | omega)) | (refine r_lss_f rfl rfl ?_ ?_; (first | assumption | omega)) | refine r_lss rfl rfl ?_)
   refine WL_some (og rfl ?_)
   (first | refine r_move_bool rfl ?_ | refine r_move rfl ?_)
   refine WL_some (og rfl ?_)
   (first | refine r_move_int rfl ?_ | refine r_move rfl ?_)
   refine WL_some (og rfl ?_)
   (first | refine r_move_int rfl ?_ | refine r_move rfl ?_)
   refine WL_some (og rfl ?_)
   (first | (refine r_gtr_t rfl rfl ?_ ?_; (first | assumption | omega)) | (refine r_gtr_f rfl rfl ?_ ?_; (first | assumption | omega)) | refine r_gtr rfl rfl ?_)
   refine stp (r_pick_f rfl rfl rfl ?_)
   refine WL_some (og rfl ?_)
   (first | refine r_move_bool rfl ?_ | refine r_move rfl ?_)
   refine WL_some (og rfl ?_)
   (first | refine r_move_int rfl ?_ | refine r_move rfl ?_)
   refine WL_some (og rfl ?_)
   (first | refine r_move_int rfl ?_ | refine r_move rfl ?_)
   refine WL_some (og rfl ?_)
   (first | refine r_move_int rfl ?_ | refine r_move rfl ?_)
   refine WL_some (og rfl ?_)
   (first | (refine r_sub rfl rfl ?_ ?_; (constructor <;> omega)) | refine r_subw rfl rfl ?_)
   refine WL_some (og rfl ?_)
   (first | (refine r_gtr_t rfl rfl ?_ ?_; (first | assumption | omega)) | (refine r_gtr_f rfl rfl ?_ ?_; (first | assumption | omega)) | refine r_gtr rfl rfl ?_)
   refine stp (r_pick_f rfl rfl rfl ?_)
   refine WL_nil ?_
   refine W_false rfl ?_
   refine W_skip ?_
   refine W_seq (W_region rfl ?_)
   refine WL_some (og rfl ?_)
   (first | refine r_move_int rfl ?_ | refine r_move rfl ?_)
   refine WL_some (og rfl ?_)
   (first | refine r_move_int rfl ?_ | refine r_move rfl ?_)
   refine WL_some (og rfl ?_)
   (first | (refine r_add rfl rfl ?_ ?_; (constructor <;> omega)) | refine r_addw rfl rfl ?_)
   refine WL_some (og rfl ?_)
   (first | refine r_assign_int rfl ?_ | refine r_assign rfl ?_)
   refine WL_some (og rfl ?_)
   (first | refine r_assign_bool rfl ?_ | refine r_assign rfl ?_)
   refine WL_nil ?_
   refine W_ret ?_
   refine ret2 (res_int rfl) (res_bool rfl) ⟨?_, G⟩
   simp [hs]
  ·
   refine W_seq (W_region rfl ?_)
   refine WL_some (og rfl ?_)
   (first | refine r_assign_int rfl ?_ | refine r_assign rfl ?_)
   refine WL_some (og rfl ?_)
   (first | refine r_assign_bool rfl ?_ | refine r_assign rfl ?_)
   refine WL_nil ?_
   refine W_seq ?_
   refine W_seq (W_region rfl ?_)
   refine WL_some (og rfl ?_)
   (first | refine r_move_int rfl ?_ | refine r_move rfl ?_)
   refine WL_some (og rfl ?_)
   (first | refine r_move_int rfl ?_ | refine r_move rfl ?_)
   refine WL_some (og rfl ?_)
   (first | (refine r_min_l rfl rfl rfl ?_ ?_; omega) | (refine r_min_r rfl rfl rfl ?_ ?_; omega) | refine r_min rfl rfl rfl ?_)
   refine WL_some (og rfl ?_)
   (first | (refine r_lss_t rfl rfl ?_ ?_; (first | assumption | omega)) | (refine r_lss_f rfl rfl ?_ ?_; (first | assumption | omega)) | refine r_lss rfl rfl ?_)
   refine WL_some (og rfl ?_)
   (first | refine r_move_bool rfl ?_ | refine r_move rfl ?_)
   refine WL_some (og rfl ?_)
   (first | refine r_move_int rfl ?_ | refine r_move rfl ?_)
   refine WL_some (og rfl ?_)
   (first | refine r_move_int rfl ?_ | refine r_move rfl ?_)
   refine WL_some (og rfl ?_)
   (first | (refine r_gtr_t rfl rfl ?_ ?_; (first | assumption | omega)) | (refine r_gtr_f rfl rfl ?_ ?_; (first | assumption | omega)) | refine r_gtr rfl rfl ?_)
   refine stp (r_pick_f rfl rfl rfl ?_)
   refine WL_some (og rfl ?_)
   (first | refine r_move_bool rfl ?_ | refine r_move rfl ?_)
   refine WL_some (og rfl ?_)
   (first | refine r_move_int rfl ?_ | refine r_move rfl ?_)
   refine WL_some (og rfl ?_)
   (first | refine r_move_int rfl ?_ | refine r_move rfl ?_)
   refine WL_some (og rfl ?_)
   (first | refine r_move_int rfl ?_ | refine r_move rfl ?_)
   refine WL_some (og rfl ?_)
   (first | (refine r_sub rfl rfl ?_ ?_; (constructor <;> omega)) | refine r_subw rfl rfl ?_)
   refine WL_some (og rfl ?_)
   (first | (refine r_gtr_t rfl rfl ?_ ?_; (first | assumption | omega)) | (refine r_gtr_f rfl rfl ?_ ?_; (first | assumption | omega)) | refine r_gtr rfl rfl ?_)
   refine stp (r_pick_f rfl rfl rfl ?_)
   refine WL_nil ?_
   refine W_true rfl ?_
   refine W_seq (W_region rfl ?_)
   refine WL_some (og rfl ?_)
   (first | refine r_assign_int rfl ?_ | refine r_assign rfl ?_)
   refine WL_some (og rfl ?_)
   (first | refine r_assign_bool rfl ?_ | refine r_assign rfl ?_)
   refine WL_nil ?_
   refine W_ret ?_
   refine ret2 (res_int rfl) (res_bool rfl) ⟨?_, G⟩
   simp [hs]

set_option maxRecDepth 100000 in
theorem awords_calls (w : World) {ad : Option Addr} {n c : Nat} {segs : List Value} {A : List (List Int)} (R : RowAt w 1 ad n segs) (hA : A.length = n) (hs : ∀ (i : Nat) (s : List Int), A[i]? = some s → ∃ v, segs[i]? = some v ∧ Row w 1 v s.length (wordsV s)) (hn : n ≤ 1000) (hm : ∀ s ∈ A, s.length ≤ 100000) : Gives Try.prog 83 #[.slice ad n c] w (.int .i64 (totalP A)) := by
 have G := Grow.rfl' w
 refine gives_of Try.func83 Try.ntmps83 Try.results83 rfl rfl ?_
 refine W_seq (W_region rfl ?_)
 refine WL_some (og rfl ?_)
 (first | refine r_assign_int rfl ?_ | refine r_assign rfl ?_)
 refine WL_nil ?_
 refine W_seq (W_region rfl ?_)
 refine WL_some (og rfl ?_)
 (first | refine r_assign_int rfl ?_ | refine r_assign rfl ?_)
 refine WL_nil ?_
 refine W_seq ?_
 refine W_seq (W_region rfl ?_)
 refine WL_some (og rfl ?_)
 (first | refine r_assign_int rfl ?_ | refine r_assign rfl ?_)
 refine WL_nil ?_
 refine W_block ?_
 refine W_loop (fun m_ e_ w_ => ∃ (k : Nat), m_ = n - k ∧ Fr [(0, .slice ad n c), (3, .int .i64 (totalP (A.take k))), (4, .int .i64 (k : Int))] e_ ∧ (k ≤ n) ∧ Grow w w_) _ ⟨0, rfl, fr_of ⟨rfl, rfl, rfl, trivial⟩, by omega, G⟩ ?_
 clear G
 rintro m_ e_ w1 ⟨k, rfl, ⟨e2, rfl⟩, hk, G⟩
 refine W_seq ?_
 refine W_seq (W_region rfl ?_)
 refine WL_some (og rfl ?_)
 (first | refine r_move_int rfl ?_ | refine r_move rfl ?_)
 refine WL_some (og rfl ?_)
 (first | refine r_move_slice rfl ?_ | refine r_move rfl ?_)
 refine stp (r_len rfl rfl rfl ?_)
 refine WL_some (og rfl ?_)
 (first | (refine r_lss_t rfl rfl ?_ ?_; (first | assumption | omega)) | (refine r_lss_f rfl rfl ?_ ?_; (first | assumption | omega)) | refine r_lss rfl rfl ?_)
 refine WL_nil ?_
 refine W_cond2 rfl (fun hlt => ?_) (fun hlt => ?_)
 ·-- true
  first | (replace hlt := of_decide_eq_true hlt) | (replace hlt := of_decide_eq_false hlt) | skip
  have hi : k < A.length := by omega
  obtain ⟨v, hv, ad2, c2, rfl, hc1, hc2, R2⟩ := hs k A[k] (List.getElem?_eq_getElem hi)
  obtain ⟨b_, o_, cs_, T_, fr_, rfl, hb_, hx_⟩ := (R.grow G).at_ (by omega)
  have ht := totalP_take hi
  have hb1 := totalP_bound (A := A.take k) (fun s h => hm s (List.mem_of_mem_take h))
  have hlk : (A.take k).length ≤ 1000 := by rw [List.length_take]; omega
  have hmk := hm A[k] (List.getElem_mem hi)
  refine W_skip ?_
  refine W_seq ?_
  refine W_block ?_
  refine W_region rfl ?_
  refine WL_some (og rfl ?_)
  (first | refine r_move_int rfl ?_ | refine r_move rfl ?_)
  refine WL_some (og rfl ?_)
  (first | refine r_move_slice rfl ?_ | refine r_move rfl ?_)
  refine WL_some (og rfl ?_)
  (first | refine r_move_int rfl ?_ | refine r_move rfl ?_)
  refine WL_some (og rfl ?_)
  (refine r_indexAddr rfl rfl ?_ ?_ ?_; omega; omega)
  refine stp (r_load (v := .slice ad2 A[k].length c2) rfl hb_ (by rw [Int.toNat_natCast, Nat.mul_one]; exact row_cell hx_ hv) ?_)
  refine stp (r_len rfl rfl rfl ?_)
  refine WL_some (og rfl ?_)
  (first | (refine r_add rfl rfl ?_ ?_; (constructor <;> omega)) | refine r_addw rfl rfl ?_)
  refine WL_some (og rfl ?_)
  (first | refine r_assign_int rfl ?_ | refine r_assign rfl ?_)
  refine WL_nil ?_
  refine W_region rfl ?_
  refine WL_some (og rfl ?_)
  (first | refine r_move_int rfl ?_ | refine r_move rfl ?_)
  refine WL_some (og rfl ?_)
  (first | (refine r_add rfl rfl ?_ ?_; (constructor <;> omega)) | refine r_addw rfl rfl ?_)
  refine WL_some (og rfl ?_)
  (first | refine r_assign_int rfl ?_ | refine r_assign rfl ?_)
  refine WL_nil ?_
  refine ⟨_, ?_, k + 1, rfl, fr_of ⟨rfl, congrArg (Value.int .i64) ht.symm, rfl, trivial⟩, by omega, G⟩
  omega
 ·-- false
  first | (replace hlt := of_decide_eq_true hlt) | (replace hlt := of_decide_eq_false hlt) | skip
  have hk2 : k = A.length := by omega
  subst hk2
  refine W_exit ?_
  refine W_seq (W_region rfl ?_)
  refine WL_some (og rfl ?_)
  (first | refine r_move_int rfl ?_ | refine r_move rfl ?_)
  refine WL_some (og rfl ?_)
  (first | refine r_assign_int rfl ?_ | refine r_assign rfl ?_)
  refine WL_nil ?_
  refine W_ret ?_
  refine ret1 (res_int rfl) ⟨?_, G⟩
  rw [List.take_length]

set_option maxRecDepth 100000 in
theorem sizes_calls (w : World) {ad : Option Addr} {n c : Nat} {segs : List Value} {A : List (List Int)} (R : RowAt w 1 ad n segs) (hA : A.length = n) (hs : ∀ (i : Nat) (s : List Int), A[i]? = some s → ∃ v, segs[i]? = some v ∧ Row w 1 v s.length (wordsV s)) (hn : n ≤ 1000) : Calls Try.prog 62 #[.slice ad n c] w (Ret fun v w' => w'.ownsRow w.heap.size 3 1 v n (A.map fun s => .int .i64 (s.length : Int)) ∧ Grow w w') := by
 have G := Grow.rfl' w
 refine calls_ret Try.func62 Try.ntmps62 Try.results62 rfl rfl ?_
 refine W_seq (W_region rfl ?_)
 refine WL_some (og rfl ?_)
 (first | refine r_assign_slice rfl ?_ | refine r_assign rfl ?_)
 refine WL_nil ?_
 refine W_seq (W_region rfl ?_)
 refine WL_some (og rfl ?_)
 (first | refine r_assign_slice rfl ?_ | refine r_assign rfl ?_)
 refine WL_nil ?_
 refine W_seq ?_
 refine W_seq (W_region rfl ?_)
 refine WL_some (og rfl ?_)
 (first | refine r_move_slice rfl ?_ | refine r_move rfl ?_)
 refine stp (r_len rfl rfl rfl ?_)
 refine WL_some (og rfl ?_)
 (first | refine r_move_int rfl ?_ | refine r_move rfl ?_)
 refine WL_nil ?_
 refine W_block ?_
 refine W_loop (fun m_ e_ w_ => ∃ (k : Nat) (v : Value), m_ = n - k ∧ Fr [(3, v), (6, .slice ad n c), (7, .int .i64 (n : Int)), (8, .int .i64 (k : Int))] e_ ∧ (k ≤ n) ∧ (w_.ownsRow w.heap.size 3 1 v k ((A.take k).map fun s => .int .i64 (s.length : Int))) ∧ Grow w w_) _ ⟨0, .slice none 0 0, rfl, fr_of ⟨rfl, rfl, rfl, rfl, trivial⟩, by omega, World.ownsRow_nil _ _ _ _, G⟩ ?_
 clear G
 rintro m_ e_ w1 ⟨k, v, rfl, ⟨e2, rfl⟩, hk, own, G⟩
 refine W_seq (W_region rfl ?_)
 refine WL_some (og rfl ?_)
 (first | (refine r_lss_t rfl rfl ?_ ?_; (first | assumption | omega)) | (refine r_lss_f rfl rfl ?_ ?_; (first | assumption | omega)) | refine r_lss rfl rfl ?_)
 refine WL_nil ?_
 refine W_seq ?_
 refine W_cond2 rfl (fun hlt => ?_) (fun hlt => ?_)
 ·-- true
  first | (replace hlt := of_decide_eq_true hlt) | (replace hlt := of_decide_eq_false hlt) | skip
  have hi : k < A.length := by omega
  obtain ⟨v2, hv2, ad2, c2, rfl, hc1, hc2, R2⟩ := hs k A[k] (List.getElem?_eq_getElem hi)
  obtain ⟨b_, o_, cs_, T_, fr_, rfl, hb_, hx_⟩ := (R.grow G).at_ (by omega)
  refine W_skip ?_
  refine W_seq ?_
  refine W_block ?_
  refine W_seq (W_region rfl ?_)
  refine WL_some (og rfl ?_)
  (refine r_indexAddr rfl rfl ?_ ?_ ?_; omega; omega)
  refine stp (r_load (v := .slice ad2 A[k].length c2) rfl hb_ (by rw [Int.toNat_natCast, Nat.mul_one]; exact row_cell hx_ hv2) ?_)
  refine WL_some (og rfl ?_)
  (first | refine r_assign_slice rfl ?_ | refine r_assign rfl ?_)
  refine WL_nil ?_
  refine W_region rfl ?_
  refine WL_some (og rfl ?_)
  (first | refine r_move_slice rfl ?_ | refine r_move rfl ?_)
  refine WL_some (og rfl ?_)
  (first | refine r_move_slice rfl ?_ | refine r_move rfl ?_)
  refine stp (r_len rfl rfl rfl ?_)
  refine stp (r_buildSlice (cs := #[.int .i64 (A[k].length : Int)]) (el := 3) (fun w => by kernel_rfl) ?_)
  intro bs w5 hbs hcs g5
  replace own := own_grow own g5
  replace hb_ := g5.heap hb_
  replace G := G.tr g5
  refine stp (r_append rfl rfl rfl rfl own (Row.of_block (n := 1) hcs rfl rfl (by omega)) (fun q_ hq_ => by simp at hq_; subst hq_; rfl) (by simp only [maxLen]; omega) (by omega) G.size ?_)
  intro v6 w6 own6 gr6
  replace G := G.grown gr6 (own_ge own)
  refine WL_some (og rfl ?_)
  (first | refine r_assign_slice rfl ?_ | refine r_assign rfl ?_)
  refine WL_nil ?_
  refine W_region rfl ?_
  refine WL_some (og rfl ?_)
  (first | (refine r_add rfl rfl ?_ ?_; (constructor <;> omega)) | refine r_addw rfl rfl ?_)
  refine WL_some (og rfl ?_)
  (first | refine r_move_int rfl ?_ | refine r_move rfl ?_)
  refine WL_nil ?_
  refine ⟨_, ?_, k + 1, v6, rfl, fr_of ⟨rfl, rfl, rfl, rfl, trivial⟩, by omega, (by rw [List.take_add_one, List.getElem?_eq_getElem hi, List.map_append]; exact own6), G⟩
  omega
 ·-- false
  first | (replace hlt := of_decide_eq_true hlt) | (replace hlt := of_decide_eq_false hlt) | skip
  have hk2 : k = n := by omega
  subst hk2
  refine W_exit ?_
  refine W_seq (W_region rfl ?_)
  refine WL_some (og rfl ?_)
  (first | refine r_move_slice rfl ?_ | refine r_move rfl ?_)
  refine WL_some (og rfl ?_)
  (first | refine r_assign_slice rfl ?_ | refine r_assign rfl ?_)
  refine WL_nil ?_
  refine W_ret ?_
  rw [List.take_of_length_le (by omega)] at own
  exact ret1 (res_tmp rfl) ⟨own, G⟩

set_option maxRecDepth 100000 in
theorem fits_calls (w : World) {ad : Option Addr} {n c : Nat} {A : List (List Int)} (R : RowAt w 1 ad n (A.map fun s => .int .i64 (s.length : Int))) (hA : A.length = n) (h1 : 1 ≤ n) (h16 : n ≤ 16) (hf : 1 ≤ (A.getD 0 []).length) (ht : totalP A ≤ 4096) : Gives Try.prog 61 #[.slice ad n c] w (.bool true) := by
 obtain ⟨b_, o_, cs_, T_, fr_, rfl, hb_, hx_⟩ := R.at_ (by omega)
 have hf2 : 1 ≤ (A[0]'(by omega)).length := by rw [List.getD_eq_getElem?_getD, List.getElem?_eq_getElem (by omega)] at hf; exact hf
 have G := Grow.rfl' w
 refine gives_of Try.func61 Try.ntmps61 Try.results61 rfl rfl ?_
 refine W_seq (W_region rfl ?_)
 refine WL_some (og rfl ?_)
 (first | refine r_assign_bool rfl ?_ | refine r_assign rfl ?_)
 refine WL_nil ?_
 refine W_seq ?_
 refine W_seq (W_region rfl ?_)
 refine WL_some (og rfl ?_)
 (first | refine r_move_slice rfl ?_ | refine r_move rfl ?_)
 refine stp (r_len rfl rfl rfl ?_)
 refine WL_some (og rfl ?_)
 (first | (refine r_lss_t rfl rfl ?_ ?_; (first | assumption | omega)) | (refine r_lss_f rfl rfl ?_ ?_; (first | assumption | omega)) | refine r_lss rfl rfl ?_)
 refine WL_some (og rfl ?_)
 (first | refine r_move_bool rfl ?_ | refine r_move rfl ?_)
 refine WL_some (og rfl ?_)
 (first | refine r_move_slice rfl ?_ | refine r_move rfl ?_)
 refine stp (r_len rfl rfl rfl ?_)
 refine WL_some (og rfl ?_)
 (first | (refine r_gtr_t rfl rfl ?_ ?_; (first | assumption | omega)) | (refine r_gtr_f rfl rfl ?_ ?_; (first | assumption | omega)) | refine r_gtr rfl rfl ?_)
 refine stp (r_pick_f rfl rfl rfl ?_)
 refine WL_some (og rfl ?_)
 (first | refine r_move_bool rfl ?_ | refine r_move rfl ?_)
 refine WL_some (og rfl ?_)
 (first | refine r_move_slice rfl ?_ | refine r_move rfl ?_)
 refine WL_some (og rfl ?_)
 (refine r_indexAddr rfl rfl ?_ ?_ ?_; omega; omega)
 refine stp (r_load (v := .int .i64 ((A[0]'(by omega)).length : Int)) rfl hb_ (row_cell (i := 0) hx_ (by rw [List.getElem?_map, List.getElem?_eq_getElem (by omega)]; rfl)) ?_)
 refine WL_some (og rfl ?_)
 (first | (refine r_lss_t rfl rfl ?_ ?_; (first | assumption | omega)) | (refine r_lss_f rfl rfl ?_ ?_; (first | assumption | omega)) | refine r_lss rfl rfl ?_)
 refine stp (r_pick_f rfl rfl rfl ?_)
 refine WL_nil ?_
 refine W_false rfl ?_
 refine W_skip ?_
 refine W_seq (W_region rfl ?_)
 refine WL_some (og rfl ?_)
 (first | refine r_assign_int rfl ?_ | refine r_assign rfl ?_)
 refine WL_nil ?_
 refine W_seq ?_
 refine W_seq (W_region rfl ?_)
 refine WL_some (og rfl ?_)
 (first | refine r_move_slice rfl ?_ | refine r_move rfl ?_)
 refine stp (r_len rfl rfl rfl ?_)
 refine WL_some (og rfl ?_)
 (first | refine r_move_int rfl ?_ | refine r_move rfl ?_)
 refine WL_nil ?_
 refine W_block ?_
 refine W_loop (fun m_ e_ w_ => ∃ (k : Nat), m_ = n - k ∧ Fr [(3, .int .i64 (totalP (A.take k))), (22, .slice (some ⟨b_, o_, none⟩) n c), (23, .int .i64 (n : Int)), (24, .int .i64 (k : Int))] e_ ∧ (k ≤ n) ∧ (w_.heap[b_]? = some (.cells cs_ T_ fr_)) ∧ Grow w w_) _ ⟨0, rfl, fr_of ⟨rfl, rfl, rfl, rfl, trivial⟩, by omega, hb_, G⟩ ?_
 clear hb_
 clear G
 rintro m_ e_ w1 ⟨k, rfl, ⟨e2, rfl⟩, hk, hb_, G⟩
 refine W_seq (W_region rfl ?_)
 refine WL_some (og rfl ?_)
 (first | (refine r_lss_t rfl rfl ?_ ?_; (first | assumption | omega)) | (refine r_lss_f rfl rfl ?_ ?_; (first | assumption | omega)) | refine r_lss rfl rfl ?_)
 refine WL_nil ?_
 refine W_seq ?_
 refine W_cond2 rfl (fun hlt => ?_) (fun hlt => ?_)
 ·-- true
  first | (replace hlt := of_decide_eq_true hlt) | (replace hlt := of_decide_eq_false hlt) | skip
  have hi : k < A.length := by omega
  have ht1 := totalP_take hi
  have ht2 := totalP_le (A := A) (k + 1)
  have ht3 := totalP_nn (A.take k)
  refine W_skip ?_
  refine W_seq ?_
  refine W_block ?_
  refine W_seq (W_region rfl ?_)
  refine WL_some (og rfl ?_)
  (refine r_indexAddr rfl rfl ?_ ?_ ?_; omega; omega)
  refine stp (r_load (v := .int .i64 (A[k].length : Int)) rfl hb_ (by rw [Int.toNat_natCast, Nat.mul_one]; exact row_cell hx_ (by rw [List.getElem?_map, List.getElem?_eq_getElem hi]; rfl)) ?_)
  refine WL_some (og rfl ?_)
  (first | refine r_assign_int rfl ?_ | refine r_assign rfl ?_)
  refine WL_nil ?_
  refine W_seq (W_region rfl ?_)
  refine WL_some (og rfl ?_)
  (first | refine r_move_int rfl ?_ | refine r_move rfl ?_)
  refine WL_some (og rfl ?_)
  (first | refine r_move_int rfl ?_ | refine r_move rfl ?_)
  refine stp (r_gives rfl (gives_eq (add_calls _ (totalP (A.take k)) (A[k].length : Int) (by omega) (by omega) (by omega) (by omega)) (y := .tuple #[.int .i64 (totalP (A.take (k + 1))), .bool true]) (by rw [if_pos (by omega), ht1, decide_eq_true (by omega)])) ?_)
  intro w3 g4
  replace hb_ := g4.heap hb_
  replace G := G.tr g4
  clear g4
  refine WL_some (og rfl ?_)
  (first | refine r_move_tuple rfl ?_ | refine r_move rfl ?_)
  refine stp (r_extract rfl rfl ?_)
  refine stp (r_extract rfl rfl ?_)
  refine WL_some (og rfl ?_)
  (first | refine r_assign_int rfl ?_ | refine r_assign rfl ?_)
  refine WL_some (og rfl ?_)
  (first | refine r_assign_bool rfl ?_ | refine r_assign rfl ?_)
  refine WL_nil ?_
  refine W_seq ?_
  refine W_seq (W_region rfl ?_)
  refine WL_some (og rfl ?_)
  (first | refine r_move_bool rfl ?_ | refine r_move rfl ?_)
  refine WL_some (og rfl ?_)
  (first | (refine r_not_t rfl ?_ ?_; (first | rfl | assumption)) | (refine r_not_f rfl ?_ ?_; (first | rfl | assumption)) | refine r_not rfl ?_)
  refine WL_nil ?_
  refine W_false rfl ?_
  refine W_skip ?_
  refine W_region rfl ?_
  refine WL_some (og rfl ?_)
  (first | refine r_move_int rfl ?_ | refine r_move rfl ?_)
  refine WL_some (og rfl ?_)
  (first | refine r_assign_int rfl ?_ | refine r_assign rfl ?_)
  refine WL_nil ?_
  refine W_region rfl ?_
  refine WL_some (og rfl ?_)
  (first | (refine r_add rfl rfl ?_ ?_; (constructor <;> omega)) | refine r_addw rfl rfl ?_)
  refine WL_some (og rfl ?_)
  (first | refine r_move_int rfl ?_ | refine r_move rfl ?_)
  refine WL_nil ?_
  refine ⟨_, ?_, k + 1, rfl, fr_of ⟨rfl, rfl, rfl, rfl, trivial⟩, by omega, hb_, G⟩
  omega
 ·-- false
  first | (replace hlt := of_decide_eq_true hlt) | (replace hlt := of_decide_eq_false hlt) | skip
  refine W_exit ?_
  refine W_seq (W_region rfl ?_)
  refine WL_some (og rfl ?_)
  (first | refine r_assign_bool rfl ?_ | refine r_assign rfl ?_)
  refine WL_nil ?_
  refine W_ret ?_
  exact ret1 (res_bool rfl) ⟨rfl, G⟩

set_option maxRecDepth 100000 in
theorem aright_calls (w : World) {ad : Option Addr} {n c : Nat} {segs : List Value} {A : List (List Int)} (R : RowAt w 1 ad n segs) (hA : A.length = n) (hs : ∀ (i : Nat) (s : List Int), A[i]? = some s → ∃ v, segs[i]? = some v ∧ Row w 1 v s.length (wordsV s)) (h1 : 1 ≤ n) (h16 : n ≤ 16) (hf : 1 ≤ (A.getD 0 []).length) (ht : totalP A ≤ 4096) : Gives Try.prog 37 #[.slice ad n c] w (.bool true) := by
 have G := Grow.rfl' w
 refine gives_of Try.func37 Try.ntmps37 Try.results37 rfl rfl ?_
 refine W_seq (W_region rfl ?_)
 refine WL_some (og rfl ?_)
 (first | refine r_assign_bool rfl ?_ | refine r_assign rfl ?_)
 refine WL_nil ?_
 refine W_seq (W_region rfl ?_)
 refine WL_some (og rfl ?_)
 (first | refine r_move_slice rfl ?_ | refine r_move rfl ?_)
 refine WL_some (og rfl ?_)
 refine r_call rfl (sizes_calls _ (R.grow G) hA (fun i s h => by obtain ⟨v, h1, h2⟩ := hs i s h; exact ⟨v, h1, h2.grow G⟩) (by omega)) ?_
 rintro v_ w5_ ⟨own, g5_⟩
 replace G := G.tr g5_
 obtain ⟨ad5, c5, rfl, hc5, hc6, RS⟩ := own_row own (by omega)
 refine stp (r_gives rfl (fits_calls _ RS hA h1 h16 hf ht) ?_)
 intro w1 g2
 replace G := G.tr g2
 clear g2
 refine WL_some (og rfl ?_)
 (first | refine r_assign_bool rfl ?_ | refine r_assign rfl ?_)
 refine WL_nil ?_
 refine W_ret ?_
 exact ret1 (res_bool rfl) ⟨rfl, G⟩

set_option maxRecDepth 100000 in
theorem rget_calls (w : World) {ad : Option Addr} {n c : Nat} {xs : List Int} (hn : n = xs.length) (R : RowAt w 1 ad n (xs.map (.int .u8))) (hx : ∀ x ∈ xs, inR .u8 x) (h8 : n ≤ 8) : Gives Try.prog 84 #[.slice ad n c] w (.int .u64 (getP xs)) := by
 have G := Grow.rfl' w
 refine gives_of Try.func84 Try.ntmps84 Try.results84 rfl rfl ?_
 refine W_seq (W_region rfl ?_)
 refine WL_some (og rfl ?_)
 (first | refine r_assign_int rfl ?_ | refine r_assign rfl ?_)
 refine WL_nil ?_
 refine W_seq (W_region rfl ?_)
 refine WL_some (og rfl ?_)
 (first | refine r_assign_int rfl ?_ | refine r_assign rfl ?_)
 refine WL_nil ?_
 refine W_seq ?_
 refine W_seq (W_region rfl ?_)
 refine WL_some (og rfl ?_)
 (first | refine r_move_slice rfl ?_ | refine r_move rfl ?_)
 refine stp (r_len rfl rfl rfl ?_)
 refine WL_some (og rfl ?_)
 (first | (refine r_min_l rfl rfl rfl ?_ ?_; omega) | (refine r_min_r rfl rfl rfl ?_ ?_; omega) | refine r_min rfl rfl rfl ?_)
 refine WL_some (og rfl ?_)
 (first | (refine r_sub rfl rfl ?_ ?_; (constructor <;> omega)) | refine r_subw rfl rfl ?_)
 refine WL_some (og rfl ?_)
 (first | refine r_assign_int rfl ?_ | refine r_assign rfl ?_)
 refine WL_nil ?_
 refine W_block ?_
 refine W_loop (fun m_ e_ w_ => ∃ (k : Nat), m_ = n - k ∧ Fr [(0, .slice ad n c), (3, .int .u64 (getP (xs.drop (n - k)))), (4, .int .i64 ((n : Int) - 1 - k))] e_ ∧ (k ≤ n) ∧ Grow w w_) _ ⟨0, rfl, fr_of ⟨rfl, congrArg (Value.int .u64) (by rw [Nat.sub_zero, hn, List.drop_length]; rfl), congrArg (Value.int .i64) (by omega), trivial⟩, by omega, G⟩ ?_
 clear G
 rintro m_ e_ w1 ⟨k, rfl, ⟨e2, rfl⟩, hk2, G⟩
 refine W_seq ?_
 refine W_seq (W_region rfl ?_)
 refine WL_some (og rfl ?_)
 (first | refine r_move_int rfl ?_ | refine r_move rfl ?_)
 refine WL_some (og rfl ?_)
 (first | (refine r_geq_t rfl rfl ?_ ?_; (first | assumption | omega)) | (refine r_geq_f rfl rfl ?_ ?_; (first | assumption | omega)) | refine r_geq rfl rfl ?_)
 refine WL_nil ?_
 refine W_cond2 rfl (fun hge => ?_) (fun hge => ?_)
 ·-- true
  first | (replace hge := of_decide_eq_true hge) | (replace hge := of_decide_eq_false hge) | skip
  have hk3 : k < n := by omega
  obtain ⟨b_, o_, cs_, T_, fr_, rfl, hb_, hx_⟩ := (R.grow G).at_ (by omega)
  have hyr := getP_range (xs.drop (n - k)) (fun x hq_ => hx x (List.mem_of_mem_drop hq_))
  have hpow := pow_le8 (show (xs.drop (n - k)).length ≤ 7 from by rw [List.length_drop]; omega)
  have hxi := hx (xs[n - 1 - k]'(by omega)) (List.getElem_mem _)
  simp only [inR] at hxi
  refine W_skip ?_
  refine W_seq ?_
  refine W_block ?_
  refine W_region rfl ?_
  refine WL_some (og rfl ?_)
  (first | refine r_move_int rfl ?_ | refine r_move rfl ?_)
  refine WL_some (og rfl ?_)
  (first | (refine r_mul rfl rfl ?_ ?_; (constructor <;> omega)) | refine r_mulw rfl rfl ?_)
  refine WL_some (og rfl ?_)
  (first | refine r_move_slice rfl ?_ | refine r_move rfl ?_)
  refine WL_some (og rfl ?_)
  (first | refine r_move_int rfl ?_ | refine r_move rfl ?_)
  refine WL_some (og rfl ?_)
  (refine r_indexAddr rfl rfl ?_ ?_ ?_; omega; omega)
  refine stp (r_load (v := .int .u8 (xs[n - 1 - k]'(by omega))) rfl hb_ (by rw [show o_ + (((n : Int) - 1 - k).toNat) * 1 = o_ + (n - 1 - k) from by omega]; exact row_cell hx_ (by rw [List.getElem?_map, List.getElem?_eq_getElem (by omega)]; rfl)) ?_)
  refine WL_some (og rfl ?_)
  (first | (refine r_conv rfl ?_ ?_; (constructor <;> omega)) | refine r_convw rfl ?_)
  refine WL_some (og rfl ?_)
  (first | (refine r_add rfl rfl ?_ ?_; (constructor <;> omega)) | refine r_addw rfl rfl ?_)
  refine WL_some (og rfl ?_)
  (first | refine r_assign_int rfl ?_ | refine r_assign rfl ?_)
  refine WL_nil ?_
  refine W_region rfl ?_
  refine WL_some (og rfl ?_)
  (first | refine r_move_int rfl ?_ | refine r_move rfl ?_)
  refine WL_some (og rfl ?_)
  (first | (refine r_sub rfl rfl ?_ ?_; (constructor <;> omega)) | refine r_subw rfl rfl ?_)
  refine WL_some (og rfl ?_)
  (first | refine r_assign_int rfl ?_ | refine r_assign rfl ?_)
  refine WL_nil ?_
  refine ⟨_, ?_, k + 1, rfl, fr_of ⟨rfl, congrArg (Value.int .u64) (by rw [getP_drop hn hk3]; omega), congrArg (Value.int .i64) (by omega), trivial⟩, by omega, G⟩
  omega
 ·-- false
  first | (replace hge := of_decide_eq_true hge) | (replace hge := of_decide_eq_false hge) | skip
  have hk3 : k = n := by omega
  subst hk3
  refine W_exit ?_
  refine W_seq (W_region rfl ?_)
  refine WL_some (og rfl ?_)
  (first | refine r_move_int rfl ?_ | refine r_move rfl ?_)
  refine WL_some (og rfl ?_)
  (first | refine r_assign_int rfl ?_ | refine r_assign rfl ?_)
  refine WL_nil ?_
  refine W_ret ?_
  refine ret1 (res_int rfl) ⟨?_, G⟩
  rw [Nat.sub_self]; rfl

set_option maxRecDepth 100000 in
theorem rcontent_calls (w : World) {c : List Value} {t : Nd} (T : NodeR w c t) (hw4 : t.words.length ≤ 4096) (hb4 : t.bytes.length ≤ 4096) (hk4 : t.kids.length ≤ 4096) : Calls Try.prog 60 #[.agg c.toArray] w (Ret fun v w' => w'.ownsRow w.heap.size 55 1 v t.content.length (t.content.map (.int .u64)) ∧ Grow w w') := by
 obtain @⟨kind, size, words, bytes, kids, ws, bs, ks, kc, hk, hs, hW, hwr, hB, hbr, hK, hKs⟩ := T
 obtain ⟨aw, cw, rfl, hcw, hcw2, RW⟩ := hW
 obtain ⟨ab, cb, rfl, hcb, hcb2, RB⟩ := hB
 obtain ⟨ak, ck, rfl, hck, hck2, RK⟩ := hK
 have lw := RW.lim
 have lb := RB.lim
 have lk := RK.lim
 simp only [inR] at hk hs
 simp only [Nd.words, Nd.bytes, Nd.kids] at hw4 hb4 hk4
 have G := Grow.rfl' w
 refine calls_ret Try.func60 Try.ntmps60 Try.results60 rfl rfl ?_
 refine W_seq (W_region rfl ?_)
 refine WL_some (og rfl ?_)
 (first | refine r_box_agg rfl ?_ | refine r_box_int rfl ?_ | refine r_box_slice rfl ?_ | refine r_box rfl rfl ?_)
 intro b1 w2 hb3 hc4 g5
 have hge6 := Nat.le_trans G.size hb3
 replace G := G.tr g5
 clear g5 hb3
 refine WL_some (og rfl ?_)
 (first | refine r_assign_slice rfl ?_ | refine r_assign rfl ?_)
 refine WL_nil ?_
 refine W_seq (W_region rfl ?_)
 refine WL_some (og rfl ?_)
 (first | refine r_assign_slice rfl ?_ | refine r_assign rfl ?_)
 refine WL_nil ?_
 refine W_seq (W_region rfl ?_)
 refine WL_some (og rfl ?_)
 (first | refine r_move_slice rfl ?_ | refine r_move rfl ?_)
 refine stp (r_fieldAddr rfl ?_)
 refine stp (r_load rfl (by assumption) (by rfl) ?_)
 refine WL_some (og rfl ?_)
 have own00 := World.ownsRow_nil w2 w.heap.size 55 1
 refine r_append rfl rfl rfl rfl own00 ⟨_, cw, rfl, hcw, hcw2, RW.grow G⟩ (fun q_ hq_ => by obtain ⟨z, _, rfl⟩ := List.mem_map.1 hq_; rfl) (by simp only [maxLen]; omega) (by omega) G.size ?_
 intro v5 w5 own5 gr6
 replace G := G.grown gr6 (own_ge own00)
 replace hc4 := gr_heap gr6 hc4 (own_ne own00 hc4 (by decide))
 refine WL_some (og rfl ?_)
 (first | refine r_assign_slice rfl ?_ | refine r_assign rfl ?_)
 refine WL_nil ?_
 refine W_seq ?_
 refine W_seq (W_region rfl ?_)
 refine WL_some (og rfl ?_)
 (first | refine r_assign_int rfl ?_ | refine r_assign rfl ?_)
 refine WL_nil ?_
 refine W_block ?_
 refine W_loop (fun m_ e_ w_ => ∃ (k : Nat) (v : Value), m_ = bytes.length + 8 - 8 * k ∧ Fr [(1, .pointer (some ⟨b1, 0, none⟩)), (3, v), (4, .int .i64 ((8 * k : Nat) : Int))] e_ ∧ (8 * k < bytes.length + 8) ∧ (w_.heap[b1]? = some (.cells #[.int .i64 kind, .int .i64 size, .slice aw words.length cw, .slice ab bytes.length cb, .slice ak kids.length ck] 37 (0, 0))) ∧ (w_.ownsRow w.heap.size 55 1 v (words.length + k) ((words ++ (List.range k).map (chunkP bytes)).map (.int .u64))) ∧ Grow w w_) _ ⟨0, v5, rfl, fr_of ⟨rfl, rfl, rfl, trivial⟩, by omega, hc4, by simpa using own5, G⟩ ?_
 clear hc4
 clear G
 rintro m_ e_ w7 ⟨k, v, rfl, ⟨e8, rfl⟩, hk2, hc_, own, G⟩
 refine W_seq ?_
 refine W_seq (W_region rfl ?_)
 refine WL_some (og rfl ?_)
 (first | refine r_move_int rfl ?_ | refine r_move rfl ?_)
 refine stp (r_fieldAddr rfl ?_)
 refine stp (r_load rfl (by assumption) (by rfl) ?_)
 refine stp (r_len rfl rfl rfl ?_)
 refine WL_some (og rfl ?_)
 (first | (refine r_lss_t rfl rfl ?_ ?_; (first | assumption | omega)) | (refine r_lss_f rfl rfl ?_ ?_; (first | assumption | omega)) | refine r_lss rfl rfl ?_)
 refine WL_nil ?_
 refine W_cond2 rfl (fun hlt => ?_) (fun hlt => ?_)
 ·-- true
  first | (replace hlt := of_decide_eq_true hlt) | (replace hlt := of_decide_eq_false hlt) | skip
  have hcn : chunkN bytes.length k ≤ 8 := by unfold chunkN; omega
  have hcm : 8 * k + chunkN bytes.length k ≤ bytes.length := by unfold chunkN; omega
  refine W_skip ?_
  refine W_seq ?_
  refine W_block ?_
  refine W_region rfl ?_
  refine WL_some (og rfl ?_)
  (first | refine r_move_slice rfl ?_ | refine r_move rfl ?_)
  refine stp (r_fieldAddr rfl ?_)
  refine stp (r_load rfl (by assumption) (by rfl) ?_)
  refine WL_some (og rfl ?_)
  (first | refine r_move_int rfl ?_ | refine r_move rfl ?_)
  refine WL_some (og rfl ?_)
  (first | refine r_move_int rfl ?_ | refine r_move rfl ?_)
  refine WL_some (og rfl ?_)
  (first | (refine r_add rfl rfl ?_ ?_; (constructor <;> omega)) | refine r_addw rfl rfl ?_)
  refine stp (r_fieldAddr rfl ?_)
  refine stp (r_load rfl (by assumption) (by rfl) ?_)
  refine stp (r_len rfl rfl rfl ?_)
  refine WL_some (og rfl ?_)
  refine r_min rfl rfl rfl ?_
  rw [show (if (bytes.length : Int) < ((8 * k : Nat) : Int) + 8 then (bytes.length : Int) else ((8 * k : Nat) : Int) + 8) = ((8 * k + chunkN bytes.length k : Nat) : Int) from by unfold chunkN; split <;> omega]
  refine WL_some (og rfl ?_)
  refine r_sliceLH rfl rfl rfl (by omega) (by omega) (by omega) ?_
  rw [Int.toNat_natCast, Int.toNat_natCast, show 8 * k + chunkN bytes.length k - 8 * k = chunkN bytes.length k from by omega]
  have Rj : RowAt w 1 (if cb = 8 * k then ab else ab.map (·.add (8 * k * 1))) (chunkN bytes.length k) (((bytes.drop (8 * k)).take 8).map (.int .u8)) := by
   have h := RB.sliceLH (l := 8 * k) (m := chunkN bytes.length k) hcb hcm (by omega)
   simp only [Nat.mul_one, ← List.map_drop, ← List.map_take, drop_chunk] at h ⊢; exact h
  have hlenj : chunkN bytes.length k = ((bytes.drop (8 * k)).take 8).length := by rw [List.length_take, List.length_drop, chunkN]
  have hxj : ∀ x ∈ (bytes.drop (8 * k)).take 8, inR .u8 x := fun x hx_ => hbr x (List.mem_of_mem_drop (List.mem_of_mem_take hx_))
  refine stp (r_gives rfl (gives_eq (rget_calls _ hlenj (Rj.grow G) hxj hcn) (y := .int .u64 (chunkP bytes k)) rfl) ?_)
  intro w9 g10
  replace hc_ := g10.heap hc_
  replace own := own_grow own g10
  replace G := G.tr g10
  clear g10
  refine stp (r_buildSlice (cs := #[.int .u64 (chunkP bytes k)]) (el := 55) (fun w => by kernel_rfl) ?_)
  intro bs w5 hbs hcs g5
  replace hc_ := g5.heap hc_
  replace own := own_grow own g5
  replace G := G.tr g5
  refine stp (r_append rfl rfl rfl rfl own (Row.of_block (n := 1) hcs rfl rfl (by omega)) (fun q_ hq_ => by simp at hq_; subst hq_; rfl) (by simp only [maxLen]; omega) (by omega) G.size ?_)
  intro v6 w6 own6 gr6
  replace G := G.grown gr6 (own_ge own)
  replace hc_ := gr_heap gr6 hc_ (own_ne own hc_ (by decide))
  have e3 : (words ++ (List.range (k + 1)).map (chunkP bytes)).map (Value.int .u64) = (words ++ (List.range k).map (chunkP bytes)).map (Value.int .u64) ++ [.int .u64 (chunkP bytes k)] := by simp [List.range_succ]
  have own7 := own6
  rw [← e3, Nat.add_assoc] at own7
  refine WL_some (og rfl ?_)
  (first | refine r_assign_slice rfl ?_ | refine r_assign rfl ?_)
  refine WL_nil ?_
  refine W_region rfl ?_
  refine WL_some (og rfl ?_)
  (first | refine r_move_int rfl ?_ | refine r_move rfl ?_)
  refine WL_some (og rfl ?_)
  (first | (refine r_add rfl rfl ?_ ?_; (constructor <;> omega)) | refine r_addw rfl rfl ?_)
  refine WL_some (og rfl ?_)
  (first | refine r_assign_int rfl ?_ | refine r_assign rfl ?_)
  refine WL_nil ?_
  refine ⟨_, ?_, k + 1, v6, rfl, fr_of ⟨rfl, rfl, congrArg (Value.int .i64) (by omega), trivial⟩, by omega, hc_, own7, G⟩
  omega
 ·-- false
  first | (replace hlt := of_decide_eq_true hlt) | (replace hlt := of_decide_eq_false hlt) | skip
  have hk3 : (bytes.length + 7) / 8 = k := by omega
  refine W_exit ?_
  refine W_seq (W_region rfl ?_)
  refine WL_some (og rfl ?_)
  (first | refine r_move_slice rfl ?_ | refine r_move rfl ?_)
  refine stp (r_fieldAddr rfl ?_)
  refine stp (r_load rfl (by assumption) (by rfl) ?_)
  refine stp (r_len rfl rfl rfl ?_)
  refine stp (r_appendZ (z := .int .u64 0) (by_ := 8) rfl rfl rfl rfl (by rfl) (by rfl) own (by omega) (by omega) G.size ?_)
  intro v9 w9 own9 gr9
  have G9 := G.grown gr9 (own_ge own)
  refine WL_some (og rfl ?_)
  (first | refine r_assign_slice rfl ?_ | refine r_assign rfl ?_)
  refine WL_nil ?_
  refine W_seq (W_region rfl ?_)
  refine WL_some (og rfl ?_)
  (first | refine r_move_slice rfl ?_ | refine r_move rfl ?_)
  refine WL_some (og rfl ?_)
  (first | refine r_assign_slice rfl ?_ | refine r_assign rfl ?_)
  refine WL_nil ?_
  refine W_ret ?_
  refine ret1 (res_tmp rfl) ⟨?_, G9⟩
  have e1 : (Nd.mk kind size words bytes kids).content.length = words.length + k + kids.length := by simp only [Nd.content, chunksP, List.length_append, List.length_map, List.length_range, List.length_replicate]; omega
  have e2 : (Nd.mk kind size words bytes kids).content.map (Value.int .u64) = (words ++ (List.range k).map (chunkP bytes)).map (Value.int .u64) ++ List.replicate kids.length (.int .u64 0) := by rw [← hk3]; simp [Nd.content, chunksP]
  rw [e1, e2]
  exact own9
end Go.Proofs.Ytfhfecepcnapfaa.K

