/- Laid together: J13, R09, Q16, BA, Ptr, BD. Each part is plain law, a rule, or a walk of the functions that its names tell. -/
import Derived.Test.YtifhcfhdajkhlaaGreatX1
import Derived.Laws.Strings
import Derived.Laws.Pointers
set_option linter.unusedVariables false
set_option linter.unusedSimpArgs false
namespace Go.Proofs.YtifhcfhdajkhlaaGreat.K
open Go Go.RowKit
class MethI (P : Program) (t : TypeId) (name : String) (f : FuncId) : Prop where
  h : ∀ (v : Value) (args : Array Value) (w : World), (callMethod (.iface t v) name args).run P w = .ok (.enter f (#[v] ++ args)) w
class IfcI (P : Program) (t : TypeId) : Prop where
  h : ∃ ms, P.underlying t = some (.interface ms)
theorem zU5 {P : Program} {b : Frame} {a : Act} {k : List Item} {cs : List Frame} {w : World} {c : Code} : step P (lone (b.atR a (.code (.scope c) :: k)) cs w) = .next (lone (b.atR a (.code c :: .inScope c :: k)) cs w) :=
  step_lone_go (by simp [stepG, stepG.exec, Frame.atR])
theorem qH9 {P : Program} {b : Frame} {a : Act} {k : List Item} {cs : List Frame} {w : World} {c : Code} : step P (lone (b.atR a (.inScope c :: k)) cs w) = .next (lone (b.atR a k) cs w) :=
  step_lone_go (by simp [stepG, stepG.exec, Frame.atR])
theorem yM2 {P : Program} {n : Nat} {Q : Ex → Env → World → Prop} {e : Env} {w : World} {c : Code} (h : W P n c Q e w) : W P n (.scope c) Q e w := by
  intro b a k cs hs he
  obtain ⟨t, a1, w1, h1, h2, h3⟩ := h b a (.inScope c :: k) cs hs he
  cases t with
  | normal => exact ⟨.normal, a1, w1, h1, h2, .head zU5 (Steps.trans h3 (.one qH9))⟩
  | exit i => exact ⟨.exit i, a1, w1, h1, h2, .past (y := .inScope c) (fun _ => rfl) (by simp) (.of (.one zU5) h3)⟩
  | ret => exact ⟨.ret, a1, w1, h1, h2, .past (y := .inScope c) (fun _ => rfl) (by simp) (.of (.one zU5) h3)⟩
section
variable {P : Program} {ops : Array Oper} {e : Env} {w : World} {K : Value → World → Prop} {d : Option Nat} {ty : TypeId} {pos : String} {af : Array Edge} {g : Option (Nat × Bool)} {t u : TypeId} {x y z : Operand}
theorem qU2 {name : String} {args : Array Operand} {at_ : Array TypeId} {f : FuncId} {v : Value} {F : Value → World → Prop} {T : TypeId} (hm : MethI P T name f) (hx : ev e x = .iface T v)
    (hc : Calls P f (v :: args.toList.map (ev e)).toArray w (Ret F)) (h : ∀ v w', F v w' → K v w') : Run1 P ⟨d, .call ⟨.invoke x name, args, at_⟩, ty, pos, af, g⟩ e w K := by
  have ha : ((#[ev e x] ++ args.map (ev e)).extract 1 (#[ev e x] ++ args.map (ev e)).size) = args.map (ev e) := by
    apply Array.ext'
    simp
    exact List.take_of_length_le (by simp)
  have h0 : (#[ev e x] ++ args.map (ev e))[0]? = some (.iface T v) := by rw [hx, Array.getElem?_append_left (by simp)]; rfl
  have hb : #[v] ++ args.map (ev e) = (v :: args.toList.map (ev e)).toArray := by
    apply Array.ext'
    simp
  have hr : (execOp (ev e) ⟨d, .call ⟨.invoke x name, args, at_⟩, ty, pos, af, g⟩).run P w = .ok (.enter f (v :: args.toList.map (ev e)).toArray) w := by
    simp only [execOp, resolve, Sem.run_bind, Sem.run_pure, Result.andThen_ok, invoke, h0, ha]
    rw [hm.h, hb]
  unfold Run1
  rw [hr]
  exact hc.mono fun r w' ⟨v, hv, hF⟩ => ⟨v, hv, h v w' hF⟩
theorem yH4 {T : TypeId} {v : Value} [hi : IfcI P t] (hx : ev e x = .iface T v) (hy : ev e y = .nilIface) (h : K (.bool false) w) : Run1 P ⟨d, .binOp .eql t x y u, ty, pos, af, g⟩ e w K := by
  obtain ⟨ms, hi⟩ := hi.h
  exact zF7 (w' := w) (by
    have hg : ∀ w : World, (eqGuard .eql t x y (.iface T v) .nilIface).run P w = .ok () w := fun _ => rfl
    have hq : (Op.equal t (.iface T v) .nilIface).run P w = .ok false w := by
      show (Op.equalIn (9999 + 1) t (.iface T v) .nilIface).run P w = _
      rw [Op.equalIn]
      simp only [underlying, program, Sem.run_bind, Sem.run, hi, Sem.run_pure, Result.andThen_ok]
    simp only [execOp, hx, hy, Sem.run_bind, hg, Result.andThen_ok, binOp, hq, Sem.run_pure]) h
end
end Go.Proofs.YtifhcfhdajkhlaaGreat.K

namespace Go.Proofs.YtifhcfhdajkhlaaGreat.K
open Go Go.RowKit
structure Ob where
  kind : Int
  seg : Int
  at_ : Int
  data : Int
  ptrs : Int
  size : Int
  count : Int
  deriving DecidableEq
def Ob0 : Ob := ⟨0, 0, 0, 0, 0, 0, 0⟩
def Ob.pt (o : Ob) : Pt := ⟨o.kind, 0, o.data, o.ptrs, o.size, o.count, 0, false⟩
structure Src where
  sizes : List Int
  word : Int → Int → Int × Int
def addOk (a b m : Int) : Bool := decide (0 ≤ a ∧ 0 ≤ b ∧ a ≤ m ∧ b ≤ m - a)
def withinP (sizes : List Int) (seg at_ n : Int) : Bool := decide (0 ≤ seg ∧ seg < sizes.length) && addOk at_ n (sizes.getD seg.toNat 0)
def wordA (A : List (List Int)) (seg at_ : Int) : Int × Int := if 0 ≤ seg ∧ seg < A.length ∧ 0 ≤ at_ ∧ at_ < len2 A seg.toNat then ((A.getD seg.toNat []).getD at_.toNat 0, 0) else (0, 20)
def nearP (p : Pt) : Bool := decide (p.kind = 1) || decide (p.kind = 2)
def wordsO (o : Ob) : Int := if o.kind = 3 then 0 else wordsN o.pt
def ptrS (s : Src) (seg at_ : Int) : Pt × Int := if (s.word seg at_).2 ≠ 0 then (Pt0, (s.word seg at_).2) else (decP (s.word seg at_).1, decE (s.word seg at_).1)
def objP (p : Pt) (seg at_ : Int) : Ob := ⟨p.kind, seg, at_, p.data, p.ptrs, p.size, p.count⟩
def foundS (s : Src) (p : Pt) (seg at_ : Int) : Ob × Int :=
  if wordsE (objP p seg at_).pt ≠ 0 then (Ob0, wordsE (objP p seg at_).pt)
  else if withinP s.sizes seg at_ (wordsN (objP p seg at_).pt) = false then (Ob0, 20)
  else (objP p seg at_, 0)
def landedS (s : Src) (p : Pt) : Ob × Int :=
  if (ptrS s p.seg p.off).2 ≠ 0 then (Ob0, (ptrS s p.seg p.off).2)
  else if nearP (ptrS s p.seg p.off).1 = false then (Ob0, 23)
  else foundS s (ptrS s p.seg p.off).1 p.seg (p.off + 1 + (ptrS s p.seg p.off).1.off)
def twiceS (s : Src) (p : Pt) : Ob × Int :=
  if (s.word p.seg p.off).2 ≠ 0 then (Ob0, (s.word p.seg p.off).2)
  else if (s.word p.seg (p.off + 1)).2 ≠ 0 then (Ob0, (s.word p.seg (p.off + 1)).2)
  else if decE (s.word p.seg p.off).1 ≠ 0 then (Ob0, decE (s.word p.seg p.off).1)
  else if decE (s.word p.seg (p.off + 1)).1 ≠ 0 then (Ob0, decE (s.word p.seg (p.off + 1)).1)
  else if (decP (s.word p.seg p.off).1).kind ≠ 3 ∨ (decP (s.word p.seg p.off).1).dbl = true ∨ nearP (decP (s.word p.seg (p.off + 1)).1) = false ∨ (decP (s.word p.seg (p.off + 1)).1).off ≠ 0 then (Ob0, 23)
  else foundS s (decP (s.word p.seg (p.off + 1)).1) (decP (s.word p.seg p.off).1).seg (decP (s.word p.seg p.off).1).off
def followS (s : Src) (seg at_ : Int) : Ob × Int :=
  if (ptrS s seg at_).2 ≠ 0 ∨ (ptrS s seg at_).1.kind = 0 then (Ob0, (ptrS s seg at_).2)
  else if nearP (ptrS s seg at_).1 = true then foundS s (ptrS s seg at_).1 seg (at_ + 1 + (ptrS s seg at_).1.off)
  else if (ptrS s seg at_).1.dbl = true then twiceS s (ptrS s seg at_).1
  else landedS s (ptrS s seg at_).1
def stepS (s : Src) (o : Ob) (k : Int) : Ob × Int :=
  if o.kind = 0 ∨ (o.kind = 1 ∧ k ≥ o.ptrs) then (Ob0, 0)
  else if o.kind = 1 then followS s o.seg (o.at_ + k + o.data)
  else if o.size ≠ 6 then (o, 23)
  else if k ≥ o.count then (o, 20)
  else followS s o.seg (o.at_ + k)
def atS (s : Src) (o : Ob) (k : Int) : Int × Int :=
  if o.kind = 0 ∨ (o.kind = 1 ∧ k ≥ o.data) then (0, 0)
  else if o.kind = 1 then s.word o.seg (o.at_ + k)
  else if o.size = 6 then (0, 23)
  else if k ≥ o.count then (0, 20)
  else if o.size = 5 then s.word o.seg (o.at_ + k)
  else ((s.word o.seg (o.at_ + k / 8)).1 / 2 ^ (k % 8 * 8).toNat % 256, (s.word o.seg (o.at_ + k / 8)).2)
structure Vl where
  kind : Int
  size : Int
  words : Int
  kids : Int
  word : Int
  deriving DecidableEq
def Vl0 : Vl := ⟨0, 0, 0, 0, 0⟩
def isS (o : Ob) : Vl := ⟨o.kind, o.size, if o.kind = 2 ∧ o.size ≠ 6 then o.count else o.data, if o.kind = 2 ∧ o.size = 6 then o.count else o.ptrs, 0⟩
def valS (s : Src) (o : Ob) (at_ : Int) : Vl × Int :=
  if at_ < 0 then (isS o, 0) else if (atS s o at_).2 ≠ 0 then (Vl0, (atS s o at_).2) else (⟨o.kind, 0, 0, 0, (atS s o at_).1⟩, 0)
def nextS (s : Src) (at_ : Int) : List Int → Ob → Int → Vl × Int
  | [], o, _ => valS s o at_
  | k :: ks, o, left =>
    if (stepS s o k).2 ≠ 0 then (Vl0, (stepS s o k).2)
    else if left - (1 + wordsO (stepS s o k).1) < 0 then (Vl0, 22)
    else nextS s at_ ks (stepS s o k).1 (left - (1 + wordsO (stepS s o k).1))
def walkS (s : Src) (steps : List Int) (at_ cost : Int) : Vl × Int :=
  if ∃ k ∈ steps, k < 0 then (Vl0, 1)
  else if (steps.length : Int) > 32 then (Vl0, 3)
  else if (followS s 0 0).2 ≠ 0 then (Vl0, (followS s 0 0).2)
  else if max cost (-1) - (1 + wordsO (followS s 0 0).1) < 0 then (Vl0, 22)
  else nextS s at_ steps (followS s 0 0).1 (max cost (-1) - (1 + wordsO (followS s 0 0).1))
structure PtR (p : Pt) : Prop where
  kind : 0 ≤ p.kind ∧ p.kind ≤ 3
  off : -536870912 ≤ p.off ∧ p.off ≤ 536870911
  data : 0 ≤ p.data ∧ p.data ≤ 65535
  ptrs : 0 ≤ p.ptrs ∧ p.ptrs ≤ 65535
  size : 0 ≤ p.size ∧ p.size ≤ 7
  count : 0 ≤ p.count ∧ p.count ≤ 536870911
  seg : 0 ≤ p.seg ∧ p.seg ≤ 4294967295
  far : p.kind = 3 → 0 ≤ p.off
theorem qQ6 (n : Int) (h0 : 0 ≤ n) (h1 : n < 1073741824) : -536870912 ≤ sgn30 n ∧ sgn30 n ≤ 536870911 := by unfold sgn30; split <;> omega
theorem zK6 (x : Int) (h0 : 0 ≤ x) (h1 : x ≤ 18446744073709551615) : PtR (decP x) := by
  have hs := qQ6 (x / 4 % 1073741824) (by omega) (by omega)
  unfold decP
  repeat' split
  all_goals first
    | (constructor <;> (simp [Pt0]; done))
    | (constructor <;> simp only [] <;> omega)
theorem qC2 : PtR Pt0 := by constructor <;> simp [Pt0]
theorem PtR.of {p : Pt} (h : PtR p) : PtR ⟨p.kind, 0, p.data, p.ptrs, p.size, p.count, 0, false⟩ := ⟨h.kind, by simp, h.data, h.ptrs, h.size, h.count, by simp, fun _ => by simp⟩
theorem zS1 {p : Pt} (h : PtR p) : 0 ≤ wordsN p ∧ wordsN p ≤ 536870912 := by
  have h1 := h.data
  have h2 := h.ptrs
  have h3 := h.count
  unfold wordsN
  rw [zK9 (by simp only [inR]; omega : inR .i64 (p.data + p.ptrs)), zK9 (by simp only [inR]; omega : inR .i64 (p.count + 8)), zK9 (by simp only [inR]; omega : inR .i64 (p.count + 8 - 1)), Int.tdiv_eq_ediv_of_nonneg (by omega), zK9 (by simp only [inR]; omega : inR .i64 ((p.count + 8 - 1) / 8))]
  repeat' split
  all_goals omega
theorem qI0 {L : List Int} {j : Nat} (h : j < L.length) : L.getD j 0 ∈ L := by rw [zG0 h]; exact List.getElem_mem h
structure ObR (o : Ob) : Prop where
  kind : 0 ≤ o.kind ∧ o.kind ≤ 2
  seg : 0 ≤ o.seg ∧ o.seg ≤ 1000000
  at_ : 0 ≤ o.at_ ∧ o.at_ ≤ 140737488355328
  data : 0 ≤ o.data ∧ o.data ≤ 65535
  ptrs : 0 ≤ o.ptrs ∧ o.ptrs ≤ 65535
  size : 0 ≤ o.size ∧ o.size ≤ 7
  count : 0 ≤ o.count ∧ o.count ≤ 536870911
theorem zH1 : ObR Ob0 := by constructor <;> simp [Ob0]
theorem zM2 {o : Ob} (h : ObR o) : 0 ≤ wordsO o ∧ wordsO o ≤ 536870912 := by
  have hp : PtR o.pt := ⟨⟨h.kind.1, by have := h.kind.2; show o.kind ≤ 3; omega⟩, by simp [Ob.pt], h.data, h.ptrs, h.size, h.count, by simp [Ob.pt], fun _ => by simp [Ob.pt]⟩
  have := zS1 hp
  unfold wordsO
  split
  · omega
  · exact this
theorem yH5 (x m : Int) (h0 : 0 ≤ x) (h1 : x ≤ 18446744073709551615) (m0 : 0 ≤ m) (m1 : m ≤ 56) : bitop .and .u64 (x / 2 ^ min m.toNat 64) 255 = x / 2 ^ m.toNat % 256 := by
  have h := zO9 m.toNat 8 (by omega) (by decide) x h0 h1
  rw [← show (2 : Int) ^ 8 = 256 from rfl, ← h, getF]
  rw [show ((m.toNat : Nat) : Int).toNat = m.toNat from by omega]
  rfl
structure SrcOk (P : Program) (w : World) (v : Value) (s : Src) : Prop where
  word : ∃ t u f, v = .iface t u ∧ MethI P t "Word" f ∧ ∀ w', Grow w w' → ∀ seg at_ : Int, Gives P f #[u, .int .i64 seg, .int .i64 at_] w' (.tuple #[.int .u64 (s.word seg at_).1, .int .u16 (s.word seg at_).2])
  sizes : ∃ t u f, v = .iface t u ∧ MethI P t "Sizes" f ∧ ∀ w', Grow w w' → Calls P f #[u] w' (Ret fun r w2 => ∃ ad c, r = .slice ad s.sizes.length c ∧ RowAt w2 1 ad s.sizes.length (s.sizes.map (.int .i64)) ∧ Grow w' w2)
  num : ∀ seg at_ : Int, 0 ≤ (s.word seg at_).1 ∧ (s.word seg at_).1 ≤ 18446744073709551615 ∧ 0 ≤ (s.word seg at_).2 ∧ (s.word seg at_).2 ≤ 65535
  ok : ∀ seg at_ : Int, (s.word seg at_).2 = 0 → 0 ≤ seg ∧ seg < s.sizes.length ∧ 0 ≤ at_ ∧ at_ ≤ 140737488355328
  len : s.sizes.length ≤ 1000000
  each : ∀ i, i < s.sizes.length → 0 ≤ s.sizes.getD i 0 ∧ s.sizes.getD i 0 ≤ 140737488355328
theorem SrcOk.grow {P : Program} {w w' : World} {v : Value} {s : Src} (h : SrcOk P w v s) (g : Grow w w') : SrcOk P w' v s := by
  obtain ⟨⟨t, u, f, h1, h2, h3⟩, ⟨t', u', f', h4, h5, h6⟩, h7, h8, h9, h10⟩ := h
  exact ⟨⟨t, u, f, h1, h2, fun w2 g2 => h3 w2 (g.tr g2)⟩, ⟨t', u', f', h4, h5, fun w2 g2 => h6 w2 (g.tr g2)⟩, h7, h8, h9, h10⟩
theorem zT3 {P : Program} {w : World} {v : Value} {s : Src} (H : SrcOk P w v s) (seg at_ : Int) : PtR (ptrS s seg at_).1 := by
  obtain ⟨h1, h2, -, -⟩ := H.num seg at_
  unfold ptrS
  split
  · exact qC2
  · exact zK6 _ h1 h2
theorem yM3 {P : Program} {w : World} {v : Value} {s : Src} (H : SrcOk P w v s) {seg at_ : Int} (h : (ptrS s seg at_).2 = 0) : 0 ≤ seg ∧ seg < s.sizes.length ∧ 0 ≤ at_ ∧ at_ ≤ 140737488355328 := by
  refine H.ok seg at_ ?_
  by_cases h0 : (s.word seg at_).2 = 0
  · exact h0
  · unfold ptrS at h; rw [if_pos h0] at h; exact absurd h h0
theorem zS2 {P : Program} {w : World} {v : Value} {s : Src} (H : SrcOk P w v s) {p : Pt} (hp : PtR p) (hn : nearP p = true) (seg at_ : Int) : ObR (foundS s p seg at_).1 := by
  unfold foundS
  split
  · exact zH1
  · split
    · exact zH1
    · rename_i h1 h2
      simp only [Bool.not_eq_false] at h2
      unfold withinP addOk at h2
      simp only [Bool.and_eq_true, decide_eq_true_eq] at h2
      obtain ⟨⟨h3, h4⟩, h5, h6, h7, h8⟩ := h2
      have h9 := H.each seg.toNat (by omega)
      have h10 := H.len
      have hk : p.kind = 1 ∨ p.kind = 2 := by simpa [nearP] using hn
      exact ⟨by show 0 ≤ p.kind ∧ p.kind ≤ 2; omega, by show 0 ≤ seg ∧ seg ≤ _; omega, by show 0 ≤ at_ ∧ at_ ≤ _; omega, hp.data, hp.ptrs, hp.size, hp.count⟩
theorem zQ8 {P : Program} {w : World} {v : Value} {s : Src} (H : SrcOk P w v s) (seg at_ : Int) : ObR (followS s seg at_).1 := by
  unfold followS
  split
  · exact zH1
  · split
    · rename_i h; exact zS2 H (zT3 H seg at_) h _ _
    · split
      · unfold twiceS
        split
        · exact zH1
        · split
          · exact zH1
          · split
            · exact zH1
            · split
              · exact zH1
              · split
                · exact zH1
                · rename_i h
                  obtain ⟨n1, n2, -, -⟩ := H.num (ptrS s seg at_).1.seg ((ptrS s seg at_).1.off + 1)
                  refine zS2 H (zK6 _ n1 n2) ?_ _ _
                  cases hq : nearP (decP (s.word (ptrS s seg at_).1.seg ((ptrS s seg at_).1.off + 1)).1) with
                  | true => rfl
                  | false => exact absurd (.inr (.inr (.inl hq))) h
      · unfold landedS
        split
        · exact zH1
        · split
          · exact zH1
          · rename_i h
            exact zS2 H (zT3 H _ _) (by simpa using h) _ _
theorem qQ7 {P : Program} {w : World} {v : Value} {s : Src} (H : SrcOk P w v s) {o : Ob} (ho : ObR o) (k : Int) : ObR (stepS s o k).1 := by
  unfold stepS
  repeat' split
  all_goals first
    | exact zH1
    | exact ho
    | exact zQ8 H _ _
theorem zM3 : ∀ (A : List (List Int)) (j : Nat), (len2 A j : Int) ≤ totalP A
  | [], j => by simp [len2, totalP]
  | q :: A, 0 => by have := zS0 A; simp only [len2, totalP, List.getD_cons_zero]; omega
  | q :: A, j + 1 => by have := zM3 A j; simp only [len2, totalP, List.getD_cons_succ] at this ⊢; omega
section
variable {P : Program} {ops : Array Oper} {e : Env} {w w0 : World} {K : Value → World → Prop} {d : Option Nat} {ty : TypeId} {pos : String} {af : Array Edge} {g : Option (Nat × Bool)} {x y z : Operand}
theorem zQ1 {v : Value} {s : Src} {at_ : Array TypeId} {seg a : Int} (H : SrcOk P w0 v s) (G : Grow w0 w) (hx : ev e x = v) (hy : ev e y = .int .i64 seg) (hz : ev e z = .int .i64 a)
    (h : ∀ w', Grow w w' → K (.tuple #[.int .u64 (s.word seg a).1, .int .u16 (s.word seg a).2]) w') : Run1 P ⟨d, .call ⟨.invoke x "Word", #[y, z], at_⟩, ty, pos, af, g⟩ e w K := by
  obtain ⟨t, u, f, rfl, hm, hc⟩ := H.word
  refine qU2 (F := fun r w' => r = .tuple #[.int .u64 (s.word seg a).1, .int .u16 (s.word seg a).2] ∧ Grow w w') hm hx ?_ (fun r w' ⟨hr, hg⟩ => by subst hr; exact h w' hg)
  have h0 := hc w G seg a
  unfold Gives at h0
  rw [show ((u :: (#[y, z] : Array Operand).toList.map (ev e)).toArray) = #[u, .int .i64 seg, .int .i64 a] from by simp [hy, hz]]
  exact h0
theorem qW6 {v : Value} {s : Src} {at_ : Array TypeId} (H : SrcOk P w0 v s) (G : Grow w0 w) (hx : ev e x = v)
    (h : ∀ ad c w', Grow w w' → RowAt w' 1 ad s.sizes.length (s.sizes.map (.int .i64)) → K (.slice ad s.sizes.length c) w') : Run1 P ⟨d, .call ⟨.invoke x "Sizes", #[], at_⟩, ty, pos, af, g⟩ e w K := by
  obtain ⟨t, u, f, rfl, hm, hc⟩ := H.sizes
  refine qU2 (F := fun r w2 => ∃ ad c, r = .slice ad s.sizes.length c ∧ RowAt w2 1 ad s.sizes.length (s.sizes.map (.int .i64)) ∧ Grow w w2) hm hx ?_ (fun r w' ⟨ad, c, hr, hR, hg⟩ => by subst hr; exact h ad c w' hg hR)
  rw [show ((u :: (#[] : Array Operand).toList.map (ev e)).toArray) = #[u] from rfl]
  exact hc w G
end
end Go.Proofs.YtifhcfhdajkhlaaGreat.K

namespace Go.Proofs.YtifhcfhdajkhlaaGreat.K
open Go Go.RowKit
def isB (xs : List Int) : Prop := ∀ x ∈ xs, inR .u8 x
theorem isB.at_ {xs : List Int} (h : isB xs) (i : Nat) : 0 ≤ xs.getD i 0 ∧ xs.getD i 0 ≤ 255 := by
  rw [List.getD_eq_getElem?_getD]
  cases hi : xs[i]? with
  | none => simp
  | some x => exact h x (List.mem_of_getElem? hi)
def bitQ (xs : List Int) (i : Nat) : Bool := decide (xs.getD (i / 8) 0 / 2 ^ (i % 8) % 2 = 1)
theorem qU3 {xs : List Int} {i : Nat} (h : xs.length ≤ i / 8) : bitQ xs i = false := by
  unfold bitQ
  rw [List.getD_eq_getElem?_getD, List.getElem?_eq_none h]
  simp
theorem qA8 {a : Int} (h0 : 0 ≤ a) (k : Nat) : decide (a / 2 ^ k % 2 = 1) = Nat.testBit a.toNat k := by
  obtain ⟨n, rfl⟩ : ∃ n : Nat, a = (n : Int) := ⟨a.toNat, by omega⟩
  rw [Int.toNat_natCast, Nat.testBit_eq_decide_div_mod_eq]
  refine decide_eq_decide.2 ?_
  rw [show ((n : Int) / 2 ^ k) = ((n / 2 ^ k : Nat) : Int) from by push_cast; rfl]
  omega
def orB (a : Int) (k : Nat) : Int := bitop .or .u8 a (IntKind.u8.wrap (1 * 2 ^ k))
theorem qU4 {a : Int} (h0 : 0 ≤ a) (h1 : a ≤ 255) {k : Nat} (hk : k < 8) : 0 ≤ orB a k ∧ orB a k ≤ 255 ∧ ∀ j, j < 8 → decide (orB a k / 2 ^ j % 2 = 1) = (decide (j = k) || decide (a / 2 ^ j % 2 = 1)) := by
  have hp : (2 : Int) ^ k = ((2 ^ k : Nat) : Int) := by push_cast; rfl
  have hk2 : 2 ^ k < 2 ^ 8 := Nat.pow_lt_pow_right (by decide) hk
  have hlt : a.toNat ||| 2 ^ k < 2 ^ 8 := Nat.or_lt_two_pow (by show a.toNat < 256; omega) hk2
  have ho : orB a k = ((a.toNat ||| 2 ^ k : Nat) : Int) := by
    unfold orB
    rw [Int.one_mul, hp]
    have hk3 : 2 ^ k < 256 := hk2
    have hlt3 : a.toNat ||| 2 ^ k < 256 := hlt
    generalize 2 ^ k = m at hk3 hlt3 ⊢
    have hw : IntKind.u8.wrap (m : Int) = (m : Int) := by rw [IntKind.wrap_u8]; omega
    rw [hw, yH1 h0 (by omega) (by show a < 256; omega) (by show (m : Int) < 256; omega), Int.toNat_natCast, IntKind.wrap_u8]
    generalize a.toNat ||| m = q at hlt3 ⊢
    omega
  have hlt3 : a.toNat ||| 2 ^ k < 256 := hlt
  refine ⟨by rw [ho]; exact Int.natCast_nonneg _, by rw [ho]; generalize a.toNat ||| 2 ^ k = q at hlt3 ⊢; omega, fun j hj => ?_⟩
  rw [qA8 (by rw [ho]; exact Int.natCast_nonneg _), qA8 h0, ho, Int.toNat_natCast, Nat.testBit_or, Nat.testBit_two_pow, Bool.or_comm]
  congr 1
  exact decide_eq_decide.2 ⟨Eq.symm, Eq.symm⟩
def setQ (xs : List Int) (i : Nat) : List Int := xs.set (i / 8) (orB (xs.getD (i / 8) 0) (i % 8))
theorem qI1 (xs : List Int) (i : Nat) : (setQ xs i).length = xs.length := by simp [setQ]
theorem qI2 {xs : List Int} (h : isB xs) (i : Nat) : isB (setQ xs i) := by
  intro x hx
  rcases List.mem_or_eq_of_mem_set hx with hx | rfl
  · exact h x hx
  · obtain ⟨h0, h1⟩ := h.at_ (i / 8)
    obtain ⟨g0, g1, -⟩ := qU4 h0 h1 (k := i % 8) (by omega)
    exact ⟨g0, g1⟩
theorem qU5 {xs : List Int} (h : isB xs) {i : Nat} (hi : i / 8 < xs.length) (j : Nat) : bitQ (setQ xs i) j = (decide (j = i) || bitQ xs j) := by
  obtain ⟨h0, h1⟩ := h.at_ (i / 8)
  unfold bitQ setQ
  by_cases he : j / 8 = i / 8
  · rw [he, List.getD_eq_getElem?_getD, List.getElem?_set_self hi, Option.getD_some, (qU4 h0 h1 (k := i % 8) (by omega)).2.2 (j % 8) (by omega)]
    congr 1
    exact decide_eq_decide.2 (by omega)
  · rw [List.getD_eq_getElem?_getD, List.getElem?_set_ne (by omega), ← List.getD_eq_getElem?_getD, decide_eq_false (show ¬ j = i by omega), Bool.false_or]
theorem yH6 {a b : Int} (ha : 0 ≤ a ∧ a ≤ 255) (hb : 0 ≤ b ∧ b ≤ 255) (h : ∀ j, j < 8 → decide (a / 2 ^ j % 2 = 1) = decide (b / 2 ^ j % 2 = 1)) : a = b := by
  have hn : a.toNat = b.toNat := by
    apply Nat.eq_of_testBit_eq
    intro j
    by_cases hj : j < 8
    · rw [← qA8 ha.1, ← qA8 hb.1]; exact h j hj
    · have hp : 2 ^ 8 ≤ 2 ^ j := Nat.pow_le_pow_right (by decide) (by omega)
      rw [Nat.testBit_lt_two_pow (by omega), Nat.testBit_lt_two_pow (by omega)]
  omega
theorem yH7 {xs ys : List Int} (hx : isB xs) (hy : isB ys) (hl : xs.length = ys.length) (h : ∀ i, bitQ xs i = bitQ ys i) : xs = ys := by
  refine List.ext_getElem hl fun k h1 h2 => ?_
  have e1 : xs.getD k 0 = xs[k] := by rw [List.getD_eq_getElem?_getD, List.getElem?_eq_getElem h1]; rfl
  have e2 : ys.getD k 0 = ys[k] := by rw [List.getD_eq_getElem?_getD, List.getElem?_eq_getElem h2]; rfl
  rw [← e1, ← e2]
  refine yH6 (hx.at_ k) (hy.at_ k) fun j hj => ?_
  have := h (8 * k + j)
  unfold bitQ at this
  rwa [show (8 * k + j) / 8 = k from by omega, show (8 * k + j) % 8 = j from by omega] at this
/-! ### how many are set -/
def cntQ (xs : List Int) : Nat → Nat
  | 0 => 0
  | n + 1 => cntQ xs n + if bitQ xs n then 1 else 0
theorem qI3 (xs : List Int) : ∀ n, cntQ xs n ≤ n
  | 0 => Nat.le_refl _
  | n + 1 => by have := qI3 xs n; unfold cntQ; split <;> omega
def popQ (x : Int) : Int := (if x % 2 = 1 then 1 else 0) + (if x / 2 % 2 = 1 then 1 else 0) + (if x / 4 % 2 = 1 then 1 else 0) + (if x / 8 % 2 = 1 then 1 else 0) + (if x / 16 % 2 = 1 then 1 else 0) + (if x / 32 % 2 = 1 then 1 else 0) + (if x / 64 % 2 = 1 then 1 else 0) + (if x / 128 % 2 = 1 then 1 else 0)
theorem yH8 (xs : List Int) (k : Nat) : (cntQ xs (8 * (k + 1)) : Int) = cntQ xs (8 * k) + popQ (xs.getD k 0) := by
  have hb : ∀ j, j < 8 → bitQ xs (8 * k + j) = decide (xs.getD k 0 / 2 ^ j % 2 = 1) := fun j hj => by
    unfold bitQ
    rw [show (8 * k + j) / 8 = k from by omega, show (8 * k + j) % 8 = j from by omega]
  have step : ∀ n, cntQ xs (n + 1) = cntQ xs n + if bitQ xs n then 1 else 0 := fun n => rfl
  have h0 : bitQ xs (8 * k) = _ := hb 0 (by decide)
  have h1 : bitQ xs (8 * k + 1) = _ := hb 1 (by decide)
  have h2 : bitQ xs (8 * k + 1 + 1) = _ := hb 2 (by decide)
  have h3 : bitQ xs (8 * k + 1 + 1 + 1) = _ := hb 3 (by decide)
  have h4 : bitQ xs (8 * k + 1 + 1 + 1 + 1) = _ := hb 4 (by decide)
  have h5 : bitQ xs (8 * k + 1 + 1 + 1 + 1 + 1) = _ := hb 5 (by decide)
  have h6 : bitQ xs (8 * k + 1 + 1 + 1 + 1 + 1 + 1) = _ := hb 6 (by decide)
  have h7 : bitQ xs (8 * k + 1 + 1 + 1 + 1 + 1 + 1 + 1) = _ := hb 7 (by decide)
  rw [show 8 * (k + 1) = 8 * k + 1 + 1 + 1 + 1 + 1 + 1 + 1 + 1 from by omega]
  rw [step, step, step, step, step, step, step, step, h0, h1, h2, h3, h4, h5, h6, h7]
  unfold popQ
  have e : ∀ (p : Prop) [Decidable p], (((if decide p = true then 1 else 0 : Nat)) : Int) = if p then 1 else 0 := fun p _ => by by_cases hp : p <;> simp [hp]
  simp only [Int.natCast_add, e]
  simp only [Int.reducePow, Int.ediv_one, Int.pow_zero]
  omega
theorem qU6 (x : Int) : 0 ≤ popQ x ∧ popQ x ≤ 8 := by unfold popQ; (repeat' split) <;> omega
theorem yH9 {a : Int} (h0 : 0 ≤ a) (h1 : a ≤ 255) : bitop .and .u8 a 1 = a % 2 := by
  rw [qK2 h0 (by omega) (by show a < 256; omega) (by show (1 : Int) < 256; omega)]
  have h2 : (1 : Int).toNat = 1 := rfl
  rw [h2, Nat.and_one_is_mod, IntKind.wrap_u8]
  omega
theorem yI0 {sz : List Int} {n k : Nat} (h : k < n) (hl : k < sz.length) : ((sz.map (Value.int .i64)).take (n * 1))[k * 1]? = some (.int .i64 (sz.getD k 0)) := by
  rw [Nat.mul_one, Nat.mul_one, List.getElem?_take_of_lt h, List.getElem?_map, List.getElem?_eq_getElem hl, List.getD_eq_getElem?_getD, List.getElem?_eq_getElem hl]
  rfl
/-! ### sizes -/
def sumL : List Int → Int
  | [] => 0
  | x :: xs => x + sumL xs
theorem zU6 : ∀ (a b : List Int), sumL (a ++ b) = sumL a + sumL b
  | [], b => by simp [sumL]
  | x :: a, b => by simp only [List.cons_append, sumL, zU6 a b]; omega
theorem zJ0 {sz : List Int} {k : Nat} (h : k < sz.length) : sumL (sz.take (k + 1)) = sumL (sz.take k) + sz.getD k 0 := by
  rw [List.take_succ_eq_append_getElem h, zU6, List.getD_eq_getElem?_getD, List.getElem?_eq_getElem h]
  simp [sumL]
theorem zX9 : ∀ {sz : List Int}, (∀ x ∈ sz, 0 ≤ x) → 0 ≤ sumL sz
  | [], _ => by simp [sumL]
  | x :: sz, h => by have := zX9 (sz := sz) (fun y hy => h y (by simp [hy])); have := h x (by simp); simp only [sumL]; omega
theorem zH4 {sz : List Int} (h : ∀ x ∈ sz, 0 ≤ x) (k : Nat) : 0 ≤ sumL (sz.take k) ∧ sumL (sz.take k) ≤ sumL sz := by
  have h1 := zU6 (sz.take k) (sz.drop k)
  rw [List.take_append_drop] at h1
  have h2 := zX9 (sz := sz.take k) (fun x hx => h x (List.mem_of_mem_take hx))
  have h3 := zX9 (sz := sz.drop k) (fun x hx => h x (List.mem_of_mem_drop hx))
  omega
def fitsL (sz : List Int) : Bool := decide (1 ≤ sz.length ∧ sz.length ≤ 16 ∧ 1 ≤ sz.getD 0 0 ∧ (∀ x ∈ sz, 0 ≤ x) ∧ sumL sz ≤ 4096)
theorem zG2 {sz : List Int} (h : fitsL sz = true) : 1 ≤ sz.length ∧ sz.length ≤ 16 ∧ 1 ≤ sz.getD 0 0 ∧ (∀ x ∈ sz, 0 ≤ x) ∧ sumL sz ≤ 4096 := of_decide_eq_true h
theorem zH7 {sz : List Int} (h : fitsL sz = true) (i : Nat) : 0 ≤ sz.getD i 0 ∧ sz.getD i 0 ≤ 4096 := by
  obtain ⟨-, -, -, h4, h5⟩ := zG2 h
  by_cases hi : i < sz.length
  · have e : sz.getD i 0 = sz[i] := by rw [List.getD_eq_getElem?_getD, List.getElem?_eq_getElem hi]; rfl
    have h1 := zJ0 hi
    have h2 := zH4 h4 i
    have h3 := zH4 h4 (i + 1)
    have := h4 _ (List.getElem_mem hi)
    rw [← e] at this
    omega
  · rw [List.getD_eq_getElem?_getD, List.getElem?_eq_none (by omega)]; simp
theorem qU7 {sz : List Int} (h1 : 1 ≤ sz.length) (h2 : sz.length ≤ 16) (h3 : 1 ≤ sz.getD 0 0) (hn : ∀ j, j < sz.length → 0 ≤ sz.getD j 0) (hs : sumL (sz.take sz.length) ≤ 4096) : fitsL sz = true := by
  rw [List.take_length] at hs
  refine decide_eq_true ⟨h1, h2, h3, fun x hx => ?_, hs⟩
  obtain ⟨j, hj, rfl⟩ := List.getElem_of_mem hx
  have := hn j hj
  rw [List.getD_eq_getElem?_getD, List.getElem?_eq_getElem hj] at this
  exact this
theorem yB8 {sz : List Int} {k : Nat} (hk : k < sz.length) (h : ¬ (0 ≤ sz.getD k 0 ∧ sumL (sz.take k) + sz.getD k 0 ≤ 4096)) : fitsL sz = false := by
  cases hf : fitsL sz with
  | false => rfl
  | true =>
    obtain ⟨-, -, -, h4, h5⟩ := zG2 hf
    have h6 := zJ0 hk
    have h7 := zH4 h4 (k + 1)
    have h8 := zH7 hf k
    exact absurd ⟨h8.1, by omega⟩ h
theorem qL1 {sz : List Int} (h : ¬ (1 ≤ sz.length ∧ sz.length ≤ 16 ∧ 1 ≤ sz.getD 0 0)) : fitsL sz = false := decide_eq_false fun ⟨a, b, c, _⟩ => h ⟨a, b, c⟩
def placeM (sz : List Int) (seg a : Int) : Int := if fitsL sz = true ∧ 0 ≤ seg ∧ seg < sz.length ∧ 0 ≤ a ∧ a < sz.getD seg.toNat 0 then a + sumL (sz.take seg.toNat) else -1
theorem qF2 {sz : List Int} (h : fitsL sz = true) {seg a : Int} : withinP sz seg a 1 = decide (0 ≤ seg ∧ seg < sz.length ∧ 0 ≤ a ∧ a < sz.getD seg.toNat 0) := by
  have hs := zH7 h seg.toNat
  unfold withinP addOk
  rw [← Bool.decide_and]
  exact decide_eq_decide.2 (by omega)
/-! ### sums of bytes -/
theorem zQ2 (op : BinOp) (a b : Int) : 0 ≤ bitop op .u32 a b ∧ bitop op .u32 a b ≤ 4294967295 := by
  unfold bitop
  have hw : ∀ n : Int, IntKind.u32.wrap n = n % 4294967296 := fun n => by simp [IntKind.wrap, IntKind.signed, IntKind.bits]
  rw [hw]; omega
def crcS (n : Int) : Int := if n % 2 = 1 then bitop .xor .u32 (n / 2) 2197175160 else n / 2
theorem yI1 {n : Int} (h0 : 0 ≤ n) (h1 : n ≤ 4294967295) : 0 ≤ crcS n ∧ crcS n ≤ 4294967295 := by
  unfold crcS
  split
  · exact zQ2 _ _ _
  · omega
def crcN (n : Int) : Nat → Int
  | 0 => n
  | k + 1 => crcS (crcN n k)
theorem qA9 {n : Int} (h0 : 0 ≤ n) (h1 : n ≤ 4294967295) : ∀ k, 0 ≤ crcN n k ∧ crcN n k ≤ 4294967295
  | 0 => ⟨h0, h1⟩
  | k + 1 => yI1 (qA9 h0 h1 k).1 (qA9 h0 h1 k).2
def crcB (n : Int) (xs : List Int) : Nat → Int
  | 0 => n
  | k + 1 => crcN (bitop .xor .u32 (crcB n xs k) (xs.getD k 0)) 8
theorem yI2 {n : Int} (h0 : 0 ≤ n) (h1 : n ≤ 4294967295) (xs : List Int) : ∀ k, 0 ≤ crcB n xs k ∧ crcB n xs k ≤ 4294967295
  | 0 => ⟨h0, h1⟩
  | k + 1 => qA9 (zQ2 _ _ _).1 (zQ2 _ _ _).2 8
def crcP (xs : List Int) : Int := bitop .xor .u32 (crcB (bitop .xor .u32 0 4294967295) xs xs.length) 4294967295
def wordsM (sz : List Int) : Nat := if fitsL sz then (sumL sz).toNat else 0
theorem zG9 (sz : List Int) : wordsM sz ≤ 4096 := by
  unfold wordsM
  split
  · rename_i h; have := (zG2 h).2.2.2.2; omega
  · omega
theorem zF4 {sz : List Int} (h : fitsL sz = true) : (wordsM sz : Int) = sumL sz ∧ 1 ≤ wordsM sz := by
  obtain ⟨h1, -, h3, h4, -⟩ := zG2 h
  have hn := zX9 h4
  have h5 := zH4 h4 1
  have h6 : sumL (sz.take 1) = sumL (sz.take 0) + sz.getD 0 0 := zJ0 (by omega)
  simp only [List.take_zero, sumL, Int.zero_add] at h6
  unfold wordsM
  rw [if_pos h]
  omega
def chunksM (sz : List Int) : Nat := (wordsM sz + 7) / 8
def sizeM (sz : List Int) (i : Int) : Int := if i < 0 ∨ i ≥ (chunksM sz : Int) then 0 else min 64 (8 * (wordsM sz : Int) - 64 * i)
section
variable {P : Program} {e : Env} {w : World} {K : Value → World → Prop} {d : Option Nat} {ty : TypeId} {pos : String} {af : Array Edge} {g : Option (Nat × Bool)} {t : TypeId} {x y : Operand} {k : IntKind} {i : Int}
theorem yI3 {s : ByteArray} [hs : StrI P t] (hx : ev e x = .string s) (hy : ev e y = .int k i) (h0 : 0 ≤ i) (h1 : i < s.size) (h : ∀ hlt : i.toNat < s.size, K (.int .u8 (s[i.toNat]'hlt).toNat) w) : Run1 P ⟨d, .index t x y, ty, pos, af, g⟩ e w K := by
  refine zF7 (w' := w) ?_ (h (by omega))
  simp only [execOp, hx, hy, Sem.run_bind, run_index_string w t s k i hs.h, dif_pos (And.intro h0 h1)]
  rfl
theorem yB9 {n cap : Nat} {ad : Option Addr} {el : TypeId} {sz : Nat} {kh km : IntKind} [hui : ElI P t el sz] {hi mx : Operand} {h m : Int} (hx : ev e x = .slice ad n cap) (hh : ev e hi = .int kh h) (hm : ev e mx = .int km m) (h0 : 0 ≤ h) (h2 : h ≤ m) (h3 : m ≤ cap)
    (hK : K (.slice (if m.toNat = 0 then ad else ad.map (·.add (0 * sz))) h.toNat m.toNat) w) : Run1 P ⟨d, .slice t x none (some hi) (some mx), ty, pos, af, g⟩ e w K := by
  obtain ⟨hu, inf, hi', rfl⟩ := zP6 hui.h
  refine zF7 (w' := w) ?_ hK
  simp only [execOp, Option.map_some, Option.map_none, hx, hh, hm, Sem.run_bind, run_sliceAt_slice w t _ _ _ _ hu, run_slice_hm w t ad n cap hu kh km h m h0 h2 h3, sizeOf, typeInfo, program, Sem.run, hi', Sem.run_pure, Result.andThen_ok, sliced, Nat.sub_zero]
theorem qC3 {q u : TypeId} {p : Option Addr} (hu : P.underlying t = some (.pointer q)) (hx : ev e x = .pointer p) (hy : ev e y = .pointer none) (h : K (.bool p.isNone) w) : Run1 P ⟨d, .binOp .eql t x y u, ty, pos, af, g⟩ e w K := by
  have hu2 : P.underlying t = some (.pointer (P.pointee t)) := by
    have : P.pointee t = q := by simp [Program.pointee, hu]
    rw [this]; exact hu
  refine zF7 (w' := w) (v := .bool p.isNone) ?_ h
  have hg : ∀ w : World, (eqGuard .eql t x y (.pointer p) (.pointer none)).run P w = .ok () w := fun _ => rfl
  have hb : (binOp .eql t (.pointer p) (.pointer none)).run P w = .ok (.bool p.isNone) w := by
    simp only [binOp]
    simp [run_equal_pointer_nil w t p hu2]
  simp only [execOp, hx, hy, Sem.run_bind, hg, Result.andThen_ok, hb, Sem.run_pure]
end
end Go.Proofs.YtifhcfhdajkhlaaGreat.K

namespace Go.Proofs.YtifhcfhdajkhlaaGreat.K
open Go Go.RowKit Go.Proofs
attribute [local irreducible] Run1 OpG WL W AO Gives
set_option maxRecDepth 100000 in
theorem qF3 (w : World) (n : Int) (h0 : 0 ≤ n) (h1 : n ≤ 140737488355328) : Gives Tryz.prog 79 #[.int .i64 n, .int .i64 8] w (.int .i64 ((n + 7) / 8)) := by
 have G := Grow.rfl' w
 refine zC7 Tryz.func79 Tryz.ntmps79 Tryz.results79 rfl rfl ?_
 refine zA6 (zA1 rfl ?_)
 refine stp (zA0 rfl ?_)
 refine zA4 ?_
 refine zA6 ?_
 refine zA6 (zA1 rfl ?_)
 refine stp (zA2 rfl ?_)
 refine stp (zF9 rfl rfl ?_)
 refine stp (zB9 rfl ?_)
 refine zA3 (zC2 (s := .bool (decide (n < 0))) (b := false) (v := .int .i64 n) rfl (zD1 _) (fun hc1 => ?_) ?_)
 ·
  have hc1_ := hc1
  try simp only [sb] at hc1_
  refine zA2 rfl ?_
  exact ⟨rfl, rfl⟩
 refine zA3 (zC2 (s := .bool (decide (n < 0))) (b := false) (v := .bool (decide (n > 9007199254740992))) rfl (zD1 _) (fun hc2 => ?_) ?_)
 ·
  have hc2_ := hc2
  try simp only [sb] at hc2_
  refine zM7 (gvt hc2) rfl ?_
  exact ⟨rfl, rfl⟩
 refine stp (zI6 rfl rfl rfl ?_)
 refine stp (zB9 rfl ?_)
 refine zA3 (zC2 (s := .bool ((decide (n < 0)) || (decide (n > 9007199254740992)))) (b := false) (v := .int .i64 8) rfl (zD1 _) (fun hc3 => ?_) ?_)
 ·
  have hc3_ := hc3
  try simp only [sb] at hc3_
  refine zA2 rfl ?_
  exact ⟨rfl, rfl⟩
 refine zA3 (zC2 (s := .bool ((decide (n < 0)) || (decide (n > 9007199254740992)))) (b := false) (v := .bool false) rfl (zD1 _) (fun hc4 => ?_) ?_)
 ·
  have hc4_ := hc4
  try simp only [sb] at hc4_
  refine zM5 (gvt hc4) rfl (by decide) ?_
  exact ⟨rfl, rfl⟩
 refine stp (zI6 rfl rfl rfl ?_)
 refine stp (zB9 rfl ?_)
 refine zA3 (zC2 (s := .bool (((decide (n < 0)) || (decide (n > 9007199254740992))) || false)) (b := false) (v := .int .i64 8) rfl (zD1 _) (fun hc5 => ?_) ?_)
 ·
  have hc5_ := hc5
  try simp only [sb] at hc5_
  refine zA2 rfl ?_
  exact ⟨rfl, rfl⟩
 refine zA3 (zC2 (s := .bool (((decide (n < 0)) || (decide (n > 9007199254740992))) || false)) (b := false) (v := .bool false) rfl (zD1 _) (fun hc6 => ?_) ?_)
 ·
  have hc6_ := hc6
  try simp only [sb] at hc6_
  refine qP7 (gvt hc6) rfl (by decide) ?_
  exact ⟨rfl, rfl⟩
 refine stp (zI6 rfl rfl rfl ?_)
 refine zA4 ?_
 refine zB8 (b := ((((decide (n < 0)) || (decide (n > 9007199254740992))) || false) || false)) rfl (fun h1 => ?_) (fun h1 => ?_)
 ·-- true
  simp only [sb] at h1
  refine zA6 (zA1 rfl ?_)
  refine stp (zA0 rfl ?_)
  refine zA4 ?_
  refine zC4 ?_
  refine ret1 (zB3 (v := .int .i64 0) rfl) ⟨?_, G⟩
  first | (exfalso; omega; done) | (congr 1; omega)
 ·-- false
  simp only [sb] at h1
  refine zC3 ?_
  refine zA6 (zA1 rfl ?_)
  refine stp (zA2 rfl ?_)
  refine stp (zA2 rfl ?_)
  refine stp (zD8 rfl rfl ?_ ?_); constructor <;> omega
  refine stp (zM0 rfl rfl ?_ ?_); constructor <;> omega
  refine stp (zA2 rfl ?_)
  refine stp (zK3 rfl rfl ?_ ?_ ?_ ?_); omega; omega; (constructor <;> omega)
  refine stp (zA0 rfl ?_)
  refine zA4 ?_
  refine zC4 ?_
  refine ret1 (zB3 (v := .int .i64 (((n + 8) - 1) / 8)) rfl) ⟨?_, G⟩
  first | (exfalso; omega; done) | (congr 1; omega)

set_option maxRecDepth 100000 in
theorem qQ8 (w : World) {c : List Value} {t : Nd} (T : NodeR w c t) : Gives Tryz.prog 92 #[.agg c.toArray] w (.int .i64 t.need) := by
 obtain @⟨kind, size, words, bytes, kids, ws, bs, ks, kc, hk, hs, hW, hwr, hB, hbr, hK, hKs⟩ := T
 obtain ⟨aw, cw, rfl, hcw, hcw2, RW⟩ := hW
 obtain ⟨ab, cb, rfl, hcb, hcb2, RB⟩ := hB
 obtain ⟨ak, ck, rfl, hck, hck2, RK⟩ := hK
 have lw := RW.lim
 have lb := RB.lim
 have lk := RK.lim
 simp only [inR] at hk hs
 have G := Grow.rfl' w
 refine zC7 Tryz.func92 Tryz.ntmps92 Tryz.results92 rfl rfl ?_
 refine zA6 (zA1 rfl ?_)
 refine zA3 (og rfl ?_)
 (first | refine zD0 rfl ?_ | refine zD2 rfl ?_ | refine zC5 rfl ?_ | refine zH0 rfl rfl ?_)
 intro b1 w2 hb3 hc4 g5
 have hge6 := Nat.le_trans G.size hb3
 replace G := G.tr g5
 clear g5 hb3
 refine stp (zA0 rfl ?_)
 refine zA4 ?_
 refine zA6 ?_
 refine zA6 (zA1 rfl ?_)
 refine stp (zA5 rfl ?_)
 refine stp (zB5 (v := .int .i64 kind) rfl hc4 rfl ?_)
 refine zA4 ?_
 refine zC6 ?_
 refine zA6 (zA1 rfl ?_)
 refine stp (zE9 rfl rfl ?_)
 refine stp (zC1 rfl ?_)
 refine zA4 ?_
 refine zB8 (b := (decide (kind = 1))) rfl (fun h1 => ?_) (fun h1 => ?_)
 ·-- true
  replace h1 := of_decide_eq_true h1
  refine zA6 (zA1 rfl ?_)
  refine stp (zA5 rfl ?_)
  refine stp (zB5 (v := .slice aw words.length cw) rfl hc4 rfl ?_)
  refine stp (zE8 rfl rfl rfl ?_)
  refine stp (zA5 rfl ?_)
  refine stp (zB5 (v := .slice ak kids.length ck) rfl hc4 rfl ?_)
  refine stp (zE8 rfl rfl rfl ?_)
  refine stp (zD8 rfl rfl ?_ ?_); constructor <;> omega
  refine stp (zA0 rfl ?_)
  refine zA4 ?_
  refine zC4 ?_
  refine ret1 (zB3 (v := .int .i64 ((words.length : Int) + (kids.length : Int))) rfl) ⟨?_, G⟩
  simp [Nd.need, *]
 ·-- false
  replace h1 := of_decide_eq_false h1
  refine zA6 (zA1 rfl ?_)
  refine stp (zE9 rfl rfl ?_)
  refine stp (zC1 rfl ?_)
  refine zA4 ?_
  refine zB8 (b := (decide (kind = 2))) rfl (fun h2 => ?_) (fun h2 => ?_)
  ·-- true
   replace h2 := of_decide_eq_true h2
   refine zA6 (zA1 rfl ?_)
   refine stp (zA5 rfl ?_)
   refine stp (zB5 (v := .slice aw words.length cw) rfl hc4 rfl ?_)
   refine stp (zE8 rfl rfl rfl ?_)
   refine stp (zA5 rfl ?_)
   refine stp (zB5 (v := .slice ak kids.length ck) rfl hc4 rfl ?_)
   refine stp (zE8 rfl rfl rfl ?_)
   refine stp (zD8 rfl rfl ?_ ?_); constructor <;> omega
   refine stp (zA5 rfl ?_)
   refine stp (zB5 (v := .slice ab bytes.length cb) rfl hc4 rfl ?_)
   refine stp (zE8 rfl rfl rfl ?_)
   refine stp (zD8 rfl rfl ?_ ?_); constructor <;> omega
   refine stp (zK3 rfl rfl ?_ ?_ ?_ ?_); omega; omega; (constructor <;> omega)
   refine stp (zD8 rfl rfl ?_ ?_); constructor <;> omega
   refine stp (zA0 rfl ?_)
   refine zA4 ?_
   refine zC4 ?_
   refine ret1 (zB3 (v := .int .i64 (((words.length : Int) + (kids.length : Int)) + (((bytes.length : Int) + 7) / 8))) rfl) ⟨?_, G⟩
   simp [Nd.need, *]
  ·-- false
   replace h2 := of_decide_eq_false h2
   refine zC3 ?_
   refine zA6 (zA1 rfl ?_)
   refine stp (zA0 rfl ?_)
   refine zA4 ?_
   refine zC4 ?_
   refine ret1 (zB3 (v := .int .i64 0) rfl) ⟨?_, G⟩
   simp [Nd.need, *]

set_option maxRecDepth 100000 in
theorem qW7 : ∀ (n_ : Nat) (w : World) {c : List Value} {t : Nd} (T : NodeR w c t) {left : Nat} (hl : left ≤ 32), t.sz ≤ n_ → Gives Tryz.prog 91 #[.agg c.toArray, .int .i64 (left : Int)] w (.bool (t.right left)) := by
 intro n_
 induction n_ with
 | zero => intro w c t T left hl hm_; exact absurd hm_ (by have := t.sz_pos; omega)
 | succ n_ ih_ =>
 intro w c t T left hl hm_
 have T0 := T
 obtain @⟨kind, size, words, bytes, kids, ws, bs, ks, kc, hk, hs, hW, hwr, hB, hbr, hK, hKs⟩ := T
 obtain ⟨aw, cw, rfl, hcw, hcw2, RW⟩ := hW
 obtain ⟨ab, cb, rfl, hcb, hcb2, RB⟩ := hB
 obtain ⟨ak, ck, rfl, hck, hck2, RK⟩ := hK
 have lw := RW.lim
 have lb := RB.lim
 have lk := RK.lim
 simp only [inR] at hk hs
 have G := Grow.rfl' w
 refine zC7 Tryz.func91 Tryz.ntmps91 Tryz.results91 rfl rfl ?_
 refine zA6 (zA1 rfl ?_)
 refine zA3 (og rfl ?_)
 (first | refine zD0 rfl ?_ | refine zD2 rfl ?_ | refine zC5 rfl ?_ | refine zH0 rfl rfl ?_)
 intro b1 w2 hb3 hc4 g5
 have hge6 := Nat.le_trans G.size hb3
 replace G := G.tr g5
 clear g5 hb3
 refine stp (zA8 (v := .bool false) rfl ?_)
 refine zA4 ?_
 refine zA6 ?_
 refine zA6 (zA1 rfl ?_)
 refine stp (zA5 rfl ?_)
 refine stp (zB5 (v := .int .i64 kind) rfl hc4 rfl ?_)
 refine stp (zE9 rfl rfl ?_)
 refine zA4 ?_
 refine zB8 (b := (decide (kind = 0))) rfl (fun h1 => ?_) (fun h1 => ?_)
 ·-- true
  replace h1 := of_decide_eq_true h1
  refine zA6 (zA1 rfl ?_)
  refine stp (zA5 rfl ?_)
  refine stp (zB5 (v := .int .i64 size) rfl hc4 rfl ?_)
  refine stp (zE9 rfl rfl ?_)
  refine stp (zB9 rfl ?_)
  refine zA3 (zC2 (s := .bool (decide (size = 0))) (b := true) (v := .pointer (some ⟨b1, 2, none⟩)) rfl (zF2 _) (fun hc7 => ?_) ?_)
  ·
   have hc7_ := of_decide_eq_true hc7
   refine zA5 rfl ?_
   exact ⟨rfl, rfl⟩
  refine zA3 (zC2 (s := .bool (decide (size = 0))) (b := true) (v := .slice aw words.length cw) rfl (zF2 _) (fun hc8 => ?_) ?_)
  ·
   have hc8_ := of_decide_eq_true hc8
   refine zB5 (v := .slice aw words.length cw) (gvt hc8) hc4 rfl ?_
   exact ⟨rfl, rfl⟩
  refine zA3 (zC2 (s := .bool (decide (size = 0))) (b := true) (v := .int .i64 (words.length : Int)) rfl (zF2 _) (fun hc9 => ?_) ?_)
  ·
   have hc9_ := of_decide_eq_true hc9
   refine zE8 rfl rfl (gvt hc9) ?_
   exact ⟨rfl, rfl⟩
  refine zA3 (zC2 (s := .bool (decide (size = 0))) (b := true) (v := .pointer (some ⟨b1, 3, none⟩)) rfl (zF2 _) (fun hc10 => ?_) ?_)
  ·
   have hc10_ := of_decide_eq_true hc10
   refine zA5 rfl ?_
   exact ⟨rfl, rfl⟩
  refine zA3 (zC2 (s := .bool (decide (size = 0))) (b := true) (v := .slice ab bytes.length cb) rfl (zF2 _) (fun hc11 => ?_) ?_)
  ·
   have hc11_ := of_decide_eq_true hc11
   refine zB5 (v := .slice ab bytes.length cb) (gvt hc11) hc4 rfl ?_
   exact ⟨rfl, rfl⟩
  refine zA3 (zC2 (s := .bool (decide (size = 0))) (b := true) (v := .int .i64 (bytes.length : Int)) rfl (zF2 _) (fun hc12 => ?_) ?_)
  ·
   have hc12_ := of_decide_eq_true hc12
   refine zE8 rfl rfl (gvt hc12) ?_
   exact ⟨rfl, rfl⟩
  refine zA3 (zC2 (s := .bool (decide (size = 0))) (b := true) (v := .int .i64 ((words.length : Int) + (bytes.length : Int))) rfl (zF2 _) (fun hc13 => ?_) ?_)
  ·
   have hc13_ := of_decide_eq_true hc13
   refine zD8 (gvt hc13) (gvt hc13) ?_ ?_; constructor <;> omega
   exact ⟨rfl, rfl⟩
  refine zA3 (zC2 (s := .bool (decide (size = 0))) (b := true) (v := .pointer (some ⟨b1, 4, none⟩)) rfl (zF2 _) (fun hc14 => ?_) ?_)
  ·
   have hc14_ := of_decide_eq_true hc14
   refine zA5 rfl ?_
   exact ⟨rfl, rfl⟩
  refine zA3 (zC2 (s := .bool (decide (size = 0))) (b := true) (v := .slice ak kids.length ck) rfl (zF2 _) (fun hc15 => ?_) ?_)
  ·
   have hc15_ := of_decide_eq_true hc15
   refine zB5 (v := .slice ak kids.length ck) (gvt hc15) hc4 rfl ?_
   exact ⟨rfl, rfl⟩
  refine zA3 (zC2 (s := .bool (decide (size = 0))) (b := true) (v := .int .i64 (kids.length : Int)) rfl (zF2 _) (fun hc16 => ?_) ?_)
  ·
   have hc16_ := of_decide_eq_true hc16
   refine zE8 rfl rfl (gvt hc16) ?_
   exact ⟨rfl, rfl⟩
  refine zA3 (zC2 (s := .bool (decide (size = 0))) (b := true) (v := .int .i64 (((words.length : Int) + (bytes.length : Int)) + (kids.length : Int))) rfl (zF2 _) (fun hc17 => ?_) ?_)
  ·
   have hc17_ := of_decide_eq_true hc17
   refine zD8 (gvt hc17) (gvt hc17) ?_ ?_; constructor <;> omega
   exact ⟨rfl, rfl⟩
  refine zA3 (zC2 (s := .bool (decide (size = 0))) (b := true) (v := .bool (decide ((((words.length : Int) + (bytes.length : Int)) + (kids.length : Int)) = 0))) rfl (zF2 _) (fun hc18 => ?_) ?_)
  ·
   have hc18_ := of_decide_eq_true hc18
   refine zE9 (gvt hc18) rfl ?_
   exact ⟨rfl, rfl⟩
  refine stp (zJ2 rfl rfl rfl ?_)
  refine stp (zC1 rfl ?_)
  refine zA4 ?_
  refine zC4 ?_
  refine ret1 (zB3 (v := .bool ((decide (size = 0)) && (decide ((((words.length : Int) + (bytes.length : Int)) + (kids.length : Int)) = 0)))) rfl) ⟨?_, G⟩
  by_cases hs0 : size = 0 <;> by_cases hz : (words.length : Int) + bytes.length + kids.length = 0
  ·have hk := zZ1 hz; subst hk; simp [Nd.right, Nd.rights, Nd.own, h1, hs0]
  ·simp only [Nd.right, Nd.own, h1, hs0, hz, if_true, decide_true, decide_false, Bool.and_false, Bool.false_and]
  ·simp [Nd.right, Nd.own, h1, hs0]
  ·simp [Nd.right, Nd.own, h1, hs0]
 ·-- false
  replace h1 := of_decide_eq_false h1
  refine zC3 ?_
  refine zA6 (zA1 rfl ?_)
  refine stp (zA5 rfl ?_)
  refine stp (zB5 (v := .slice aw words.length cw) rfl hc4 rfl ?_)
  refine stp (zE8 rfl rfl rfl ?_)
  refine stp (zA0 rfl ?_)
  refine zA4 ?_
  refine zA6 (zA1 rfl ?_)
  refine stp (zA5 rfl ?_)
  refine stp (zB5 (v := .slice ab bytes.length cb) rfl hc4 rfl ?_)
  refine stp (zE8 rfl rfl rfl ?_)
  refine stp (zA0 rfl ?_)
  refine zA4 ?_
  refine zA6 (zA1 rfl ?_)
  refine stp (zA5 rfl ?_)
  refine stp (zB5 (v := .slice ak kids.length ck) rfl hc4 rfl ?_)
  refine stp (zE8 rfl rfl rfl ?_)
  refine stp (zA0 rfl ?_)
  refine zA4 ?_
  refine yN9 (fun e_ w_ => Fr [(1, .int .i64 (left : Int)), (2, .pointer (some ⟨b1, 0, none⟩)), (4, .bool false), (7, .int .i64 (kids.length : Int)), (8, .bool ((Nd.mk kind size words bytes kids).own))] e_ ∧ (w_.heap[b1]? = some (.cells #[.int .i64 kind, .int .i64 size, .slice aw words.length cw, .slice ab bytes.length cb, .slice ak kids.length ck] 71 (0, 0))) ∧ Grow w w_) ?_ ?_
  ·-- the parts
   refine zA1 rfl ?_
   refine stp (zA5 rfl ?_)
   refine stp (zB5 (v := .int .i64 kind) rfl hc4 rfl ?_)
   refine stp (zE9 rfl rfl ?_)
   refine stp (zB9 rfl ?_)
   refine zA3 (zC2 (s := .bool (decide (kind = 1))) (b := true) (v := .pointer (some ⟨b1, 1, none⟩)) rfl (zF2 _) (fun hc19 => ?_) ?_)
   ·
    have hc19_ := of_decide_eq_true hc19
    refine zA5 rfl ?_
    exact ⟨rfl, rfl⟩
   refine zA3 (zC2 (s := .bool (decide (kind = 1))) (b := true) (v := .int .i64 size) rfl (zF2 _) (fun hc20 => ?_) ?_)
   ·
    have hc20_ := of_decide_eq_true hc20
    refine zB5 (v := .int .i64 size) (gvt hc20) hc4 rfl ?_
    exact ⟨rfl, rfl⟩
   refine zA3 (zC2 (s := .bool (decide (kind = 1))) (b := true) (v := .bool (decide (size = 0))) rfl (zF2 _) (fun hc21 => ?_) ?_)
   ·
    have hc21_ := of_decide_eq_true hc21
    refine zE9 (gvt hc21) rfl ?_
    exact ⟨rfl, rfl⟩
   refine stp (zJ2 rfl rfl rfl ?_)
   refine stp (zB9 rfl ?_)
   refine zA3 (zC2 (s := .bool ((decide (kind = 1)) && (decide (size = 0)))) (b := true) (v := .int .i64 (words.length : Int)) rfl (zF2 _) (fun hc22 => ?_) ?_)
   ·
    obtain ⟨hc22a, hc22b⟩ := and_t hc22
    have hc22a_ := of_decide_eq_true hc22a
    have hc22b_ := of_decide_eq_true hc22b
    refine zA2 rfl ?_
    exact ⟨rfl, rfl⟩
   refine zA3 (zC2 (s := .bool ((decide (kind = 1)) && (decide (size = 0)))) (b := true) (v := .bool (decide ((words.length : Int) ≤ 100))) rfl (zF2 _) (fun hc23 => ?_) ?_)
   ·
    obtain ⟨hc23a, hc23b⟩ := and_t hc23
    have hc23a_ := of_decide_eq_true hc23a
    have hc23b_ := of_decide_eq_true hc23b
    refine qG9 (gvt hc23) rfl ?_
    exact ⟨rfl, rfl⟩
   refine stp (zJ2 rfl rfl rfl ?_)
   refine stp (zB9 rfl ?_)
   refine zA3 (zC2 (s := .bool (((decide (kind = 1)) && (decide (size = 0))) && (decide ((words.length : Int) ≤ 100)))) (b := true) (v := .int .i64 (bytes.length : Int)) rfl (zF2 _) (fun hc24 => ?_) ?_)
   ·
    obtain ⟨hc24a, hc24b⟩ := and_t hc24
    obtain ⟨hc24aa, hc24ab⟩ := and_t hc24a
    have hc24aa_ := of_decide_eq_true hc24aa
    have hc24ab_ := of_decide_eq_true hc24ab
    have hc24b_ := of_decide_eq_true hc24b
    refine zA2 rfl ?_
    exact ⟨rfl, rfl⟩
   refine zA3 (zC2 (s := .bool (((decide (kind = 1)) && (decide (size = 0))) && (decide ((words.length : Int) ≤ 100)))) (b := true) (v := .bool (decide ((bytes.length : Int) = 0))) rfl (zF2 _) (fun hc25 => ?_) ?_)
   ·
    obtain ⟨hc25a, hc25b⟩ := and_t hc25
    obtain ⟨hc25aa, hc25ab⟩ := and_t hc25a
    have hc25aa_ := of_decide_eq_true hc25aa
    have hc25ab_ := of_decide_eq_true hc25ab
    have hc25b_ := of_decide_eq_true hc25b
    refine zE9 (gvt hc25) rfl ?_
    exact ⟨rfl, rfl⟩
   refine stp (zJ2 rfl rfl rfl ?_)
   refine stp (zB9 rfl ?_)
   refine zA3 (zC2 (s := .bool ((((decide (kind = 1)) && (decide (size = 0))) && (decide ((words.length : Int) ≤ 100))) && (decide ((bytes.length : Int) = 0)))) (b := true) (v := .int .i64 (kids.length : Int)) rfl (zF2 _) (fun hc26 => ?_) ?_)
   ·
    obtain ⟨hc26a, hc26b⟩ := and_t hc26
    obtain ⟨hc26aa, hc26ab⟩ := and_t hc26a
    obtain ⟨hc26aaa, hc26aab⟩ := and_t hc26aa
    have hc26aaa_ := of_decide_eq_true hc26aaa
    have hc26aab_ := of_decide_eq_true hc26aab
    have hc26ab_ := of_decide_eq_true hc26ab
    have hc26b_ := of_decide_eq_true hc26b
    refine zA2 rfl ?_
    exact ⟨rfl, rfl⟩
   refine zA3 (zC2 (s := .bool ((((decide (kind = 1)) && (decide (size = 0))) && (decide ((words.length : Int) ≤ 100))) && (decide ((bytes.length : Int) = 0)))) (b := true) (v := .bool (decide ((kids.length : Int) ≤ 100))) rfl (zF2 _) (fun hc27 => ?_) ?_)
   ·
    obtain ⟨hc27a, hc27b⟩ := and_t hc27
    obtain ⟨hc27aa, hc27ab⟩ := and_t hc27a
    obtain ⟨hc27aaa, hc27aab⟩ := and_t hc27aa
    have hc27aaa_ := of_decide_eq_true hc27aaa
    have hc27aab_ := of_decide_eq_true hc27aab
    have hc27ab_ := of_decide_eq_true hc27ab
    have hc27b_ := of_decide_eq_true hc27b
    refine qG9 (gvt hc27) rfl ?_
    exact ⟨rfl, rfl⟩
   refine stp (zJ2 rfl rfl rfl ?_)
   refine stp (zC1 rfl ?_)
   refine zA4 ?_
   refine zA6 (zA1 rfl ?_)
   refine stp (zA5 rfl ?_)
   refine stp (zB5 (v := .int .i64 kind) rfl hc4 rfl ?_)
   refine stp (zE9 rfl rfl ?_)
   refine zA4 ?_
   refine zB8 (b := (decide (kind = 2))) rfl (fun h2 => ?_) (fun h2 => ?_)
   ·-- true
    replace h2 := of_decide_eq_true h2
    refine zA1 rfl ?_
    refine stp (zA5 rfl ?_)
    refine stp (zB5 (v := .int .i64 size) rfl hc4 rfl ?_)
    refine stp (zE9 rfl rfl ?_)
    refine stp (zB9 rfl ?_)
    refine zA3 (zC2 (s := .bool (decide (size = 2))) (b := true) (v := .int .i64 (words.length : Int)) rfl (zF2 _) (fun hc28 => ?_) ?_)
    ·
     have hc28_ := of_decide_eq_true hc28
     refine zA2 rfl ?_
     exact ⟨rfl, rfl⟩
    refine zA3 (zC2 (s := .bool (decide (size = 2))) (b := true) (v := .bool (decide ((words.length : Int) = 0))) rfl (zF2 _) (fun hc29 => ?_) ?_)
    ·
     have hc29_ := of_decide_eq_true hc29
     refine zE9 (gvt hc29) rfl ?_
     exact ⟨rfl, rfl⟩
    refine stp (zJ2 rfl rfl rfl ?_)
    refine stp (zB9 rfl ?_)
    refine zA3 (zC2 (s := .bool ((decide (size = 2)) && (decide ((words.length : Int) = 0)))) (b := true) (v := .int .i64 (kids.length : Int)) rfl (zF2 _) (fun hc30 => ?_) ?_)
    ·
     obtain ⟨hc30a, hc30b⟩ := and_t hc30
     have hc30a_ := of_decide_eq_true hc30a
     have hc30b_ := of_decide_eq_true hc30b
     refine zA2 rfl ?_
     exact ⟨rfl, rfl⟩
    refine zA3 (zC2 (s := .bool ((decide (size = 2)) && (decide ((words.length : Int) = 0)))) (b := true) (v := .bool (decide ((kids.length : Int) = 0))) rfl (zF2 _) (fun hc31 => ?_) ?_)
    ·
     obtain ⟨hc31a, hc31b⟩ := and_t hc31
     have hc31a_ := of_decide_eq_true hc31a
     have hc31b_ := of_decide_eq_true hc31b
     refine zE9 (gvt hc31) rfl ?_
     exact ⟨rfl, rfl⟩
    refine stp (zJ2 rfl rfl rfl ?_)
    refine stp (zB9 rfl ?_)
    refine zA3 (zC2 (s := .bool (((decide (size = 2)) && (decide ((words.length : Int) = 0))) && (decide ((kids.length : Int) = 0)))) (b := true) (v := .int .i64 (bytes.length : Int)) rfl (zF2 _) (fun hc32 => ?_) ?_)
    ·
     obtain ⟨hc32a, hc32b⟩ := and_t hc32
     obtain ⟨hc32aa, hc32ab⟩ := and_t hc32a
     have hc32aa_ := of_decide_eq_true hc32aa
     have hc32ab_ := of_decide_eq_true hc32ab
     have hc32b_ := of_decide_eq_true hc32b
     refine zA2 rfl ?_
     exact ⟨rfl, rfl⟩
    refine zA3 (zC2 (s := .bool (((decide (size = 2)) && (decide ((words.length : Int) = 0))) && (decide ((kids.length : Int) = 0)))) (b := true) (v := .bool (decide ((bytes.length : Int) ≤ 4096))) rfl (zF2 _) (fun hc33 => ?_) ?_)
    ·
     obtain ⟨hc33a, hc33b⟩ := and_t hc33
     obtain ⟨hc33aa, hc33ab⟩ := and_t hc33a
     have hc33aa_ := of_decide_eq_true hc33aa
     have hc33ab_ := of_decide_eq_true hc33ab
     have hc33b_ := of_decide_eq_true hc33b
     refine qG9 (gvt hc33) rfl ?_
     exact ⟨rfl, rfl⟩
    refine stp (zJ2 rfl rfl rfl ?_)
    refine stp (zB9 rfl ?_)
    refine zA3 (zC2 (s := .bool ((((decide (size = 2)) && (decide ((words.length : Int) = 0))) && (decide ((kids.length : Int) = 0))) && (decide ((bytes.length : Int) ≤ 4096)))) (b := false) (v := .pointer (some ⟨b1, 1, none⟩)) rfl (zD1 _) (fun hc34 => ?_) ?_)
    ·
     have hc34_ := hc34
     try simp only [sb] at hc34_
     refine zA5 rfl ?_
     exact ⟨rfl, rfl⟩
    refine zA3 (zC2 (s := .bool ((((decide (size = 2)) && (decide ((words.length : Int) = 0))) && (decide ((kids.length : Int) = 0))) && (decide ((bytes.length : Int) ≤ 4096)))) (b := false) (v := .int .i64 size) rfl (zD1 _) (fun hc35 => ?_) ?_)
    ·
     have hc35_ := hc35
     try simp only [sb] at hc35_
     refine zB5 (v := .int .i64 size) (gvt hc35) hc4 rfl ?_
     exact ⟨rfl, rfl⟩
    refine zA3 (zC2 (s := .bool ((((decide (size = 2)) && (decide ((words.length : Int) = 0))) && (decide ((kids.length : Int) = 0))) && (decide ((bytes.length : Int) ≤ 4096)))) (b := false) (v := .bool (decide (size = 5))) rfl (zD1 _) (fun hc36 => ?_) ?_)
    ·
     have hc36_ := hc36
     try simp only [sb] at hc36_
     refine zE9 (gvt hc36) rfl ?_
     exact ⟨rfl, rfl⟩
    refine zA3 (zC2 (s := .bool ((((decide (size = 2)) && (decide ((words.length : Int) = 0))) && (decide ((kids.length : Int) = 0))) && (decide ((bytes.length : Int) ≤ 4096)))) (b := false) (v := .bool (decide (size = 5))) rfl (zD1 _) (fun hc37 => ?_) ?_)
    ·
     have hc37_ := hc37
     try simp only [sb] at hc37_
     refine zB6 (v := .bool (decide (size = 5))) (gvt hc37) ?_
     exact ⟨rfl, rfl⟩
    refine zA3 (zC2 (s := gv (!((((decide (size = 2)) && (decide ((words.length : Int) = 0))) && (decide ((kids.length : Int) = 0))) && (decide ((bytes.length : Int) ≤ 4096)))) (.bool (decide (size = 5)))) (b := true) (v := .int .i64 (bytes.length : Int)) rfl (zK4 _ _) (fun hc38 => ?_) ?_)
    ·
     obtain ⟨hc38a, hc38b⟩ := and_t hc38
     have hc38a_ := hc38a
     try simp only [sb] at hc38a_
     have hc38b_ := of_decide_eq_true hc38b
     refine zA2 rfl ?_
     exact ⟨rfl, rfl⟩
    refine zA3 (zC2 (s := gv (!((((decide (size = 2)) && (decide ((words.length : Int) = 0))) && (decide ((kids.length : Int) = 0))) && (decide ((bytes.length : Int) ≤ 4096)))) (.bool (decide (size = 5)))) (b := true) (v := .bool (decide ((bytes.length : Int) = 0))) rfl (zK4 _ _) (fun hc39 => ?_) ?_)
    ·
     obtain ⟨hc39a, hc39b⟩ := and_t hc39
     have hc39a_ := hc39a
     try simp only [sb] at hc39a_
     have hc39b_ := of_decide_eq_true hc39b
     refine zE9 (gvt hc39) rfl ?_
     exact ⟨rfl, rfl⟩
    refine zA3 (zC2 (s := .bool ((((decide (size = 2)) && (decide ((words.length : Int) = 0))) && (decide ((kids.length : Int) = 0))) && (decide ((bytes.length : Int) ≤ 4096)))) (b := false) (v := .bool ((decide (size = 5)) && (decide ((bytes.length : Int) = 0)))) rfl (zD1 _) (fun hc40 => ?_) ?_)
    ·
     have hc40_ := hc40
     try simp only [sb] at hc40_
     refine zZ3 hc40 (gvt hc40) rfl rfl ?_
     exact ⟨rfl, rfl⟩
    refine zA3 (zC2 (s := .bool ((((decide (size = 2)) && (decide ((words.length : Int) = 0))) && (decide ((kids.length : Int) = 0))) && (decide ((bytes.length : Int) ≤ 4096)))) (b := false) (v := .bool ((decide (size = 5)) && (decide ((bytes.length : Int) = 0)))) rfl (zD1 _) (fun hc41 => ?_) ?_)
    ·
     have hc41_ := hc41
     try simp only [sb] at hc41_
     refine zB6 (v := .bool ((decide (size = 5)) && (decide ((bytes.length : Int) = 0)))) (gvt hc41) ?_
     exact ⟨rfl, rfl⟩
    refine zA3 (zC2 (s := gv (!((((decide (size = 2)) && (decide ((words.length : Int) = 0))) && (decide ((kids.length : Int) = 0))) && (decide ((bytes.length : Int) ≤ 4096)))) (.bool ((decide (size = 5)) && (decide ((bytes.length : Int) = 0))))) (b := true) (v := .int .i64 (kids.length : Int)) rfl (zK4 _ _) (fun hc42 => ?_) ?_)
    ·
     obtain ⟨hc42a, hc42b⟩ := and_t hc42
     have hc42a_ := hc42a
     try simp only [sb] at hc42a_
     obtain ⟨hc42ba, hc42bb⟩ := and_t hc42b
     have hc42ba_ := of_decide_eq_true hc42ba
     have hc42bb_ := of_decide_eq_true hc42bb
     refine zA2 rfl ?_
     exact ⟨rfl, rfl⟩
    refine zA3 (zC2 (s := gv (!((((decide (size = 2)) && (decide ((words.length : Int) = 0))) && (decide ((kids.length : Int) = 0))) && (decide ((bytes.length : Int) ≤ 4096)))) (.bool ((decide (size = 5)) && (decide ((bytes.length : Int) = 0))))) (b := true) (v := .bool (decide ((kids.length : Int) = 0))) rfl (zK4 _ _) (fun hc43 => ?_) ?_)
    ·
     obtain ⟨hc43a, hc43b⟩ := and_t hc43
     have hc43a_ := hc43a
     try simp only [sb] at hc43a_
     obtain ⟨hc43ba, hc43bb⟩ := and_t hc43b
     have hc43ba_ := of_decide_eq_true hc43ba
     have hc43bb_ := of_decide_eq_true hc43bb
     refine zE9 (gvt hc43) rfl ?_
     exact ⟨rfl, rfl⟩
    refine zA3 (zC2 (s := .bool ((((decide (size = 2)) && (decide ((words.length : Int) = 0))) && (decide ((kids.length : Int) = 0))) && (decide ((bytes.length : Int) ≤ 4096)))) (b := false) (v := .bool (((decide (size = 5)) && (decide ((bytes.length : Int) = 0))) && (decide ((kids.length : Int) = 0)))) rfl (zD1 _) (fun hc44 => ?_) ?_)
    ·
     have hc44_ := hc44
     try simp only [sb] at hc44_
     refine zZ3 hc44 (gvt hc44) rfl rfl ?_
     exact ⟨rfl, rfl⟩
    refine zA3 (zC2 (s := .bool ((((decide (size = 2)) && (decide ((words.length : Int) = 0))) && (decide ((kids.length : Int) = 0))) && (decide ((bytes.length : Int) ≤ 4096)))) (b := false) (v := .bool (((decide (size = 5)) && (decide ((bytes.length : Int) = 0))) && (decide ((kids.length : Int) = 0)))) rfl (zD1 _) (fun hc45 => ?_) ?_)
    ·
     have hc45_ := hc45
     try simp only [sb] at hc45_
     refine zB6 (v := .bool (((decide (size = 5)) && (decide ((bytes.length : Int) = 0))) && (decide ((kids.length : Int) = 0)))) (gvt hc45) ?_
     exact ⟨rfl, rfl⟩
    refine zA3 (zC2 (s := gv (!((((decide (size = 2)) && (decide ((words.length : Int) = 0))) && (decide ((kids.length : Int) = 0))) && (decide ((bytes.length : Int) ≤ 4096)))) (.bool (((decide (size = 5)) && (decide ((bytes.length : Int) = 0))) && (decide ((kids.length : Int) = 0))))) (b := true) (v := .int .i64 (words.length : Int)) rfl (zK4 _ _) (fun hc46 => ?_) ?_)
    ·
     obtain ⟨hc46a, hc46b⟩ := and_t hc46
     have hc46a_ := hc46a
     try simp only [sb] at hc46a_
     obtain ⟨hc46ba, hc46bb⟩ := and_t hc46b
     obtain ⟨hc46baa, hc46bab⟩ := and_t hc46ba
     have hc46baa_ := of_decide_eq_true hc46baa
     have hc46bab_ := of_decide_eq_true hc46bab
     have hc46bb_ := of_decide_eq_true hc46bb
     refine zA2 rfl ?_
     exact ⟨rfl, rfl⟩
    refine zA3 (zC2 (s := gv (!((((decide (size = 2)) && (decide ((words.length : Int) = 0))) && (decide ((kids.length : Int) = 0))) && (decide ((bytes.length : Int) ≤ 4096)))) (.bool (((decide (size = 5)) && (decide ((bytes.length : Int) = 0))) && (decide ((kids.length : Int) = 0))))) (b := true) (v := .bool (decide ((words.length : Int) ≤ 4096))) rfl (zK4 _ _) (fun hc47 => ?_) ?_)
    ·
     obtain ⟨hc47a, hc47b⟩ := and_t hc47
     have hc47a_ := hc47a
     try simp only [sb] at hc47a_
     obtain ⟨hc47ba, hc47bb⟩ := and_t hc47b
     obtain ⟨hc47baa, hc47bab⟩ := and_t hc47ba
     have hc47baa_ := of_decide_eq_true hc47baa
     have hc47bab_ := of_decide_eq_true hc47bab
     have hc47bb_ := of_decide_eq_true hc47bb
     refine qG9 (gvt hc47) rfl ?_
     exact ⟨rfl, rfl⟩
    refine zA3 (zC2 (s := .bool ((((decide (size = 2)) && (decide ((words.length : Int) = 0))) && (decide ((kids.length : Int) = 0))) && (decide ((bytes.length : Int) ≤ 4096)))) (b := false) (v := .bool ((((decide (size = 5)) && (decide ((bytes.length : Int) = 0))) && (decide ((kids.length : Int) = 0))) && (decide ((words.length : Int) ≤ 4096)))) rfl (zD1 _) (fun hc48 => ?_) ?_)
    ·
     have hc48_ := hc48
     try simp only [sb] at hc48_
     refine zZ3 hc48 (gvt hc48) rfl rfl ?_
     exact ⟨rfl, rfl⟩
    refine stp (zI6 rfl rfl rfl ?_)
    refine stp (zB9 rfl ?_)
    refine zA3 (zC2 (s := .bool (((((decide (size = 2)) && (decide ((words.length : Int) = 0))) && (decide ((kids.length : Int) = 0))) && (decide ((bytes.length : Int) ≤ 4096))) || ((((decide (size = 5)) && (decide ((bytes.length : Int) = 0))) && (decide ((kids.length : Int) = 0))) && (decide ((words.length : Int) ≤ 4096))))) (b := false) (v := .pointer (some ⟨b1, 1, none⟩)) rfl (zD1 _) (fun hc49 => ?_) ?_)
    ·
     have hc49_ := hc49
     try simp only [sb] at hc49_
     refine zA5 rfl ?_
     exact ⟨rfl, rfl⟩
    refine zA3 (zC2 (s := .bool (((((decide (size = 2)) && (decide ((words.length : Int) = 0))) && (decide ((kids.length : Int) = 0))) && (decide ((bytes.length : Int) ≤ 4096))) || ((((decide (size = 5)) && (decide ((bytes.length : Int) = 0))) && (decide ((kids.length : Int) = 0))) && (decide ((words.length : Int) ≤ 4096))))) (b := false) (v := .int .i64 size) rfl (zD1 _) (fun hc50 => ?_) ?_)
    ·
     have hc50_ := hc50
     try simp only [sb] at hc50_
     refine zB5 (v := .int .i64 size) (gvt hc50) hc4 rfl ?_
     exact ⟨rfl, rfl⟩
    refine zA3 (zC2 (s := .bool (((((decide (size = 2)) && (decide ((words.length : Int) = 0))) && (decide ((kids.length : Int) = 0))) && (decide ((bytes.length : Int) ≤ 4096))) || ((((decide (size = 5)) && (decide ((bytes.length : Int) = 0))) && (decide ((kids.length : Int) = 0))) && (decide ((words.length : Int) ≤ 4096))))) (b := false) (v := .bool (decide (size = 6))) rfl (zD1 _) (fun hc51 => ?_) ?_)
    ·
     have hc51_ := hc51
     try simp only [sb] at hc51_
     refine zE9 (gvt hc51) rfl ?_
     exact ⟨rfl, rfl⟩
    refine zA3 (zC2 (s := .bool (((((decide (size = 2)) && (decide ((words.length : Int) = 0))) && (decide ((kids.length : Int) = 0))) && (decide ((bytes.length : Int) ≤ 4096))) || ((((decide (size = 5)) && (decide ((bytes.length : Int) = 0))) && (decide ((kids.length : Int) = 0))) && (decide ((words.length : Int) ≤ 4096))))) (b := false) (v := .bool (decide (size = 6))) rfl (zD1 _) (fun hc52 => ?_) ?_)
    ·
     have hc52_ := hc52
     try simp only [sb] at hc52_
     refine zB6 (v := .bool (decide (size = 6))) (gvt hc52) ?_
     exact ⟨rfl, rfl⟩
    refine zA3 (zC2 (s := gv (!(((((decide (size = 2)) && (decide ((words.length : Int) = 0))) && (decide ((kids.length : Int) = 0))) && (decide ((bytes.length : Int) ≤ 4096))) || ((((decide (size = 5)) && (decide ((bytes.length : Int) = 0))) && (decide ((kids.length : Int) = 0))) && (decide ((words.length : Int) ≤ 4096))))) (.bool (decide (size = 6)))) (b := true) (v := .int .i64 (bytes.length : Int)) rfl (zK4 _ _) (fun hc53 => ?_) ?_)
    ·
     obtain ⟨hc53a, hc53b⟩ := and_t hc53
     have hc53a_ := hc53a
     try simp only [sb] at hc53a_
     have hc53b_ := of_decide_eq_true hc53b
     refine zA2 rfl ?_
     exact ⟨rfl, rfl⟩
    refine zA3 (zC2 (s := gv (!(((((decide (size = 2)) && (decide ((words.length : Int) = 0))) && (decide ((kids.length : Int) = 0))) && (decide ((bytes.length : Int) ≤ 4096))) || ((((decide (size = 5)) && (decide ((bytes.length : Int) = 0))) && (decide ((kids.length : Int) = 0))) && (decide ((words.length : Int) ≤ 4096))))) (.bool (decide (size = 6)))) (b := true) (v := .bool (decide ((bytes.length : Int) = 0))) rfl (zK4 _ _) (fun hc54 => ?_) ?_)
    ·
     obtain ⟨hc54a, hc54b⟩ := and_t hc54
     have hc54a_ := hc54a
     try simp only [sb] at hc54a_
     have hc54b_ := of_decide_eq_true hc54b
     refine zE9 (gvt hc54) rfl ?_
     exact ⟨rfl, rfl⟩
    refine zA3 (zC2 (s := .bool (((((decide (size = 2)) && (decide ((words.length : Int) = 0))) && (decide ((kids.length : Int) = 0))) && (decide ((bytes.length : Int) ≤ 4096))) || ((((decide (size = 5)) && (decide ((bytes.length : Int) = 0))) && (decide ((kids.length : Int) = 0))) && (decide ((words.length : Int) ≤ 4096))))) (b := false) (v := .bool ((decide (size = 6)) && (decide ((bytes.length : Int) = 0)))) rfl (zD1 _) (fun hc55 => ?_) ?_)
    ·
     have hc55_ := hc55
     try simp only [sb] at hc55_
     refine zZ3 hc55 (gvt hc55) rfl rfl ?_
     exact ⟨rfl, rfl⟩
    refine zA3 (zC2 (s := .bool (((((decide (size = 2)) && (decide ((words.length : Int) = 0))) && (decide ((kids.length : Int) = 0))) && (decide ((bytes.length : Int) ≤ 4096))) || ((((decide (size = 5)) && (decide ((bytes.length : Int) = 0))) && (decide ((kids.length : Int) = 0))) && (decide ((words.length : Int) ≤ 4096))))) (b := false) (v := .bool ((decide (size = 6)) && (decide ((bytes.length : Int) = 0)))) rfl (zD1 _) (fun hc56 => ?_) ?_)
    ·
     have hc56_ := hc56
     try simp only [sb] at hc56_
     refine zB6 (v := .bool ((decide (size = 6)) && (decide ((bytes.length : Int) = 0)))) (gvt hc56) ?_
     exact ⟨rfl, rfl⟩
    refine zA3 (zC2 (s := gv (!(((((decide (size = 2)) && (decide ((words.length : Int) = 0))) && (decide ((kids.length : Int) = 0))) && (decide ((bytes.length : Int) ≤ 4096))) || ((((decide (size = 5)) && (decide ((bytes.length : Int) = 0))) && (decide ((kids.length : Int) = 0))) && (decide ((words.length : Int) ≤ 4096))))) (.bool ((decide (size = 6)) && (decide ((bytes.length : Int) = 0))))) (b := true) (v := .int .i64 (words.length : Int)) rfl (zK4 _ _) (fun hc57 => ?_) ?_)
    ·
     obtain ⟨hc57a, hc57b⟩ := and_t hc57
     have hc57a_ := hc57a
     try simp only [sb] at hc57a_
     obtain ⟨hc57ba, hc57bb⟩ := and_t hc57b
     have hc57ba_ := of_decide_eq_true hc57ba
     have hc57bb_ := of_decide_eq_true hc57bb
     refine zA2 rfl ?_
     exact ⟨rfl, rfl⟩
    refine zA3 (zC2 (s := gv (!(((((decide (size = 2)) && (decide ((words.length : Int) = 0))) && (decide ((kids.length : Int) = 0))) && (decide ((bytes.length : Int) ≤ 4096))) || ((((decide (size = 5)) && (decide ((bytes.length : Int) = 0))) && (decide ((kids.length : Int) = 0))) && (decide ((words.length : Int) ≤ 4096))))) (.bool ((decide (size = 6)) && (decide ((bytes.length : Int) = 0))))) (b := true) (v := .bool (decide ((words.length : Int) = 0))) rfl (zK4 _ _) (fun hc58 => ?_) ?_)
    ·
     obtain ⟨hc58a, hc58b⟩ := and_t hc58
     have hc58a_ := hc58a
     try simp only [sb] at hc58a_
     obtain ⟨hc58ba, hc58bb⟩ := and_t hc58b
     have hc58ba_ := of_decide_eq_true hc58ba
     have hc58bb_ := of_decide_eq_true hc58bb
     refine zE9 (gvt hc58) rfl ?_
     exact ⟨rfl, rfl⟩
    refine zA3 (zC2 (s := .bool (((((decide (size = 2)) && (decide ((words.length : Int) = 0))) && (decide ((kids.length : Int) = 0))) && (decide ((bytes.length : Int) ≤ 4096))) || ((((decide (size = 5)) && (decide ((bytes.length : Int) = 0))) && (decide ((kids.length : Int) = 0))) && (decide ((words.length : Int) ≤ 4096))))) (b := false) (v := .bool (((decide (size = 6)) && (decide ((bytes.length : Int) = 0))) && (decide ((words.length : Int) = 0)))) rfl (zD1 _) (fun hc59 => ?_) ?_)
    ·
     have hc59_ := hc59
     try simp only [sb] at hc59_
     refine zZ3 hc59 (gvt hc59) rfl rfl ?_
     exact ⟨rfl, rfl⟩
    refine zA3 (zC2 (s := .bool (((((decide (size = 2)) && (decide ((words.length : Int) = 0))) && (decide ((kids.length : Int) = 0))) && (decide ((bytes.length : Int) ≤ 4096))) || ((((decide (size = 5)) && (decide ((bytes.length : Int) = 0))) && (decide ((kids.length : Int) = 0))) && (decide ((words.length : Int) ≤ 4096))))) (b := false) (v := .bool (((decide (size = 6)) && (decide ((bytes.length : Int) = 0))) && (decide ((words.length : Int) = 0)))) rfl (zD1 _) (fun hc60 => ?_) ?_)
    ·
     have hc60_ := hc60
     try simp only [sb] at hc60_
     refine zB6 (v := .bool (((decide (size = 6)) && (decide ((bytes.length : Int) = 0))) && (decide ((words.length : Int) = 0)))) (gvt hc60) ?_
     exact ⟨rfl, rfl⟩
    refine zA3 (zC2 (s := gv (!(((((decide (size = 2)) && (decide ((words.length : Int) = 0))) && (decide ((kids.length : Int) = 0))) && (decide ((bytes.length : Int) ≤ 4096))) || ((((decide (size = 5)) && (decide ((bytes.length : Int) = 0))) && (decide ((kids.length : Int) = 0))) && (decide ((words.length : Int) ≤ 4096))))) (.bool (((decide (size = 6)) && (decide ((bytes.length : Int) = 0))) && (decide ((words.length : Int) = 0))))) (b := true) (v := .int .i64 (kids.length : Int)) rfl (zK4 _ _) (fun hc61 => ?_) ?_)
    ·
     obtain ⟨hc61a, hc61b⟩ := and_t hc61
     have hc61a_ := hc61a
     try simp only [sb] at hc61a_
     obtain ⟨hc61ba, hc61bb⟩ := and_t hc61b
     obtain ⟨hc61baa, hc61bab⟩ := and_t hc61ba
     have hc61baa_ := of_decide_eq_true hc61baa
     have hc61bab_ := of_decide_eq_true hc61bab
     have hc61bb_ := of_decide_eq_true hc61bb
     refine zA2 rfl ?_
     exact ⟨rfl, rfl⟩
    refine zA3 (zC2 (s := gv (!(((((decide (size = 2)) && (decide ((words.length : Int) = 0))) && (decide ((kids.length : Int) = 0))) && (decide ((bytes.length : Int) ≤ 4096))) || ((((decide (size = 5)) && (decide ((bytes.length : Int) = 0))) && (decide ((kids.length : Int) = 0))) && (decide ((words.length : Int) ≤ 4096))))) (.bool (((decide (size = 6)) && (decide ((bytes.length : Int) = 0))) && (decide ((words.length : Int) = 0))))) (b := true) (v := .bool (decide ((kids.length : Int) ≤ 4096))) rfl (zK4 _ _) (fun hc62 => ?_) ?_)
    ·
     obtain ⟨hc62a, hc62b⟩ := and_t hc62
     have hc62a_ := hc62a
     try simp only [sb] at hc62a_
     obtain ⟨hc62ba, hc62bb⟩ := and_t hc62b
     obtain ⟨hc62baa, hc62bab⟩ := and_t hc62ba
     have hc62baa_ := of_decide_eq_true hc62baa
     have hc62bab_ := of_decide_eq_true hc62bab
     have hc62bb_ := of_decide_eq_true hc62bb
     refine qG9 (gvt hc62) rfl ?_
     exact ⟨rfl, rfl⟩
    refine zA3 (zC2 (s := .bool (((((decide (size = 2)) && (decide ((words.length : Int) = 0))) && (decide ((kids.length : Int) = 0))) && (decide ((bytes.length : Int) ≤ 4096))) || ((((decide (size = 5)) && (decide ((bytes.length : Int) = 0))) && (decide ((kids.length : Int) = 0))) && (decide ((words.length : Int) ≤ 4096))))) (b := false) (v := .bool ((((decide (size = 6)) && (decide ((bytes.length : Int) = 0))) && (decide ((words.length : Int) = 0))) && (decide ((kids.length : Int) ≤ 4096)))) rfl (zD1 _) (fun hc63 => ?_) ?_)
    ·
     have hc63_ := hc63
     try simp only [sb] at hc63_
     refine zZ3 hc63 (gvt hc63) rfl rfl ?_
     exact ⟨rfl, rfl⟩
    refine stp (zI6 rfl rfl rfl ?_)
    refine stp (zC1 rfl ?_)
    refine zA4 ?_
    exact ⟨zE6 ⟨rfl, rfl, rfl, rfl, congrArg Value.bool (by first | exact qT9 h2 | exact qT8 h1 h2), trivial⟩, hc4, G⟩
   ·-- false
    replace h2 := of_decide_eq_false h2
    refine zC3 ?_
    exact ⟨zE6 ⟨rfl, rfl, rfl, rfl, congrArg Value.bool (by first | exact qT9 h2 | exact qT8 h1 h2), trivial⟩, hc4, G⟩
  ·-- behind them
   clear hc4
   clear G
   rintro e_ w64 ⟨⟨e65, rfl⟩, hc4, G⟩
   refine zA6 ?_
   refine zA6 (zA1 rfl ?_)
   refine stp (zB9 rfl ?_)
   refine stp (zN6 rfl ?_)
   refine stp (zB9 rfl ?_)
   refine zA3 (zC2 (s := .bool (!((Nd.mk kind size words bytes kids).own))) (b := false) (v := .int .i64 (left : Int)) rfl (zD1 _) (fun hc66 => ?_) ?_)
   ·
    have hc66_ := hc66
    try simp only [sb] at hc66_
    refine zA2 rfl ?_
    exact ⟨rfl, rfl⟩
   refine zA3 (zC2 (s := .bool (!((Nd.mk kind size words bytes kids).own))) (b := false) (v := .bool (decide ((left : Int) = 0))) rfl (zD1 _) (fun hc67 => ?_) ?_)
   ·
    have hc67_ := hc67
    try simp only [sb] at hc67_
    refine zE9 (gvt hc67) rfl ?_
    exact ⟨rfl, rfl⟩
   refine stp (zI6 rfl rfl rfl ?_)
   refine zA4 ?_
   refine zB8 (b := ((!((Nd.mk kind size words bytes kids).own)) || (decide ((left : Int) = 0)))) rfl (fun h4 => ?_) (fun h4 => ?_)
   ·-- true
    simp only [sb] at h4
    refine zA6 (zA1 rfl ?_)
    refine stp (zA8 (v := .bool false) rfl ?_)
    refine zA4 ?_
    refine zC4 ?_
    refine ret1 (zB3 (v := .bool false) rfl) ⟨?_, G⟩
    rcases h4 with h | h
    ·simp [Nd.right, h]
    ·simp [Nd.right, h1, show left = 0 from by omega]
   ·-- false
    simp only [sb] at h4
    refine zC3 ?_
    refine zA6 ?_
    refine zA6 (zA1 rfl ?_)
    refine stp (zA0 rfl ?_)
    refine zA4 ?_
    refine zC6 ?_
    refine zG6 (fun m_ e_ w_ => ∃ (k : Nat), m_ = kids.length - k ∧ Fr [(1, .int .i64 (left : Int)), (2, .pointer (some ⟨b1, 0, none⟩)), (7, .int .i64 (kids.length : Int)), (9, .int .i64 (k : Int))] e_ ∧ (k ≤ kids.length) ∧ (Nd.rights (kids.take k) (left - 1) = true) ∧ (w_.heap[b1]? = some (.cells #[.int .i64 kind, .int .i64 size, .slice aw words.length cw, .slice ab bytes.length cb, .slice ak kids.length ck] 71 (0, 0))) ∧ Grow w w_) _ ⟨0, rfl, zE6 ⟨rfl, rfl, rfl, rfl, trivial⟩, by omega, by simp [Nd.rights], hc4, G⟩ ?_
    clear hc4
    clear G
    rintro m_ e_ w68 ⟨k, rfl, ⟨e69, rfl⟩, hk2, hyes, hc4, G⟩
    refine zA6 ?_
    refine zA6 (zA1 rfl ?_)
    refine stp (zA2 rfl ?_)
    refine stp (zA2 rfl ?_)
    refine stp (zF9 rfl rfl ?_)
    refine zA4 ?_
    refine zB8 (b := (decide ((k : Int) < (kids.length : Int)))) rfl (fun hlt => ?_) (fun hlt => ?_)
    ·-- true
     replace hlt := of_decide_eq_true hlt
     have hi : k < kids.length := by omega
     have hat := KidsR.at_ k kids[k] hKs (by simp [hi])
     have hsz := Nd.szs_at kids k kids[k] (by simp [hi])
     refine zC3 ?_
     refine zA6 ?_
     refine zC6 ?_
     refine zA6 (zA1 rfl ?_)
     refine stp (zA5 rfl ?_)
     refine stp (zB5 (v := .slice ak kids.length ck) rfl hc4 rfl ?_)
     refine stp (zA2 rfl ?_)
     refine stp (zD9 (RK.grow G) rfl rfl ?_ ?_); omega
     refine stp (qU0 (RK.grow G) rfl (by decide) (by rw [RK.len]; omega) rfl ?_)
     refine stp (zA2 rfl ?_)
     refine stp (zM0 rfl rfl ?_ ?_); constructor <;> omega
     refine stp (zC0 (v := .bool (kids[k].right (left - 1))) rfl ((by have h := ih_ _ (hat.grow G) (left := left - 1) (by omega) (by simp only [Nd.sz] at hm_; omega); rw [← show ((left : Int) - 1) = ((left - 1 : Nat) : Int) from by omega] at h; exact h)) ?_)
     intro w70 g71
     replace hc4 := g71.heap hc4
     replace G := G.tr g71
     clear g71
     refine stp (zN6 rfl ?_)
     refine zA4 ?_
     refine zB8 (b := (!(kids[k].right (left - 1)))) rfl (fun h7 => ?_) (fun h7 => ?_)
     ·-- true
      simp only [sb] at h7
      refine zA6 (zA1 rfl ?_)
      refine stp (zA8 (v := .bool false) rfl ?_)
      refine zA4 ?_
      refine zC4 ?_
      refine ret1 (zB3 (v := .bool false) rfl) ⟨?_, G⟩
      have := zZ0 hi h7
      simp [Nd.right, this]
     ·-- false
      simp only [sb] at h7
      refine zC3 ?_
      refine zA1 rfl ?_
      refine stp (zA2 rfl ?_)
      refine stp (zD8 rfl rfl ?_ ?_); constructor <;> omega
      refine stp (zA0 rfl ?_)
      refine zA4 ?_
      refine ⟨_, ?_, k + 1, rfl, zE6 ⟨rfl, rfl, rfl, rfl, trivial⟩, by omega, (by rw [List.take_add_one, List.getElem?_eq_getElem hi, zW0, hyes]; simp [Nd.rights, h7]), hc4, G⟩
      omega
    ·-- false
     replace hlt := of_decide_eq_false hlt
     have hk2 : k = kids.length := by omega
     subst hk2
     rw [List.take_length] at hyes
     refine zF6 ?_
     refine zA6 (zA1 rfl ?_)
     refine stp (zA8 (v := .bool true) rfl ?_)
     refine zA4 ?_
     refine zC4 ?_
     refine ret1 (zB3 (v := .bool true) rfl) ⟨?_, G⟩
     simp [Nd.right, h4, h1, hyes]
     omega

set_option maxRecDepth 100000 in
theorem qL2 (w : World) {c : List Value} {t : Nd} (T : NodeR w c t) : Gives Tryz.prog 57 #[.agg c.toArray] w (.bool (t.right 32)) := by
 have h5 := T.len
 obtain ⟨x0, x1, x2, x3, x4, rfl⟩ := five h5
 have G := Grow.rfl' w
 refine zC7 Tryz.func57 Tryz.ntmps57 Tryz.results57 rfl rfl ?_
 refine zA6 (zA1 rfl ?_)
 refine zA3 (og rfl ?_)
 (first | refine zD0 rfl ?_ | refine zD2 rfl ?_ | refine zC5 rfl ?_ | refine zH0 rfl rfl ?_)
 intro b1 w2 hb3 hc4 g5
 have hge6 := Nat.le_trans G.size hb3
 replace G := G.tr g5
 clear g5 hb3
 refine stp (zA8 (v := .bool false) rfl ?_)
 refine zA4 ?_
 refine zA6 (zA1 rfl ?_)
 refine stp (zB4 rfl hc4 (by rfl) ?_)
 refine stp (zC0 (v := .bool (t.right 32)) rfl (qW7 _ _ (T.grow G) (left := 32) (by omega) (Nat.le_refl _)) ?_)
 intro w7 g8
 replace hc4 := g8.heap hc4
 replace G := G.tr g8
 clear g8
 refine stp (zC1 rfl ?_)
 refine zA4 ?_
 refine zC4 ?_
 refine ret1 (zB3 (v := .bool (t.right 32)) rfl) ⟨?_, G⟩
 rfl
end Go.Proofs.YtifhcfhdajkhlaaGreat.K

namespace Go.Proofs.YtifhcfhdajkhlaaGreat.K
open Go Go.RowKit Go.Proofs
attribute [local irreducible] Run1 OpG WL W AO Gives
set_option maxRecDepth 100000 in
theorem qW8 (w : World)  : Gives Tryz.prog 123 #[] w (.agg #[.int .i64 0, .int .i64 2]) := by
 have G := Grow.rfl' w
 refine zC7 Tryz.func123 Tryz.ntmps123 Tryz.results123 rfl rfl ?_
 refine zA6 (zA1 rfl ?_)
 refine stp (zD3 ?_)
 intro b1 w2 hb3 hc4 g5
 refine zA4 ?_
 refine zA6 (zA1 rfl ?_)
 refine stp (zD4 (v := .agg #[.int .i64 0, .int .i64 2]) (fun w => by kernel_rfl) ?_)
 refine stn (zB1 rfl rfl hc4 (by rfl) (by rfl) (by rfl) ?_)
 intro w6 hc7 u8
 have g9 := g5.upd u8 hb3
 have hge10 := Nat.le_trans G.size hb3
 replace G := G.tr g9
 clear u8 g5 hb3 hc4
 refine zA4 ?_
 refine zC4 ?_
 exact ret1 (zC9 rfl (by assumption) (by rfl)) ⟨rfl, G⟩

set_option maxRecDepth 100000 in
theorem zW6 (w : World)  : Gives Tryz.prog 133 #[] w (.agg #[.int .i64 2, .int .i64 30]) := by
 have G := Grow.rfl' w
 refine zC7 Tryz.func133 Tryz.ntmps133 Tryz.results133 rfl rfl ?_
 refine zA6 (zA1 rfl ?_)
 refine stp (zD3 ?_)
 intro b1 w2 hb3 hc4 g5
 refine zA4 ?_
 refine zA6 (zA1 rfl ?_)
 refine stp (zD4 (v := .agg #[.int .i64 2, .int .i64 30]) (fun w => by kernel_rfl) ?_)
 refine stn (zB1 rfl rfl hc4 (by rfl) (by rfl) (by rfl) ?_)
 intro w6 hc7 u8
 have g9 := g5.upd u8 hb3
 have hge10 := Nat.le_trans G.size hb3
 replace G := G.tr g9
 clear u8 g5 hb3 hc4
 refine zA4 ?_
 refine zC4 ?_
 exact ret1 (zC9 rfl (by assumption) (by rfl)) ⟨rfl, G⟩

set_option maxRecDepth 100000 in
theorem qW9 (w : World)  : Gives Tryz.prog 125 #[] w (.agg #[.int .i64 32, .int .i64 16]) := by
 have G := Grow.rfl' w
 refine zC7 Tryz.func125 Tryz.ntmps125 Tryz.results125 rfl rfl ?_
 refine zA6 (zA1 rfl ?_)
 refine stp (zD3 ?_)
 intro b1 w2 hb3 hc4 g5
 refine zA4 ?_
 refine zA6 (zA1 rfl ?_)
 refine stp (zD4 (v := .agg #[.int .i64 32, .int .i64 16]) (fun w => by kernel_rfl) ?_)
 refine stn (zB1 rfl rfl hc4 (by rfl) (by rfl) (by rfl) ?_)
 intro w6 hc7 u8
 have g9 := g5.upd u8 hb3
 have hge10 := Nat.le_trans G.size hb3
 replace G := G.tr g9
 clear u8 g5 hb3 hc4
 refine zA4 ?_
 refine zC4 ?_
 exact ret1 (zC9 rfl (by assumption) (by rfl)) ⟨rfl, G⟩

set_option maxRecDepth 100000 in
theorem qX0 (w : World)  : Gives Tryz.prog 126 #[] w (.agg #[.int .i64 48, .int .i64 16]) := by
 have G := Grow.rfl' w
 refine zC7 Tryz.func126 Tryz.ntmps126 Tryz.results126 rfl rfl ?_
 refine zA6 (zA1 rfl ?_)
 refine stp (zD3 ?_)
 intro b1 w2 hb3 hc4 g5
 refine zA4 ?_
 refine zA6 (zA1 rfl ?_)
 refine stp (zD4 (v := .agg #[.int .i64 48, .int .i64 16]) (fun w => by kernel_rfl) ?_)
 refine stn (zB1 rfl rfl hc4 (by rfl) (by rfl) (by rfl) ?_)
 intro w6 hc7 u8
 have g9 := g5.upd u8 hb3
 have hge10 := Nat.le_trans G.size hb3
 replace G := G.tr g9
 clear u8 g5 hb3 hc4
 refine zA4 ?_
 refine zC4 ?_
 exact ret1 (zC9 rfl (by assumption) (by rfl)) ⟨rfl, G⟩

set_option maxRecDepth 100000 in
theorem qX1 (w : World)  : Gives Tryz.prog 127 #[] w (.agg #[.int .i64 32, .int .i64 3]) := by
 have G := Grow.rfl' w
 refine zC7 Tryz.func127 Tryz.ntmps127 Tryz.results127 rfl rfl ?_
 refine zA6 (zA1 rfl ?_)
 refine stp (zD3 ?_)
 intro b1 w2 hb3 hc4 g5
 refine zA4 ?_
 refine zA6 (zA1 rfl ?_)
 refine stp (zD4 (v := .agg #[.int .i64 32, .int .i64 3]) (fun w => by kernel_rfl) ?_)
 refine stn (zB1 rfl rfl hc4 (by rfl) (by rfl) (by rfl) ?_)
 intro w6 hc7 u8
 have g9 := g5.upd u8 hb3
 have hge10 := Nat.le_trans G.size hb3
 replace G := G.tr g9
 clear u8 g5 hb3 hc4
 refine zA4 ?_
 refine zC4 ?_
 exact ret1 (zC9 rfl (by assumption) (by rfl)) ⟨rfl, G⟩

set_option maxRecDepth 100000 in
theorem qQ9 (w : World)  : Gives Tryz.prog 128 #[] w (.agg #[.int .i64 35, .int .i64 29]) := by
 have G := Grow.rfl' w
 refine zC7 Tryz.func128 Tryz.ntmps128 Tryz.results128 rfl rfl ?_
 refine zA6 (zA1 rfl ?_)
 refine stp (zD3 ?_)
 intro b1 w2 hb3 hc4 g5
 refine zA4 ?_
 refine zA6 (zA1 rfl ?_)
 refine stp (zD4 (v := .agg #[.int .i64 35, .int .i64 29]) (fun w => by kernel_rfl) ?_)
 refine stn (zB1 rfl rfl hc4 (by rfl) (by rfl) (by rfl) ?_)
 intro w6 hc7 u8
 have g9 := g5.upd u8 hb3
 have hge10 := Nat.le_trans G.size hb3
 replace G := G.tr g9
 clear u8 g5 hb3 hc4
 refine zA4 ?_
 refine zC4 ?_
 exact ret1 (zC9 rfl (by assumption) (by rfl)) ⟨rfl, G⟩

set_option maxRecDepth 100000 in
theorem qL3 (w : World)  : Gives Tryz.prog 131 #[] w (.agg #[.int .i64 2, .int .i64 1]) := by
 have G := Grow.rfl' w
 refine zC7 Tryz.func131 Tryz.ntmps131 Tryz.results131 rfl rfl ?_
 refine zA6 (zA1 rfl ?_)
 refine stp (zD3 ?_)
 intro b1 w2 hb3 hc4 g5
 refine zA4 ?_
 refine zA6 (zA1 rfl ?_)
 refine stp (zD4 (v := .agg #[.int .i64 2, .int .i64 1]) (fun w => by kernel_rfl) ?_)
 refine stn (zB1 rfl rfl hc4 (by rfl) (by rfl) (by rfl) ?_)
 intro w6 hc7 u8
 have g9 := g5.upd u8 hb3
 have hge10 := Nat.le_trans G.size hb3
 replace G := G.tr g9
 clear u8 g5 hb3 hc4
 refine zA4 ?_
 refine zC4 ?_
 exact ret1 (zC9 rfl (by assumption) (by rfl)) ⟨rfl, G⟩

set_option maxRecDepth 100000 in
theorem qR0 (w : World)  : Gives Tryz.prog 129 #[] w (.agg #[.int .i64 3, .int .i64 29]) := by
 have G := Grow.rfl' w
 refine zC7 Tryz.func129 Tryz.ntmps129 Tryz.results129 rfl rfl ?_
 refine zA6 (zA1 rfl ?_)
 refine stp (zD3 ?_)
 intro b1 w2 hb3 hc4 g5
 refine zA4 ?_
 refine zA6 (zA1 rfl ?_)
 refine stp (zD4 (v := .agg #[.int .i64 3, .int .i64 29]) (fun w => by kernel_rfl) ?_)
 refine stn (zB1 rfl rfl hc4 (by rfl) (by rfl) (by rfl) ?_)
 intro w6 hc7 u8
 have g9 := g5.upd u8 hb3
 have hge10 := Nat.le_trans G.size hb3
 replace G := G.tr g9
 clear u8 g5 hb3 hc4
 refine zA4 ?_
 refine zC4 ?_
 exact ret1 (zC9 rfl (by assumption) (by rfl)) ⟨rfl, G⟩

set_option maxRecDepth 100000 in
theorem yC0 (w : World)  : Gives Tryz.prog 130 #[] w (.agg #[.int .i64 32, .int .i64 32]) := by
 have G := Grow.rfl' w
 refine zC7 Tryz.func130 Tryz.ntmps130 Tryz.results130 rfl rfl ?_
 refine zA6 (zA1 rfl ?_)
 refine stp (zD3 ?_)
 intro b1 w2 hb3 hc4 g5
 refine zA4 ?_
 refine zA6 (zA1 rfl ?_)
 refine stp (zD4 (v := .agg #[.int .i64 32, .int .i64 32]) (fun w => by kernel_rfl) ?_)
 refine stn (zB1 rfl rfl hc4 (by rfl) (by rfl) (by rfl) ?_)
 intro w6 hc7 u8
 have g9 := g5.upd u8 hb3
 have hge10 := Nat.le_trans G.size hb3
 replace G := G.tr g9
 clear u8 g5 hb3 hc4
 refine zA4 ?_
 refine zC4 ?_
 exact ret1 (zC9 rfl (by assumption) (by rfl)) ⟨rfl, G⟩

set_option maxRecDepth 100000 in
theorem zL2 (w : World) (x at_ wide : Int) (h0 : 0 ≤ at_) (h1 : 0 ≤ wide) : Gives Tryz.prog 124 #[.agg #[.int .i64 at_, .int .i64 wide], .int .u64 x] w (.int .u64 (getF at_ wide x)) := by
 have G := Grow.rfl' w
 refine zC7 Tryz.func124 Tryz.ntmps124 Tryz.results124 rfl rfl ?_
 refine zA6 (zA1 rfl ?_)
 refine zA3 (og rfl ?_)
 (first | refine zD0 rfl ?_ | refine zD2 rfl ?_ | refine zC5 rfl ?_ | refine zH0 rfl rfl ?_)
 intro b1 w2 hb3 hc4 g5
 have hge6 := Nat.le_trans G.size hb3
 replace G := G.tr g5
 clear g5 hb3
 refine zA3 (og rfl ?_)
 (first | refine zA0 rfl ?_ | refine zA8 rfl ?_)
 refine zA4 ?_
 refine zA6 ?_
 refine zJ4 10 [[], [], [0], [2, 1, 0], [], [0], [1, 0], [2, 1, 0], [7, 6, 5, 4, 3, 2, 1, 0], [8, 7, 6, 5, 4, 3, 2, 1, 0]] mixed (by kernel_rfl) (by kernel_rfl) (by kernel_rfl) ?_
 intro w7 g8
 replace hc4 := g8.heap hc4
 replace G := G.tr g8
 clear g8
 apply zB7
 ·intro w_ g_; refine og rfl ?_; (first | refine zA2 rfl ?_ | refine zB6 rfl ?_); exact ⟨Grow.rfl' _, rfl⟩
 apply zB7
 ·intro w_ g_; refine og rfl ?_; refine zA5 rfl ?_; exact ⟨Grow.rfl' _, rfl⟩
 apply zB7
 ·intro w_ g_; refine og rfl ?_; refine zB5 rfl (by exact Grow.heap g_ (by assumption)) (by rfl) ?_; exact ⟨Grow.rfl' _, rfl⟩
 apply zB7
 ·intro w_ g_; refine og rfl ?_; (refine yG7 rfl rfl ?_ ?_; omega); exact ⟨Grow.rfl' _, rfl⟩
 apply zB7
 ·intro w_ g_; refine og rfl ?_; refine zA5 rfl ?_; exact ⟨Grow.rfl' _, rfl⟩
 apply zB7
 ·intro w_ g_; refine og rfl ?_; refine zB5 rfl (by exact Grow.heap g_ (by assumption)) (by rfl) ?_; exact ⟨Grow.rfl' _, rfl⟩
 apply zB7
 ·intro w_ g_; refine og rfl ?_; (refine qP6 rfl rfl ?_ ?_; omega); exact ⟨Grow.rfl' _, rfl⟩
 apply zB7
 ·intro w_ g_; refine og rfl ?_; (first | (refine zM0 rfl rfl ?_ ?_; (constructor <;> omega)) | refine zT9 rfl rfl ?_); exact ⟨Grow.rfl' _, rfl⟩
 apply zB7
 ·intro w_ g_; refine og rfl ?_; refine yL5 rfl rfl ?_; exact ⟨Grow.rfl' _, rfl⟩
 apply zB7
 ·intro w_ g_; refine og rfl ?_; (first | refine zA0 rfl ?_ | refine zA8 rfl ?_); exact ⟨Grow.rfl' _, rfl⟩
 refine zI5 ?_
 intro w9 g10
 replace hc4 := g10.heap hc4
 replace G := G.tr g10
 clear g10
 refine zA4 ?_
 refine zC4 ?_
 exact ret1 (zB3 rfl) ⟨rfl, G⟩

theorem yI4 (w : World) (x : Int) (h0 : 0 ≤ x) (h1 : x ≤ 18446744073709551615) : Gives Tryz.prog 124 #[.agg #[.int .i64 0, .int .i64 2], .int .u64 x] w (.int .u64 (x % 4)) := by
  have e : getF 0 2 x = x % 4 := (zO9 0 2 (by omega) (by omega) x h0 h1).trans (by simp)
  have h := zL2 w x 0 2 (by omega) (by omega)
  rw [e] at h
  exact h

theorem yC1 (w : World) (x : Int) (h0 : 0 ≤ x) (h1 : x ≤ 18446744073709551615) : Gives Tryz.prog 124 #[.agg #[.int .i64 2, .int .i64 30], .int .u64 x] w (.int .u64 (x / 4 % 1073741824)) := by
  have e : getF 2 30 x = x / 4 % 1073741824 := (zO9 2 30 (by omega) (by omega) x h0 h1).trans (by simp)
  have h := zL2 w x 2 30 (by omega) (by omega)
  rw [e] at h
  exact h

theorem yI5 (w : World) (x : Int) (h0 : 0 ≤ x) (h1 : x ≤ 18446744073709551615) : Gives Tryz.prog 124 #[.agg #[.int .i64 32, .int .i64 16], .int .u64 x] w (.int .u64 (x / 4294967296 % 65536)) := by
  have e : getF 32 16 x = x / 4294967296 % 65536 := (zO9 32 16 (by omega) (by omega) x h0 h1).trans (by simp)
  have h := zL2 w x 32 16 (by omega) (by omega)
  rw [e] at h
  exact h

theorem yI6 (w : World) (x : Int) (h0 : 0 ≤ x) (h1 : x ≤ 18446744073709551615) : Gives Tryz.prog 124 #[.agg #[.int .i64 48, .int .i64 16], .int .u64 x] w (.int .u64 (x / 281474976710656 % 65536)) := by
  have e : getF 48 16 x = x / 281474976710656 % 65536 := (zO9 48 16 (by omega) (by omega) x h0 h1).trans (by simp)
  have h := zL2 w x 48 16 (by omega) (by omega)
  rw [e] at h
  exact h

theorem yI7 (w : World) (x : Int) (h0 : 0 ≤ x) (h1 : x ≤ 18446744073709551615) : Gives Tryz.prog 124 #[.agg #[.int .i64 32, .int .i64 3], .int .u64 x] w (.int .u64 (x / 4294967296 % 8)) := by
  have e : getF 32 3 x = x / 4294967296 % 8 := (zO9 32 3 (by omega) (by omega) x h0 h1).trans (by simp)
  have h := zL2 w x 32 3 (by omega) (by omega)
  rw [e] at h
  exact h

theorem yC2 (w : World) (x : Int) (h0 : 0 ≤ x) (h1 : x ≤ 18446744073709551615) : Gives Tryz.prog 124 #[.agg #[.int .i64 35, .int .i64 29], .int .u64 x] w (.int .u64 (x / 34359738368 % 536870912)) := by
  have e : getF 35 29 x = x / 34359738368 % 536870912 := (zO9 35 29 (by omega) (by omega) x h0 h1).trans (by simp)
  have h := zL2 w x 35 29 (by omega) (by omega)
  rw [e] at h
  exact h

theorem qX2 (w : World) (x : Int) (h0 : 0 ≤ x) (h1 : x ≤ 18446744073709551615) : Gives Tryz.prog 124 #[.agg #[.int .i64 2, .int .i64 1], .int .u64 x] w (.int .u64 (x / 4 % 2)) := by
  have e : getF 2 1 x = x / 4 % 2 := (zO9 2 1 (by omega) (by omega) x h0 h1).trans (by simp)
  have h := zL2 w x 2 1 (by omega) (by omega)
  rw [e] at h
  exact h

theorem yC3 (w : World) (x : Int) (h0 : 0 ≤ x) (h1 : x ≤ 18446744073709551615) : Gives Tryz.prog 124 #[.agg #[.int .i64 3, .int .i64 29], .int .u64 x] w (.int .u64 (x / 8 % 536870912)) := by
  have e : getF 3 29 x = x / 8 % 536870912 := (zO9 3 29 (by omega) (by omega) x h0 h1).trans (by simp)
  have h := zL2 w x 3 29 (by omega) (by omega)
  rw [e] at h
  exact h

theorem yM4 (w : World) (x : Int) (h0 : 0 ≤ x) (h1 : x ≤ 18446744073709551615) : Gives Tryz.prog 124 #[.agg #[.int .i64 32, .int .i64 32], .int .u64 x] w (.int .u64 (x / 4294967296 % 4294967296)) := by
  have e : getF 32 32 x = x / 4294967296 % 4294967296 := (zO9 32 32 (by omega) (by omega) x h0 h1).trans (by simp)
  have h := zL2 w x 32 32 (by omega) (by omega)
  rw [e] at h
  exact h

set_option maxRecDepth 100000 in
theorem zZ4 (w : World) (n : Int) (h0 : 0 ≤ n) (h1 : n < 1073741824) : Gives Tryz.prog 132 #[.int .u64 n, .int .i64 30] w (.int .i64 (sgn30 n)) := by
 have G := Grow.rfl' w
 refine zC7 Tryz.func132 Tryz.ntmps132 Tryz.results132 rfl rfl ?_
 refine zA6 (zA1 rfl ?_)
 refine zA3 (og rfl ?_)
 (first | refine zA0 rfl ?_ | refine zA8 rfl ?_)
 refine zA4 ?_
 refine zA6 (zA1 rfl ?_)
 refine zA3 (og rfl ?_)
 (first | refine zA2 rfl ?_ | refine zB6 rfl ?_)
 refine zA3 (og rfl ?_)
 (first | (refine qQ0 rfl rfl rfl ?_ ?_; omega) | (refine qQ1 rfl rfl rfl ?_ ?_; omega) | refine zT7 rfl rfl rfl ?_)
 refine zA3 (og rfl ?_)
 (first | (refine yA8 rfl rfl rfl ?_ ?_; omega) | (refine yA9 rfl rfl rfl ?_ ?_; omega) | refine qP9 rfl rfl rfl ?_)
 refine zA3 (og rfl ?_)
 (first | (refine zM0 rfl rfl ?_ ?_; (constructor <;> omega)) | refine zT9 rfl rfl ?_)
 refine zA3 (og rfl ?_)
 (first | refine zA0 rfl ?_ | refine zA8 rfl ?_)
 refine zA4 ?_
 refine zA6 (zA1 rfl ?_)
 refine zA3 (og rfl ?_)
 (first | refine zA2 rfl ?_ | refine zB6 rfl ?_)
 refine zA3 (og rfl ?_)
 (first | refine zA2 rfl ?_ | refine zB6 rfl ?_)
 refine zA3 (og rfl ?_)
 (refine qP6 rfl rfl ?_ ?_; omega)
 refine zA3 (og rfl ?_)
 (first | (refine zF8 rfl ?_ ?_; (constructor <;> omega)) | refine zJ3 rfl ?_)
 refine zA3 (og rfl ?_)
 (first | refine zA2 rfl ?_ | refine zB6 rfl ?_)
 refine zA3 (og rfl ?_)
 (refine yG7 rfl rfl ?_ ?_; omega)
 refine zA3 (og rfl ?_)
 (first | refine zA0 rfl ?_ | refine zA8 rfl ?_)
 refine zA4 ?_
 refine zC4 ?_
 exact ret1 (zB3 rfl) ⟨congrArg (Value.int .i64) (yB4 n h0 h1), G⟩

set_option maxRecDepth 100000 in
theorem zS3 (w : World) (x : Int) (hx0 : 0 ≤ x) (hx1 : x ≤ 18446744073709551615) : Gives Tryz.prog 119 #[.int .u64 x] w (.tuple #[(decP x).v, .int .u16 (decE x)]) := by
 have G := Grow.rfl' w
 refine zC7 Tryz.func119 Tryz.ntmps119 Tryz.results119 rfl rfl ?_
 refine zA6 (zA1 rfl ?_)
 refine stp (zD3 ?_)
 intro b1 w2 hb3 hc4 g5
 refine zA3 (og rfl ?_)
 (first | refine zA0 rfl ?_ | refine zA8 rfl ?_)
 refine zA4 ?_
 refine zA6 ?_
 refine zA6 (zA1 rfl ?_)
 refine zA3 (og rfl ?_)
 (first | refine zA2 rfl ?_ | refine zB6 rfl ?_)
 refine zA3 (og rfl ?_)
 (first | (refine zG3 rfl rfl ?_ ?_; (first | assumption | omega)) | (refine zH5 rfl rfl ?_ ?_; (first | assumption | omega)) | refine zE9 rfl rfl ?_)
 refine zA4 ?_
 have hge6 := Nat.le_trans G.size hb3
 replace G := G.tr g5
 clear g5 hb3
 refine zB8 rfl (fun h0 => ?_) (fun h0 => ?_)
 ·-- true
  first | (replace h0 := of_decide_eq_true h0) | (replace h0 := of_decide_eq_false h0) | skip
  refine zA6 (zA1 rfl ?_)
  refine stp (zD4 (v := .agg #[.int .i64 (0), .int .i64 (0), .int .i64 (0), .int .i64 (0), .int .i64 (0), .int .i64 (0), .int .i64 (0), .bool false]) (fun w => by kernel_rfl) ?_)
  refine stn (zB1 rfl rfl hc4 (by rfl) (by rfl) (by rfl) ?_)
  intro w10 hc11 u12
  replace G := G.upd u12 hge6
  clear u12 hc4
  refine zA3 (og rfl ?_)
  (first | refine zA0 rfl ?_ | refine zA8 rfl ?_)
  refine zA4 ?_
  refine zC4 ?_
  subst h0
  refine ret2 (zC9 rfl (by assumption) (by rfl)) (zD5 rfl) ⟨?_, G⟩
  simp [decP, decE, Pt.v, Pt0, ]
 ·-- false
  first | (replace h0 := of_decide_eq_true h0) | (replace h0 := of_decide_eq_false h0) | skip
  refine zC3 ?_
  refine zA6 (zA1 rfl ?_)
  refine stp (zD3 ?_)
  intro b13 w14 hb15 hc16 g17
  refine zA4 ?_
  refine zA6 ?_
  refine zA6 (zA1 rfl ?_)
  have hge18 := Nat.le_trans G.size hb15
  have ne19 := Nat.ne_of_lt (Nat.lt_of_lt_of_le (zA9 hc4) hb15)
  replace hc4 := g17.heap hc4
  replace G := G.tr g17
  clear g17 hb15
  refine stp (zC0 rfl (qW8 _) ?_)
  intro w20 g21
  replace hc4 := g21.heap hc4
  replace hc16 := g21.heap hc16
  replace G := G.tr g21
  clear g21
  refine zA3 (og rfl ?_)
  (first | refine zA2 rfl ?_ | refine zB6 rfl ?_)
  refine stp (zC0 rfl (yI4 _ _ hx0 hx1) ?_)
  intro w22 g23
  replace hc4 := g23.heap hc4
  replace hc16 := g23.heap hc16
  replace G := G.tr g23
  clear g23
  refine zA3 (og rfl ?_)
  (first | refine zA0 rfl ?_ | refine zA8 rfl ?_)
  refine zA4 ?_
  refine zA6 (zA1 rfl ?_)
  refine zA3 (og rfl ?_)
  (first | refine zA2 rfl ?_ | refine zB6 rfl ?_)
  refine zA4 ?_
  refine zC6 ?_
  refine zA6 (zA1 rfl ?_)
  refine zA3 (og rfl ?_)
  (first | (refine zG3 rfl rfl ?_ ?_; (first | assumption | omega)) | (refine zH5 rfl rfl ?_ ?_; (first | assumption | omega)) | refine zE9 rfl rfl ?_)
  refine zA3 (og rfl ?_)
  (first | refine zC1 rfl ?_ | refine zA8 rfl ?_)
  refine zA4 ?_
  refine zB8 rfl (fun h1 => ?_) (fun h1 => ?_)
  ·-- true
   first | (replace h1 := of_decide_eq_true h1) | (replace h1 := of_decide_eq_false h1) | skip
   refine zA1 rfl ?_
   refine stp (zC0 rfl (qW9 _) ?_)
   intro w24 g25
   replace hc4 := g25.heap hc4
   replace hc16 := g25.heap hc16
   replace G := G.tr g25
   clear g25
   refine zA3 (og rfl ?_)
   (first | refine zA2 rfl ?_ | refine zB6 rfl ?_)
   refine stp (zC0 rfl (yI5 _ _ hx0 hx1) ?_)
   intro w26 g27
   replace hc4 := g27.heap hc4
   replace hc16 := g27.heap hc16
   replace G := G.tr g27
   clear g27
   refine zA3 (og rfl ?_)
   (first | (refine zF8 rfl ?_ ?_; (constructor <;> omega)) | refine zJ3 rfl ?_)
   refine stp (zC0 rfl (qX0 _) ?_)
   intro w28 g29
   replace hc4 := g29.heap hc4
   replace hc16 := g29.heap hc16
   replace G := G.tr g29
   clear g29
   refine zA3 (og rfl ?_)
   (first | refine zA2 rfl ?_ | refine zB6 rfl ?_)
   refine stp (zC0 rfl (yI6 _ _ hx0 hx1) ?_)
   intro w30 g31
   replace hc4 := g31.heap hc4
   replace hc16 := g31.heap hc16
   replace G := G.tr g31
   clear g31
   refine zA3 (og rfl ?_)
   (first | (refine zF8 rfl ?_ ?_; (constructor <;> omega)) | refine zJ3 rfl ?_)
   refine stp (zD4 (v := .agg #[.int .i64 (1), .int .i64 (0), .int .i64 (x / 4294967296 % 65536), .int .i64 (x / 281474976710656 % 65536), .int .i64 (0), .int .i64 (0), .int .i64 (0), .bool false]) (fun w => by kernel_rfl) ?_)
   refine stn (zB1 rfl rfl hc16 (by rfl) (by rfl) (by rfl) ?_)
   intro w35 hc36 u37
   replace hc4 := u37.heap hc4 ne19
   replace G := G.upd u37 hge18
   clear u37 hc16
   refine zA4 ?_
   refine zA6 (zA1 rfl ?_)
   refine stp (zC0 rfl (zW6 _) ?_)
   intro w38 g39
   replace hc4 := g39.heap hc4
   replace hc36 := g39.heap hc36
   replace G := G.tr g39
   clear g39
   refine zA3 (og rfl ?_)
   (first | refine zA2 rfl ?_ | refine zB6 rfl ?_)
   refine stp (zC0 rfl (yC1 _ _ hx0 hx1) ?_)
   intro w40 g41
   replace hc4 := g41.heap hc4
   replace hc36 := g41.heap hc36
   replace G := G.tr g41
   clear g41
   refine stp (zC0 rfl (zW6 _) ?_)
   intro w42 g43
   replace hc4 := g43.heap hc4
   replace hc36 := g43.heap hc36
   replace G := G.tr g43
   clear g43
   refine stp (yA7 rfl (by rfl) ?_)
   refine stp (zC0 rfl (zZ4 _ _ (by omega) (by omega)) ?_)
   intro w44 g45
   replace hc4 := g45.heap hc4
   replace hc36 := g45.heap hc36
   replace G := G.tr g45
   clear g45
   refine stp (zA5 rfl ?_)
   refine stn (zE0 (v := .int _ _) rfl rfl (by rfl) hc36 (by rfl) (by rfl) ?_)
   intro w49 hc50 u51
   replace hc4 := u51.heap hc4 ne19
   replace G := G.upd u51 hge18
   clear u51 hc36
   refine zA4 ?_
   refine zA6 (zA1 rfl ?_)
   refine zA3 (og rfl ?_)
   (first | refine zB4 rfl (by assumption) (by rfl) ?_ | refine zH8 rfl (by assumption) (by rfl) (by rfl) ?_)
   refine stn (zB1 rfl rfl hc4 (by rfl) (by rfl) (by rfl) ?_)
   intro w55 hc56 u57
   replace hc50 := u57.heap hc50 ne19.symm
   replace G := G.upd u57 hge6
   clear u57 hc4
   refine zA3 (og rfl ?_)
   (first | refine zA0 rfl ?_ | refine zA8 rfl ?_)
   refine zA4 ?_
   refine zC4 ?_
   refine ret2 (zC9 rfl (by assumption) (by rfl)) (zD5 rfl) ⟨?_, G⟩
   simp [decP, decE, Pt.v, Pt0, h0, h1]
  ·-- false
   first | (replace h1 := of_decide_eq_true h1) | (replace h1 := of_decide_eq_false h1) | skip
   refine zA6 (zA1 rfl ?_)
   refine zA3 (og rfl ?_)
   (first | (refine zG3 rfl rfl ?_ ?_; (first | assumption | omega)) | (refine zH5 rfl rfl ?_ ?_; (first | assumption | omega)) | refine zE9 rfl rfl ?_)
   refine zA3 (og rfl ?_)
   (first | refine zC1 rfl ?_ | refine zA8 rfl ?_)
   refine zA4 ?_
   refine zB8 rfl (fun h2 => ?_) (fun h2 => ?_)
   ·-- true
    first | (replace h2 := of_decide_eq_true h2) | (replace h2 := of_decide_eq_false h2) | skip
    refine zA1 rfl ?_
    refine stp (zC0 rfl (qX1 _) ?_)
    intro w58 g59
    replace hc4 := g59.heap hc4
    replace hc16 := g59.heap hc16
    replace G := G.tr g59
    clear g59
    refine zA3 (og rfl ?_)
    (first | refine zA2 rfl ?_ | refine zB6 rfl ?_)
    refine stp (zC0 rfl (yI7 _ _ hx0 hx1) ?_)
    intro w60 g61
    replace hc4 := g61.heap hc4
    replace hc16 := g61.heap hc16
    replace G := G.tr g61
    clear g61
    refine zA3 (og rfl ?_)
    (first | (refine zF8 rfl ?_ ?_; (constructor <;> omega)) | refine zJ3 rfl ?_)
    refine stp (zC0 rfl (qQ9 _) ?_)
    intro w62 g63
    replace hc4 := g63.heap hc4
    replace hc16 := g63.heap hc16
    replace G := G.tr g63
    clear g63
    refine zA3 (og rfl ?_)
    (first | refine zA2 rfl ?_ | refine zB6 rfl ?_)
    refine stp (zC0 rfl (yC2 _ _ hx0 hx1) ?_)
    intro w64 g65
    replace hc4 := g65.heap hc4
    replace hc16 := g65.heap hc16
    replace G := G.tr g65
    clear g65
    refine zA3 (og rfl ?_)
    (first | (refine zF8 rfl ?_ ?_; (constructor <;> omega)) | refine zJ3 rfl ?_)
    refine stp (zD4 (v := .agg #[.int .i64 (2), .int .i64 (0), .int .i64 (0), .int .i64 (0), .int .i64 (x / 4294967296 % 8), .int .i64 (x / 34359738368 % 536870912), .int .i64 (0), .bool false]) (fun w => by kernel_rfl) ?_)
    refine stn (zB1 rfl rfl hc16 (by rfl) (by rfl) (by rfl) ?_)
    intro w69 hc70 u71
    replace hc4 := u71.heap hc4 ne19
    replace G := G.upd u71 hge18
    clear u71 hc16
    refine zA4 ?_
    refine zA6 (zA1 rfl ?_)
    refine stp (zC0 rfl (zW6 _) ?_)
    intro w72 g73
    replace hc4 := g73.heap hc4
    replace hc70 := g73.heap hc70
    replace G := G.tr g73
    clear g73
    refine zA3 (og rfl ?_)
    (first | refine zA2 rfl ?_ | refine zB6 rfl ?_)
    refine stp (zC0 rfl (yC1 _ _ hx0 hx1) ?_)
    intro w74 g75
    replace hc4 := g75.heap hc4
    replace hc70 := g75.heap hc70
    replace G := G.tr g75
    clear g75
    refine stp (zC0 rfl (zW6 _) ?_)
    intro w76 g77
    replace hc4 := g77.heap hc4
    replace hc70 := g77.heap hc70
    replace G := G.tr g77
    clear g77
    refine stp (yA7 rfl (by rfl) ?_)
    refine stp (zC0 rfl (zZ4 _ _ (by omega) (by omega)) ?_)
    intro w78 g79
    replace hc4 := g79.heap hc4
    replace hc70 := g79.heap hc70
    replace G := G.tr g79
    clear g79
    refine stp (zA5 rfl ?_)
    refine stn (zE0 (v := .int _ _) rfl rfl (by rfl) hc70 (by rfl) (by rfl) ?_)
    intro w83 hc84 u85
    replace hc4 := u85.heap hc4 ne19
    replace G := G.upd u85 hge18
    clear u85 hc70
    refine zA4 ?_
    refine zA6 (zA1 rfl ?_)
    refine zA3 (og rfl ?_)
    (first | refine zB4 rfl (by assumption) (by rfl) ?_ | refine zH8 rfl (by assumption) (by rfl) (by rfl) ?_)
    refine stn (zB1 rfl rfl hc4 (by rfl) (by rfl) (by rfl) ?_)
    intro w89 hc90 u91
    replace hc84 := u91.heap hc84 ne19.symm
    replace G := G.upd u91 hge6
    clear u91 hc4
    refine zA3 (og rfl ?_)
    (first | refine zA0 rfl ?_ | refine zA8 rfl ?_)
    refine zA4 ?_
    refine zC4 ?_
    refine ret2 (zC9 rfl (by assumption) (by rfl)) (zD5 rfl) ⟨?_, G⟩
    simp [decP, decE, Pt.v, Pt0, h0, h1, h2]
   ·-- false
    first | (replace h2 := of_decide_eq_true h2) | (replace h2 := of_decide_eq_false h2) | skip
    refine zA6 (zA1 rfl ?_)
    refine zA3 (og rfl ?_)
    (first | (refine zG3 rfl rfl ?_ ?_; (first | assumption | omega)) | (refine zH5 rfl rfl ?_ ?_; (first | assumption | omega)) | refine zE9 rfl rfl ?_)
    refine zA3 (og rfl ?_)
    (first | refine zC1 rfl ?_ | refine zA8 rfl ?_)
    refine zA4 ?_
    refine zB8 rfl (fun h3 => ?_) (fun h3 => ?_)
    ·-- true
     first | (replace h3 := of_decide_eq_true h3) | (replace h3 := of_decide_eq_false h3) | skip
     refine zA6 (zA1 rfl ?_)
     refine stp (zC0 rfl (qR0 _) ?_)
     intro w92 g93
     replace hc4 := g93.heap hc4
     replace hc16 := g93.heap hc16
     replace G := G.tr g93
     clear g93
     refine zA3 (og rfl ?_)
     (first | refine zA2 rfl ?_ | refine zB6 rfl ?_)
     refine stp (zC0 rfl (yC3 _ _ hx0 hx1) ?_)
     intro w94 g95
     replace hc4 := g95.heap hc4
     replace hc16 := g95.heap hc16
     replace G := G.tr g95
     clear g95
     refine zA3 (og rfl ?_)
     (first | (refine zF8 rfl ?_ ?_; (constructor <;> omega)) | refine zJ3 rfl ?_)
     refine stp (zC0 rfl (yC0 _) ?_)
     intro w96 g97
     replace hc4 := g97.heap hc4
     replace hc16 := g97.heap hc16
     replace G := G.tr g97
     clear g97
     refine zA3 (og rfl ?_)
     (first | refine zA2 rfl ?_ | refine zB6 rfl ?_)
     refine stp (zC0 rfl (yM4 _ _ hx0 hx1) ?_)
     intro w98 g99
     replace hc4 := g99.heap hc4
     replace hc16 := g99.heap hc16
     replace G := G.tr g99
     clear g99
     refine zA3 (og rfl ?_)
     (first | (refine zF8 rfl ?_ ?_; (constructor <;> omega)) | refine zJ3 rfl ?_)
     refine stp (zC0 rfl (qL3 _) ?_)
     intro w100 g101
     replace hc4 := g101.heap hc4
     replace hc16 := g101.heap hc16
     replace G := G.tr g101
     clear g101
     refine zA3 (og rfl ?_)
     (first | refine zA2 rfl ?_ | refine zB6 rfl ?_)
     refine stp (zC0 rfl (qX2 _ _ hx0 hx1) ?_)
     intro w102 g103
     replace hc4 := g103.heap hc4
     replace hc16 := g103.heap hc16
     replace G := G.tr g103
     clear g103
     refine stp (zE9 rfl rfl ?_)
     refine stp (zD4 (v := .agg #[.int .i64 (3), .int .i64 (x / 8 % 536870912), .int .i64 (0), .int .i64 (0), .int .i64 (0), .int .i64 (0), .int .i64 (x / 4294967296 % 4294967296), .bool (decide (x / 4 % 2 = 1))]) (fun w => by kernel_rfl) ?_)
     refine stn (zB1 rfl rfl hc4 (by rfl) (by rfl) (by rfl) ?_)
     intro w107 hc108 u109
     replace hc16 := u109.heap hc16 ne19.symm
     replace G := G.upd u109 hge6
     clear u109 hc4
     refine zA3 (og rfl ?_)
     (first | refine zA0 rfl ?_ | refine zA8 rfl ?_)
     refine zA4 ?_
     refine zC4 ?_
     refine ret2 (zC9 rfl (by assumption) (by rfl)) (zD5 rfl) ⟨?_, G⟩
     simp [decP, decE, Pt.v, Pt0, h0, h1, h2, h3]
    ·-- false
     first | (replace h3 := of_decide_eq_true h3) | (replace h3 := of_decide_eq_false h3) | skip
     have h4 : x % 4 = 3 := by omega
     refine zA6 (zA1 rfl ?_)
     refine zA3 (og rfl ?_)
     (first | refine zB4 rfl (by assumption) (by rfl) ?_ | refine zH8 rfl (by assumption) (by rfl) (by rfl) ?_)
     refine stn (zB1 rfl rfl hc4 (by rfl) (by rfl) (by rfl) ?_)
     intro w113 hc114 u115
     replace hc16 := u115.heap hc16 ne19.symm
     replace G := G.upd u115 hge6
     clear u115 hc4
     refine zA3 (og rfl ?_)
     (first | refine zA0 rfl ?_ | refine zA8 rfl ?_)
     refine zA4 ?_
     refine zC4 ?_
     refine ret2 (zC9 rfl (by assumption) (by rfl)) (zD5 rfl) ⟨?_, G⟩
     simp [decP, decE, Pt.v, Pt0, h0, h1, h2, h3, h4]

set_option maxRecDepth 100000 in
theorem qC4 (w : World) (p : Pt) : Gives Tryz.prog 120 #[.agg #[.int .i64 (p.kind), .int .i64 (p.off), .int .i64 (p.data), .int .i64 (p.ptrs), .int .i64 (p.size), .int .i64 (p.count), .int .i64 (p.seg), .bool p.dbl]] w (.tuple #[.int .i64 (wordsN p), .int .u16 (wordsE p)]) := by
 have G := Grow.rfl' w
 refine zC7 Tryz.func120 Tryz.ntmps120 Tryz.results120 rfl rfl ?_
 refine zA6 (zA1 rfl ?_)
 refine zA3 (og rfl ?_)
 (first | refine zD0 rfl ?_ | refine zD2 rfl ?_ | refine zC5 rfl ?_ | refine zH0 rfl rfl ?_)
 intro b1 w2 hb3 hc4 g5
 have hge6 := Nat.le_trans G.size hb3
 replace G := G.tr g5
 clear g5 hb3
 refine zA3 (og rfl ?_)
 (first | refine zA0 rfl ?_ | refine zA8 rfl ?_)
 refine zA3 (og rfl ?_)
 (first | refine zA0 rfl ?_ | refine zA8 rfl ?_)
 refine zA4 ?_
 refine zA6 ?_
 refine zA6 (zA1 rfl ?_)
 refine stp (zA5 rfl ?_)
 refine stp (zB5 rfl (by assumption) (by rfl) ?_)
 refine zA4 ?_
 refine zC6 ?_
 refine zA6 (zA1 rfl ?_)
 refine zA3 (og rfl ?_)
 (first | (refine zG3 rfl rfl ?_ ?_; (first | assumption | omega)) | (refine zH5 rfl rfl ?_ ?_; (first | assumption | omega)) | refine zE9 rfl rfl ?_)
 refine zA3 (og rfl ?_)
 (first | refine zC1 rfl ?_ | refine zA8 rfl ?_)
 refine zA4 ?_
 refine zB8 rfl (fun h0 => ?_) (fun h0 => ?_)
 ·-- true
  first | (replace h0 := of_decide_eq_true h0) | (replace h0 := of_decide_eq_false h0) | skip
  refine zA6 (zA1 rfl ?_)
  refine zA3 (og rfl ?_)
  (first | refine zA0 rfl ?_ | refine zA8 rfl ?_)
  refine zA3 (og rfl ?_)
  (first | refine zA0 rfl ?_ | refine zA8 rfl ?_)
  refine zA4 ?_
  refine zC4 ?_
  refine ret2 (zD5 rfl) (zD5 rfl) ⟨?_, G⟩
  simp [wordsN, wordsE, h0]
 ·-- false
  first | (replace h0 := of_decide_eq_true h0) | (replace h0 := of_decide_eq_false h0) | skip
  refine zA6 (zA1 rfl ?_)
  refine zA3 (og rfl ?_)
  (first | (refine zG3 rfl rfl ?_ ?_; (first | assumption | omega)) | (refine zH5 rfl rfl ?_ ?_; (first | assumption | omega)) | refine zE9 rfl rfl ?_)
  refine zA3 (og rfl ?_)
  (first | refine zC1 rfl ?_ | refine zA8 rfl ?_)
  refine zA4 ?_
  refine zB8 rfl (fun h1 => ?_) (fun h1 => ?_)
  ·-- true
   first | (replace h1 := of_decide_eq_true h1) | (replace h1 := of_decide_eq_false h1) | skip
   refine zA6 (zA1 rfl ?_)
   refine stp (zA5 rfl ?_)
   refine stp (zB5 rfl (by assumption) (by rfl) ?_)
   refine stp (zA5 rfl ?_)
   refine stp (zB5 rfl (by assumption) (by rfl) ?_)
   refine zA3 (og rfl ?_)
   (first | (refine zD8 rfl rfl ?_ ?_; (constructor <;> omega)) | refine zI1 rfl rfl ?_)
   refine zA3 (og rfl ?_)
   (first | refine zA0 rfl ?_ | refine zA8 rfl ?_)
   refine zA3 (og rfl ?_)
   (first | refine zA0 rfl ?_ | refine zA8 rfl ?_)
   refine zA4 ?_
   refine zC4 ?_
   refine ret2 (zD5 rfl) (zD5 rfl) ⟨?_, G⟩
   simp [wordsN, wordsE, h0, h1]
  ·-- false
   first | (replace h1 := of_decide_eq_true h1) | (replace h1 := of_decide_eq_false h1) | skip
   refine zA6 (zA1 rfl ?_)
   refine zA3 (og rfl ?_)
   (first | (refine zG3 rfl rfl ?_ ?_; (first | assumption | omega)) | (refine zH5 rfl rfl ?_ ?_; (first | assumption | omega)) | refine zE9 rfl rfl ?_)
   refine zA3 (og rfl ?_)
   (first | refine zC1 rfl ?_ | refine zA8 rfl ?_)
   refine zA4 ?_
   refine zB8 rfl (fun h3 => ?_) (fun h3 => ?_)
   ·-- true
    first | (replace h3 := of_decide_eq_true h3) | (replace h3 := of_decide_eq_false h3) | skip
    refine zA6 ?_
    refine zA6 (zA1 rfl ?_)
    refine stp (zA5 rfl ?_)
    refine stp (zB5 rfl (by assumption) (by rfl) ?_)
    refine zA4 ?_
    refine zB8 rfl (fun hd_ => ?_) (fun hd_ => ?_)
    ·-- true
     first | (replace hd_ := of_decide_eq_true hd_) | (replace hd_ := of_decide_eq_false hd_) | skip
     refine zA6 (zA1 rfl ?_)
     refine zA3 (og rfl ?_)
     (first | refine zA0 rfl ?_ | refine zA8 rfl ?_)
     refine zA3 (og rfl ?_)
     (first | refine zA0 rfl ?_ | refine zA8 rfl ?_)
     refine zA4 ?_
     refine zC4 ?_
     refine ret2 (zD5 rfl) (zD5 rfl) ⟨?_, G⟩
     simp [wordsN, wordsE, h0, h1, h3, hd_]
    ·-- false
     first | (replace hd_ := of_decide_eq_true hd_) | (replace hd_ := of_decide_eq_false hd_) | skip
     refine zC3 ?_
     refine zA6 (zA1 rfl ?_)
     refine zA3 (og rfl ?_)
     (first | refine zA0 rfl ?_ | refine zA8 rfl ?_)
     refine zA3 (og rfl ?_)
     (first | refine zA0 rfl ?_ | refine zA8 rfl ?_)
     refine zA4 ?_
     refine zC4 ?_
     refine ret2 (zD5 rfl) (zD5 rfl) ⟨?_, G⟩
     simp [wordsN, wordsE, h0, h1, h3, hd_]
   ·-- false
    first | (replace h3 := of_decide_eq_true h3) | (replace h3 := of_decide_eq_false h3) | skip
    refine zA6 (zA1 rfl ?_)
    refine zA3 (og rfl ?_)
    (first | (refine zG3 rfl rfl ?_ ?_; (first | assumption | omega)) | (refine zH5 rfl rfl ?_ ?_; (first | assumption | omega)) | refine zE9 rfl rfl ?_)
    refine zA3 (og rfl ?_)
    (first | refine zC1 rfl ?_ | refine zA8 rfl ?_)
    refine zA4 ?_
    refine zB8 rfl (fun h2 => ?_) (fun h2 => ?_)
    ·-- true
     first | (replace h2 := of_decide_eq_true h2) | (replace h2 := of_decide_eq_false h2) | skip
     refine zA6 (zA1 rfl ?_)
     refine stp (zA5 rfl ?_)
     refine stp (zB5 rfl (by assumption) (by rfl) ?_)
     refine zA4 ?_
     refine zC6 ?_
     refine zA6 ?_
     refine zC6 ?_
     refine zC6 ?_
     refine zA6 ?_
     refine zC6 ?_
     refine zA6 ?_
     refine zA6 ?_
     refine zA6 (zA1 rfl ?_)
     refine zA3 (og rfl ?_)
     (first | (refine zG3 rfl rfl ?_ ?_; (first | assumption | omega)) | (refine zH5 rfl rfl ?_ ?_; (first | assumption | omega)) | refine zE9 rfl rfl ?_)
     refine zA3 (og rfl ?_)
     (first | refine zC1 rfl ?_ | refine zA8 rfl ?_)
     refine zA4 ?_
     refine zB8 rfl (fun s2 => ?_) (fun s2 => ?_)
     ·-- true
      first | (replace s2 := of_decide_eq_true s2) | (replace s2 := of_decide_eq_false s2) | skip
      refine zF6 ?_
      refine zA6 ?_
      refine zA6 (zA1 rfl ?_)
      refine stp (zA5 rfl ?_)
      refine stp (zB5 rfl (by assumption) (by rfl) ?_)
      refine zA3 (og rfl ?_)
      (first | (refine zD8 rfl rfl ?_ ?_; (constructor <;> omega)) | refine zI1 rfl rfl ?_)
      refine zA3 (og rfl ?_)
      (first | (refine zM0 rfl rfl ?_ ?_; (constructor <;> omega)) | refine zT9 rfl rfl ?_)
      refine zA3 (og rfl ?_)
      (first | (refine zK3 rfl rfl ?_ ?_ ?_ ?_; omega; omega; (constructor <;> omega)) | (refine yA4 rfl rfl ?_ ?_; omega))
      refine zA3 (og rfl ?_)
      (first | refine zA0 rfl ?_ | refine zA8 rfl ?_)
      refine zA3 (og rfl ?_)
      (first | refine zA0 rfl ?_ | refine zA8 rfl ?_)
      refine zA4 ?_
      refine zC4 ?_
      refine ret2 (zD5 rfl) (zD5 rfl) ⟨?_, G⟩
      simp [wordsN, wordsE, h0, h1, h3, h2, s2]
     ·-- false
      first | (replace s2 := of_decide_eq_true s2) | (replace s2 := of_decide_eq_false s2) | skip
      refine zC3 ?_
      refine zA6 ?_
      refine zA6 (zA1 rfl ?_)
      refine zA3 (og rfl ?_)
      (first | (refine zG3 rfl rfl ?_ ?_; (first | assumption | omega)) | (refine zH5 rfl rfl ?_ ?_; (first | assumption | omega)) | refine zE9 rfl rfl ?_)
      refine zA3 (og rfl ?_)
      (first | refine zC1 rfl ?_ | refine zA8 rfl ?_)
      refine zA4 ?_
      refine zB8 rfl (fun s5 => ?_) (fun s5 => ?_)
      ·-- true
       first | (replace s5 := of_decide_eq_true s5) | (replace s5 := of_decide_eq_false s5) | skip
       refine zF6 ?_
       refine zA6 ?_
       refine zA6 (zA1 rfl ?_)
       refine stp (zA5 rfl ?_)
       refine stp (zB5 rfl (by assumption) (by rfl) ?_)
       refine zA3 (og rfl ?_)
       (first | refine zA0 rfl ?_ | refine zA8 rfl ?_)
       refine zA3 (og rfl ?_)
       (first | refine zA0 rfl ?_ | refine zA8 rfl ?_)
       refine zA4 ?_
       refine zC4 ?_
       refine ret2 (zD5 rfl) (zD5 rfl) ⟨?_, G⟩
       simp [wordsN, wordsE, h0, h1, h3, h2, s2, s5]
      ·-- false
       first | (replace s5 := of_decide_eq_true s5) | (replace s5 := of_decide_eq_false s5) | skip
       refine zC3 ?_
       refine zA6 (zA1 rfl ?_)
       refine zA3 (og rfl ?_)
       (first | (refine zG3 rfl rfl ?_ ?_; (first | assumption | omega)) | (refine zH5 rfl rfl ?_ ?_; (first | assumption | omega)) | refine zE9 rfl rfl ?_)
       refine zA3 (og rfl ?_)
       (first | refine zC1 rfl ?_ | refine zA8 rfl ?_)
       refine zA4 ?_
       refine zB8 rfl (fun s6 => ?_) (fun s6 => ?_)
       ·-- true
        first | (replace s6 := of_decide_eq_true s6) | (replace s6 := of_decide_eq_false s6) | skip
        refine zF6 ?_
        refine zA6 ?_
        refine zA6 (zA1 rfl ?_)
        refine stp (zA5 rfl ?_)
        refine stp (zB5 rfl (by assumption) (by rfl) ?_)
        refine zA3 (og rfl ?_)
        (first | refine zA0 rfl ?_ | refine zA8 rfl ?_)
        refine zA3 (og rfl ?_)
        (first | refine zA0 rfl ?_ | refine zA8 rfl ?_)
        refine zA4 ?_
        refine zC4 ?_
        refine ret2 (zD5 rfl) (zD5 rfl) ⟨?_, G⟩
        simp [wordsN, wordsE, h0, h1, h3, h2, s2, s5, s6]
       ·-- false
        first | (replace s6 := of_decide_eq_true s6) | (replace s6 := of_decide_eq_false s6) | skip
        refine zC3 ?_
        refine zF6 ?_
        refine zA6 (zA1 rfl ?_)
        refine zA3 (og rfl ?_)
        (first | refine zA0 rfl ?_ | refine zA8 rfl ?_)
        refine zA3 (og rfl ?_)
        (first | refine zA0 rfl ?_ | refine zA8 rfl ?_)
        refine zA4 ?_
        refine zC4 ?_
        refine ret2 (zD5 rfl) (zD5 rfl) ⟨?_, G⟩
        simp [wordsN, wordsE, h0, h1, h3, h2, s2, s5, s6]
    ·-- false
     first | (replace h2 := of_decide_eq_true h2) | (replace h2 := of_decide_eq_false h2) | skip
     refine zC3 ?_
     refine zA6 (zA1 rfl ?_)
     refine zA3 (og rfl ?_)
     (first | refine zA0 rfl ?_ | refine zA8 rfl ?_)
     refine zA3 (og rfl ?_)
     (first | refine zA0 rfl ?_ | refine zA8 rfl ?_)
     refine zA4 ?_
     refine zC4 ?_
     refine ret2 (zD5 rfl) (zD5 rfl) ⟨?_, G⟩
     simp [wordsN, wordsE, h0, h1, h3, h2]

set_option maxRecDepth 100000 in
theorem zJ8 (w : World) (x : Int) (a b : Nat) (hx0 : 0 ≤ x) (hx1 : x ≤ 18446744073709551615) (ha : a ≤ 63) (hb : b ≤ 62) : Gives Tryz.prog 98 #[.int .u64 x, .int .i64 a, .int .i64 b] w (.int .u64 (x / 2 ^ a % 2 ^ b)) := by
 have G := Grow.rfl' w
 refine zC7 Tryz.func98 Tryz.ntmps98 Tryz.results98 rfl rfl ?_
 refine zA6 (zA1 rfl ?_)
 refine zA3 (og rfl ?_)
 (first | refine zA0 rfl ?_ | refine zA8 rfl ?_)
 refine zA4 ?_
 refine zA6 ?_
 refine zA6 (zA1 rfl ?_)
 refine zA3 (og rfl ?_)
 (first | refine zA0 rfl ?_ | refine zA8 rfl ?_)
 refine zA4 ?_
 refine zC6 ?_
 refine zG6 (fun m_ e_ w_ => ∃ (k : Nat), m_ = a - k ∧ Fr [(0, .int .u64 (x / 2 ^ k)), (1, .int .i64 a), (2, .int .i64 b), (7, .int .i64 k)] e_ ∧ (k ≤ a) ∧ Grow w w_) _ ⟨0, rfl, zE6 ⟨congrArg (Value.int .u64) (by simp), rfl, rfl, rfl, trivial⟩, by omega, G⟩ ?_
 clear G
 rintro m_ e_ w1 ⟨k, rfl, ⟨e2, rfl⟩, hk, G⟩
 refine zA6 ?_
 refine zA6 (zA1 rfl ?_)
 refine zA3 (og rfl ?_)
 (first | refine zA2 rfl ?_ | refine zB6 rfl ?_)
 refine zA3 (og rfl ?_)
 (first | refine zA2 rfl ?_ | refine zB6 rfl ?_)
 refine zA3 (og rfl ?_)
 (first | (refine zR8 rfl rfl ?_ ?_; (first | assumption | omega)) | (refine zM5 rfl rfl ?_ ?_; (first | assumption | omega)) | refine zF9 rfl rfl ?_)
 refine zA4 ?_
 refine zB8 rfl (fun hlt => ?_) (fun hlt => ?_)
 ·-- true
  first | (replace hlt := of_decide_eq_true hlt) | (replace hlt := of_decide_eq_false hlt) | skip
  have hk2 : k < a := by omega
  obtain ⟨hd0, hd1⟩ := qK3 x k hx0
  refine zC3 ?_
  refine zA6 ?_
  refine zC6 ?_
  refine zA1 rfl ?_
  refine zA3 (og rfl ?_)
  (first | refine zA2 rfl ?_ | refine zB6 rfl ?_)
  refine zA3 (og rfl ?_)
  (first | (refine zK3 rfl rfl ?_ ?_ ?_ ?_; omega; omega; (constructor <;> omega)) | (refine yA4 rfl rfl ?_ ?_; omega))
  refine zA3 (og rfl ?_)
  (first | refine zA0 rfl ?_ | refine zA8 rfl ?_)
  refine zA4 ?_
  refine zA1 rfl ?_
  refine zA3 (og rfl ?_)
  (first | refine zA2 rfl ?_ | refine zB6 rfl ?_)
  refine zA3 (og rfl ?_)
  (first | (refine zD8 rfl rfl ?_ ?_; (constructor <;> omega)) | refine zI1 rfl rfl ?_)
  refine zA3 (og rfl ?_)
  (first | refine zA0 rfl ?_ | refine zA8 rfl ?_)
  refine zA4 ?_
  refine ⟨_, ?_, k + 1, rfl, zE6 ⟨congrArg (Value.int .u64) (yM0 x k).symm, rfl, rfl, rfl, trivial⟩, by omega, G⟩
  omega
 ·-- false
  first | (replace hlt := of_decide_eq_true hlt) | (replace hlt := of_decide_eq_false hlt) | skip
  have hk2 : k = a := by omega
  subst hk2
  obtain ⟨hd0, hd1⟩ := qK3 x k hx0
  refine zF6 ?_
  refine zA6 (zA1 rfl ?_)
  refine zA3 (og rfl ?_)
  (first | refine zA0 rfl ?_ | refine zA8 rfl ?_)
  refine zA4 ?_
  refine zA6 ?_
  refine zA6 (zA1 rfl ?_)
  refine zA3 (og rfl ?_)
  (first | refine zA0 rfl ?_ | refine zA8 rfl ?_)
  refine zA4 ?_
  refine zC6 ?_
  refine zG6 (fun m_ e_ w_ => ∃ (j : Nat), m_ = b - j ∧ Fr [(0, .int .u64 (x / 2 ^ k)), (8, .int .u64 (2 ^ j)), (2, .int .i64 b), (9, .int .i64 j)] e_ ∧ (j ≤ b) ∧ Grow w w_) _ ⟨0, rfl, zE6 ⟨rfl, rfl, rfl, rfl, trivial⟩, by omega, G⟩ ?_
  clear G
  rintro m_ e_ w3 ⟨j, rfl, ⟨e4, rfl⟩, hj, G⟩
  refine zA6 ?_
  refine zA6 (zA1 rfl ?_)
  refine zA3 (og rfl ?_)
  (first | refine zA2 rfl ?_ | refine zB6 rfl ?_)
  refine zA3 (og rfl ?_)
  (first | refine zA2 rfl ?_ | refine zB6 rfl ?_)
  refine zA3 (og rfl ?_)
  (first | (refine zR8 rfl rfl ?_ ?_; (first | assumption | omega)) | (refine zM5 rfl rfl ?_ ?_; (first | assumption | omega)) | refine zF9 rfl rfl ?_)
  refine zA4 ?_
  refine zB8 rfl (fun hlt2 => ?_) (fun hlt2 => ?_)
  ·-- true
   first | (replace hlt2 := of_decide_eq_true hlt2) | (replace hlt2 := of_decide_eq_false hlt2) | skip
   have hj2 : j < b := by omega
   obtain ⟨hp0, hp1, hp2⟩ := zV8 j (by omega)
   refine zC3 ?_
   refine zA6 ?_
   refine zC6 ?_
   refine zA1 rfl ?_
   refine zA3 (og rfl ?_)
   (first | refine zA2 rfl ?_ | refine zB6 rfl ?_)
   refine zA3 (og rfl ?_)
   (first | (refine zL5 rfl rfl ?_ ?_; (constructor <;> omega)) | refine zR7 rfl rfl ?_)
   refine zA3 (og rfl ?_)
   (first | refine zA0 rfl ?_ | refine zA8 rfl ?_)
   refine zA4 ?_
   refine zA1 rfl ?_
   refine zA3 (og rfl ?_)
   (first | refine zA2 rfl ?_ | refine zB6 rfl ?_)
   refine zA3 (og rfl ?_)
   (first | (refine zD8 rfl rfl ?_ ?_; (constructor <;> omega)) | refine zI1 rfl rfl ?_)
   refine zA3 (og rfl ?_)
   (first | refine zA0 rfl ?_ | refine zA8 rfl ?_)
   refine zA4 ?_
   refine ⟨_, ?_, j + 1, rfl, zE6 ⟨rfl, congrArg (Value.int .u64) hp2.symm, rfl, rfl, trivial⟩, by omega, G⟩
   omega
  ·-- false
   first | (replace hlt2 := of_decide_eq_true hlt2) | (replace hlt2 := of_decide_eq_false hlt2) | skip
   have hj2 : j = b := by omega
   subst hj2
   obtain ⟨hp0, hp1, hp2⟩ := zV8 j (by omega)
   refine zF6 ?_
   refine zA6 (zA1 rfl ?_)
   refine zA3 (og rfl ?_)
   (first | refine zA2 rfl ?_ | refine zB6 rfl ?_)
   refine zA3 (og rfl ?_)
   (first | refine zA2 rfl ?_ | refine zB6 rfl ?_)
   refine zA3 (og rfl ?_)
   (first | (refine zJ5 rfl rfl ?_ ?_ ?_; omega; omega) | (refine yA5 rfl rfl ?_ ?_; omega))
   refine zA3 (og rfl ?_)
   (first | refine zA0 rfl ?_ | refine zA8 rfl ?_)
   refine zA4 ?_
   refine zC4 ?_
   exact ret1 (zD5 rfl) ⟨rfl, G⟩

theorem yC4 (w : World) (x : Int) (h0 : 0 ≤ x) (h1 : x ≤ 18446744073709551615) : Gives Tryz.prog 98 #[.int .u64 x, .int .i64 2, .int .i64 30] w (.int .u64 (x / 4 % 1073741824)) := by
  have h := zJ8 w x 2 30 h0 h1 (by omega) (by omega)
  rw [show x / 2 ^ 2 % 2 ^ 30 = x / 4 % 1073741824 from by simp] at h
  exact h

theorem qX3 (w : World) (x : Int) (h0 : 0 ≤ x) (h1 : x ≤ 18446744073709551615) : Gives Tryz.prog 98 #[.int .u64 x, .int .i64 32, .int .i64 16] w (.int .u64 (x / 4294967296 % 65536)) := by
  have h := zJ8 w x 32 16 h0 h1 (by omega) (by omega)
  rw [show x / 2 ^ 32 % 2 ^ 16 = x / 4294967296 % 65536 from by simp] at h
  exact h

theorem qX4 (w : World) (x : Int) (h0 : 0 ≤ x) (h1 : x ≤ 18446744073709551615) : Gives Tryz.prog 98 #[.int .u64 x, .int .i64 48, .int .i64 16] w (.int .u64 (x / 281474976710656 % 65536)) := by
  have h := zJ8 w x 48 16 h0 h1 (by omega) (by omega)
  rw [show x / 2 ^ 48 % 2 ^ 16 = x / 281474976710656 % 65536 from by simp] at h
  exact h

theorem yC5 (w : World) (x : Int) (h0 : 0 ≤ x) (h1 : x ≤ 18446744073709551615) : Gives Tryz.prog 98 #[.int .u64 x, .int .i64 32, .int .i64 3] w (.int .u64 (x / 4294967296 % 8)) := by
  have h := zJ8 w x 32 3 h0 h1 (by omega) (by omega)
  rw [show x / 2 ^ 32 % 2 ^ 3 = x / 4294967296 % 8 from by simp] at h
  exact h

theorem qX5 (w : World) (x : Int) (h0 : 0 ≤ x) (h1 : x ≤ 18446744073709551615) : Gives Tryz.prog 98 #[.int .u64 x, .int .i64 35, .int .i64 29] w (.int .u64 (x / 34359738368 % 536870912)) := by
  have h := zJ8 w x 35 29 h0 h1 (by omega) (by omega)
  rw [show x / 2 ^ 35 % 2 ^ 29 = x / 34359738368 % 536870912 from by simp] at h
  exact h

theorem yC6 (w : World) (x : Int) (h0 : 0 ≤ x) (h1 : x ≤ 18446744073709551615) : Gives Tryz.prog 98 #[.int .u64 x, .int .i64 3, .int .i64 29] w (.int .u64 (x / 8 % 536870912)) := by
  have h := zJ8 w x 3 29 h0 h1 (by omega) (by omega)
  rw [show x / 2 ^ 3 % 2 ^ 29 = x / 8 % 536870912 from by simp] at h
  exact h

theorem qX6 (w : World) (x : Int) (h0 : 0 ≤ x) (h1 : x ≤ 18446744073709551615) : Gives Tryz.prog 98 #[.int .u64 x, .int .i64 32, .int .i64 32] w (.int .u64 (x / 4294967296 % 4294967296)) := by
  have h := zJ8 w x 32 32 h0 h1 (by omega) (by omega)
  rw [show x / 2 ^ 32 % 2 ^ 32 = x / 4294967296 % 4294967296 from by simp] at h
  exact h

theorem yI8 (w : World) (x : Int) (h0 : 0 ≤ x) (h1 : x ≤ 18446744073709551615) : Gives Tryz.prog 98 #[.int .u64 x, .int .i64 2, .int .i64 1] w (.int .u64 (x / 4 % 2)) := by
  have h := zJ8 w x 2 1 h0 h1 (by omega) (by omega)
  rw [show x / 2 ^ 2 % 2 ^ 1 = x / 4 % 2 from by simp] at h
  exact h

set_option maxRecDepth 100000 in
theorem qI4 (w : World) (n : Int) (h0 : 0 ≤ n) (h1 : n < 1073741824) : Gives Tryz.prog 99 #[.int .u64 n, .int .i64 30] w (.int .i64 (sgn30 n)) := by
 have G := Grow.rfl' w
 refine zC7 Tryz.func99 Tryz.ntmps99 Tryz.results99 rfl rfl ?_
 refine zA6 (zA1 rfl ?_)
 refine zA3 (og rfl ?_)
 (first | refine zA0 rfl ?_ | refine zA8 rfl ?_)
 refine zA4 ?_
 refine zA6 (zA1 rfl ?_)
 refine zA3 (og rfl ?_)
 (first | refine zA2 rfl ?_ | refine zB6 rfl ?_)
 refine zA3 (og rfl ?_)
 (first | (refine qQ0 rfl rfl rfl ?_ ?_; omega) | (refine qQ1 rfl rfl rfl ?_ ?_; omega) | refine zT7 rfl rfl rfl ?_)
 refine zA3 (og rfl ?_)
 (first | (refine yA8 rfl rfl rfl ?_ ?_; omega) | (refine yA9 rfl rfl rfl ?_ ?_; omega) | refine qP9 rfl rfl rfl ?_)
 refine zA3 (og rfl ?_)
 (first | refine zA0 rfl ?_ | refine zA8 rfl ?_)
 refine zA4 ?_
 refine zA6 (zA1 rfl ?_)
 refine zA3 (og rfl ?_)
 (first | refine zA0 rfl ?_ | refine zA8 rfl ?_)
 refine zA4 ?_
 refine zA6 ?_
 refine zA6 (zA1 rfl ?_)
 refine zA3 (og rfl ?_)
 (first | refine zA0 rfl ?_ | refine zA8 rfl ?_)
 refine zA4 ?_
 refine zC6 ?_
 refine zG6 (fun m_ e_ w_ => ∃ (k : Nat), m_ = 29 - k ∧ Fr [(0, .int .u64 n), (1, .int .i64 30), (5, .int .i64 (2 ^ k)), (6, .int .i64 (k + 1))] e_ ∧ (k ≤ 29) ∧ Grow w w_) _ ⟨0, rfl, zE6 ⟨rfl, rfl, rfl, rfl, trivial⟩, by omega, G⟩ ?_
 clear G
 rintro m_ e_ w1 ⟨k, rfl, ⟨e2, rfl⟩, hk, G⟩
 refine zA6 ?_
 refine zA6 (zA1 rfl ?_)
 refine zA3 (og rfl ?_)
 (first | refine zA2 rfl ?_ | refine zB6 rfl ?_)
 refine zA3 (og rfl ?_)
 (first | refine zA2 rfl ?_ | refine zB6 rfl ?_)
 refine zA3 (og rfl ?_)
 (first | (refine zR8 rfl rfl ?_ ?_; (first | assumption | omega)) | (refine zM5 rfl rfl ?_ ?_; (first | assumption | omega)) | refine zF9 rfl rfl ?_)
 refine zA4 ?_
 refine zB8 rfl (fun hlt => ?_) (fun hlt => ?_)
 ·-- true
  first | (replace hlt := of_decide_eq_true hlt) | (replace hlt := of_decide_eq_false hlt) | skip
  obtain ⟨hp0, hp1, hp2⟩ := qQ2 k (by omega)
  refine zC3 ?_
  refine zA6 ?_
  refine zC6 ?_
  refine zA1 rfl ?_
  refine zA3 (og rfl ?_)
  (first | refine zA2 rfl ?_ | refine zB6 rfl ?_)
  refine zA3 (og rfl ?_)
  (first | (refine zL5 rfl rfl ?_ ?_; (constructor <;> omega)) | refine zR7 rfl rfl ?_)
  refine zA3 (og rfl ?_)
  (first | refine zA0 rfl ?_ | refine zA8 rfl ?_)
  refine zA4 ?_
  refine zA1 rfl ?_
  refine zA3 (og rfl ?_)
  (first | refine zA2 rfl ?_ | refine zB6 rfl ?_)
  refine zA3 (og rfl ?_)
  (first | (refine zD8 rfl rfl ?_ ?_; (constructor <;> omega)) | refine zI1 rfl rfl ?_)
  refine zA3 (og rfl ?_)
  (first | refine zA0 rfl ?_ | refine zA8 rfl ?_)
  refine zA4 ?_
  refine ⟨_, ?_, k + 1, rfl, zE6 ⟨rfl, rfl, congrArg (Value.int .i64) hp2.symm, rfl, trivial⟩, by omega, G⟩
  omega
 ·-- false
  first | (replace hlt := of_decide_eq_true hlt) | (replace hlt := of_decide_eq_false hlt) | skip
  have hk2 : k = 29 := by omega
  subst hk2
  have hpw : (2 : Int) ^ 29 = 536870912 := rfl
  refine zF6 ?_
  refine zA6 (zA1 rfl ?_)
  refine zA3 (og rfl ?_)
  (first | refine zA2 rfl ?_ | refine zB6 rfl ?_)
  refine zA3 (og rfl ?_)
  (first | refine zA2 rfl ?_ | refine zB6 rfl ?_)
  refine zA3 (og rfl ?_)
  (first | (refine zF8 rfl ?_ ?_; (constructor <;> omega)) | refine zJ3 rfl ?_)
  refine zA3 (og rfl ?_)
  (first | (refine zL5 rfl rfl ?_ ?_; (constructor <;> omega)) | refine zR7 rfl rfl ?_)
  refine zA3 (og rfl ?_)
  (first | (refine zJ5 rfl rfl ?_ ?_ ?_; omega; omega) | (refine yA5 rfl rfl ?_ ?_; omega))
  refine zA3 (og rfl ?_)
  (first | (refine zF8 rfl ?_ ?_; (constructor <;> omega)) | refine zJ3 rfl ?_)
  refine zA3 (og rfl ?_)
  (first | refine zA0 rfl ?_ | refine zA8 rfl ?_)
  refine zA4 ?_
  refine zA6 ?_
  refine zA6 (zA1 rfl ?_)
  refine zA3 (og rfl ?_)
  (first | refine zA2 rfl ?_ | refine zB6 rfl ?_)
  refine zA3 (og rfl ?_)
  (first | refine zA2 rfl ?_ | refine zB6 rfl ?_)
  refine zA3 (og rfl ?_)
  (first | (refine qH0 rfl rfl ?_ ?_; (first | assumption | omega)) | (refine qH1 rfl rfl ?_ ?_; (first | assumption | omega)) | refine zL7 rfl rfl ?_)
  refine zA4 ?_
  refine zB8 rfl (fun hge => ?_) (fun hge => ?_)
  ·-- true
   first | (replace hge := of_decide_eq_true hge) | (replace hge := of_decide_eq_false hge) | skip
   refine zA6 (zA1 rfl ?_)
   refine zA3 (og rfl ?_)
   (first | refine zA2 rfl ?_ | refine zB6 rfl ?_)
   refine zA3 (og rfl ?_)
   (first | refine zA2 rfl ?_ | refine zB6 rfl ?_)
   refine zA3 (og rfl ?_)
   (first | (refine zM0 rfl rfl ?_ ?_; (constructor <;> omega)) | refine zT9 rfl rfl ?_)
   refine zA3 (og rfl ?_)
   (first | refine zA2 rfl ?_ | refine zB6 rfl ?_)
   refine zA3 (og rfl ?_)
   (first | (refine zM0 rfl rfl ?_ ?_; (constructor <;> omega)) | refine zT9 rfl rfl ?_)
   refine zA3 (og rfl ?_)
   (first | refine zA0 rfl ?_ | refine zA8 rfl ?_)
   refine zA4 ?_
   refine zC4 ?_
   refine ret1 (zD5 rfl) ⟨congrArg (Value.int .i64) ?_, G⟩
   unfold sgn30; rw [if_neg (by omega)]; omega
  ·-- false
   first | (replace hge := of_decide_eq_true hge) | (replace hge := of_decide_eq_false hge) | skip
   refine zC3 ?_
   refine zA6 (zA1 rfl ?_)
   refine zA3 (og rfl ?_)
   (first | refine zA2 rfl ?_ | refine zB6 rfl ?_)
   refine zA3 (og rfl ?_)
   (first | refine zA0 rfl ?_ | refine zA8 rfl ?_)
   refine zA4 ?_
   refine zC4 ?_
   refine ret1 (zD5 rfl) ⟨congrArg (Value.int .i64) ?_, G⟩
   unfold sgn30; rw [if_pos (by omega)]; omega

theorem yP2 (w : World) (x m : Int) (b : Nat) (hx0 : 0 ≤ x) (hx1 : x ≤ 18446744073709551615) (hb : b ≤ 62) (hm : x % 2 ^ b = m) : Gives Tryz.prog 98 #[.int .u64 x, .int .i64 0, .int .i64 b] w (.int .u64 m) := by
  have h := zJ8 w x 0 b hx0 hx1 (by omega) hb
  rw [Int.pow_zero, Int.ediv_one, hm] at h
  exact h

set_option maxRecDepth 100000 in
theorem zS4 (w : World) (x m : Int) (b : Nat) (hb : b ≤ 62) (hm : IntKind.u64.wrap x % 2 ^ b = m) : Gives Tryz.prog 59 #[.int .i64 x, .int .i64 b] w (.int .u64 m) := by
 have G := Grow.rfl' w
 refine zC7 Tryz.func59 Tryz.ntmps59 Tryz.results59 rfl rfl ?_
 have hu := wrap_u64 x
 refine zA6 (zA1 rfl ?_)
 refine zA3 (og rfl ?_)
 (first | refine zA0 rfl ?_ | refine zA8 rfl ?_)
 refine zA4 ?_
 refine zA6 (zA1 rfl ?_)
 refine zA3 (og rfl ?_)
 (first | refine zA2 rfl ?_ | refine zB6 rfl ?_)
 refine zA3 (og rfl ?_)
 (first | (refine zF8 rfl ?_ ?_; (constructor <;> omega)) | refine zJ3 rfl ?_)
 refine zA3 (og rfl ?_)
 (first | refine zA2 rfl ?_ | refine zB6 rfl ?_)
 refine stp (zC0 rfl (yP2 _ _ _ b (by omega) (by omega) hb hm) ?_)
 intro w1 g2
 replace G := G.tr g2
 clear g2
 refine zA3 (og rfl ?_)
 (first | refine zA0 rfl ?_ | refine zA8 rfl ?_)
 refine zA4 ?_
 refine zC4 ?_
 exact ret1 (zD5 rfl) ⟨rfl, G⟩

theorem qU8 (w : World) (x : Int) : Gives Tryz.prog 59 #[.int .i64 x, .int .i64 30] w (.int .u64 (x % 1073741824)) :=
  zS4 w x _ 30 (by omega) (by rw [wrap_u64]; show _ % (1073741824 : Int) = _; omega)

theorem qU9 (w : World) (x : Int) : Gives Tryz.prog 59 #[.int .i64 x, .int .i64 16] w (.int .u64 (x % 65536)) :=
  zS4 w x _ 16 (by omega) (by rw [wrap_u64]; show _ % (65536 : Int) = _; omega)

theorem yO3 (w : World) (x : Int) : Gives Tryz.prog 59 #[.int .i64 x, .int .i64 3] w (.int .u64 (x % 8)) :=
  zS4 w x _ 3 (by omega) (by rw [wrap_u64]; show _ % (8 : Int) = _; omega)

theorem yC7 (w : World) (x : Int) : Gives Tryz.prog 59 #[.int .i64 x, .int .i64 29] w (.int .u64 (x % 536870912)) :=
  zS4 w x _ 29 (by omega) (by rw [wrap_u64]; show _ % (536870912 : Int) = _; omega)

theorem yO4 (w : World) (x : Int) : Gives Tryz.prog 59 #[.int .i64 x, .int .i64 32] w (.int .u64 (x % 4294967296)) :=
  zS4 w x _ 32 (by omega) (by rw [wrap_u64]; show _ % (4294967296 : Int) = _; omega)

set_option maxRecDepth 100000 in
theorem zH2 (w : World) (x : Int) (hx0 : 0 ≤ x) (hx1 : x ≤ 18446744073709551615) : Gives Tryz.prog 60 #[.int .u64 x] w (.tuple #[(decP x).v, .int .i64 (decE x)]) := by
 have G := Grow.rfl' w
 refine zC7 Tryz.func60 Tryz.ntmps60 Tryz.results60 rfl rfl ?_
 refine zA6 (zA1 rfl ?_)
 refine stp (zD3 ?_)
 intro b1 w2 hb3 hc4 g5
 refine zA3 (og rfl ?_)
 (first | refine zA0 rfl ?_ | refine zA8 rfl ?_)
 refine zA4 ?_
 refine zA6 ?_
 refine zA6 (zA1 rfl ?_)
 refine zA3 (og rfl ?_)
 (first | refine zA2 rfl ?_ | refine zB6 rfl ?_)
 refine zA3 (og rfl ?_)
 (first | (refine zG3 rfl rfl ?_ ?_; (first | assumption | omega)) | (refine zH5 rfl rfl ?_ ?_; (first | assumption | omega)) | refine zE9 rfl rfl ?_)
 refine zA4 ?_
 have hge6 := Nat.le_trans G.size hb3
 replace G := G.tr g5
 clear g5 hb3
 refine zB8 rfl (fun h0 => ?_) (fun h0 => ?_)
 ·-- true
  first | (replace h0 := of_decide_eq_true h0) | (replace h0 := of_decide_eq_false h0) | skip
  refine zA6 (zA1 rfl ?_)
  refine stp (zD4 (v := .agg #[.int .i64 (0), .int .i64 (0), .int .i64 (0), .int .i64 (0), .int .i64 (0), .int .i64 (0), .int .i64 (0), .bool false]) (fun w => by kernel_rfl) ?_)
  refine stn (zB1 rfl rfl hc4 (by rfl) (by rfl) (by rfl) ?_)
  intro w10 hc11 u12
  replace G := G.upd u12 hge6
  clear u12 hc4
  refine zA3 (og rfl ?_)
  (first | refine zA0 rfl ?_ | refine zA8 rfl ?_)
  refine zA4 ?_
  refine zC4 ?_
  subst h0
  refine ret2 (zC9 rfl (by assumption) (by rfl)) (zD5 rfl) ⟨?_, G⟩
  simp [decP, decE, Pt.v, Pt0]
 ·-- false
  first | (replace h0 := of_decide_eq_true h0) | (replace h0 := of_decide_eq_false h0) | skip
  refine zC3 ?_
  refine zA6 (zA1 rfl ?_)
  refine zA3 (og rfl ?_)
  (first | refine zA2 rfl ?_ | refine zB6 rfl ?_)
  refine stp (zC0 rfl (yC4 _ _ (by omega) (by omega)) ?_)
  intro w13 g14
  replace hc4 := g14.heap hc4
  replace G := G.tr g14
  clear g14
  refine stp (zC0 rfl (qI4 _ _ (by omega) (by omega)) ?_)
  intro w15 g16
  replace hc4 := g16.heap hc4
  replace G := G.tr g16
  clear g16
  refine zA3 (og rfl ?_)
  (first | refine zA0 rfl ?_ | refine zA8 rfl ?_)
  refine zA4 ?_
  refine zA6 ?_
  refine zA6 (zA1 rfl ?_)
  refine zA3 (og rfl ?_)
  (first | refine zA2 rfl ?_ | refine zB6 rfl ?_)
  refine zA3 (og rfl ?_)
  (first | (refine zJ5 rfl rfl ?_ ?_ ?_; omega; omega) | (refine yA5 rfl rfl ?_ ?_; omega))
  refine zA4 ?_
  refine zC6 ?_
  refine zA6 (zA1 rfl ?_)
  refine zA3 (og rfl ?_)
  (first | (refine zG3 rfl rfl ?_ ?_; (first | assumption | omega)) | (refine zH5 rfl rfl ?_ ?_; (first | assumption | omega)) | refine zE9 rfl rfl ?_)
  refine zA3 (og rfl ?_)
  (first | refine zC1 rfl ?_ | refine zA8 rfl ?_)
  refine zA4 ?_
  refine zB8 rfl (fun h1 => ?_) (fun h1 => ?_)
  ·-- true
   first | (replace h1 := of_decide_eq_true h1) | (replace h1 := of_decide_eq_false h1) | skip
   refine zA6 (zA1 rfl ?_)
   refine zA3 (og rfl ?_)
   (first | refine zA2 rfl ?_ | refine zB6 rfl ?_)
   refine zA3 (og rfl ?_)
   (first | refine zA2 rfl ?_ | refine zB6 rfl ?_)
   refine stp (zC0 rfl (qX3 _ _ (by omega) (by omega)) ?_)
   intro w17 g18
   replace hc4 := g18.heap hc4
   replace G := G.tr g18
   clear g18
   refine zA3 (og rfl ?_)
   (first | (refine zF8 rfl ?_ ?_; (constructor <;> omega)) | refine zJ3 rfl ?_)
   refine zA3 (og rfl ?_)
   (first | refine zA2 rfl ?_ | refine zB6 rfl ?_)
   refine stp (zC0 rfl (qX4 _ _ (by omega) (by omega)) ?_)
   intro w19 g20
   replace hc4 := g20.heap hc4
   replace G := G.tr g20
   clear g20
   refine zA3 (og rfl ?_)
   (first | (refine zF8 rfl ?_ ?_; (constructor <;> omega)) | refine zJ3 rfl ?_)
   refine stp (zD4 (v := .agg #[.int .i64 (1), .int .i64 (sgn30 (x / 4 % 1073741824)), .int .i64 (x / 4294967296 % 65536), .int .i64 (x / 281474976710656 % 65536), .int .i64 (0), .int .i64 (0), .int .i64 (0), .bool false]) (fun w => by kernel_rfl) ?_)
   refine stn (zB1 rfl rfl hc4 (by rfl) (by rfl) (by rfl) ?_)
   intro w24 hc25 u26
   replace G := G.upd u26 hge6
   clear u26 hc4
   refine zA3 (og rfl ?_)
   (first | refine zA0 rfl ?_ | refine zA8 rfl ?_)
   refine zA4 ?_
   refine zC4 ?_
   refine ret2 (zC9 rfl (by assumption) (by rfl)) (zD5 rfl) ⟨?_, G⟩
   simp [decP, decE, Pt.v, Pt0, h0, h1]
  ·-- false
   first | (replace h1 := of_decide_eq_true h1) | (replace h1 := of_decide_eq_false h1) | skip
   refine zA6 (zA1 rfl ?_)
   refine zA3 (og rfl ?_)
   (first | (refine zG3 rfl rfl ?_ ?_; (first | assumption | omega)) | (refine zH5 rfl rfl ?_ ?_; (first | assumption | omega)) | refine zE9 rfl rfl ?_)
   refine zA3 (og rfl ?_)
   (first | refine zC1 rfl ?_ | refine zA8 rfl ?_)
   refine zA4 ?_
   refine zB8 rfl (fun h2 => ?_) (fun h2 => ?_)
   ·-- true
    first | (replace h2 := of_decide_eq_true h2) | (replace h2 := of_decide_eq_false h2) | skip
    refine zA6 (zA1 rfl ?_)
    refine zA3 (og rfl ?_)
    (first | refine zA2 rfl ?_ | refine zB6 rfl ?_)
    refine zA3 (og rfl ?_)
    (first | refine zA2 rfl ?_ | refine zB6 rfl ?_)
    refine stp (zC0 rfl (yC5 _ _ (by omega) (by omega)) ?_)
    intro w27 g28
    replace hc4 := g28.heap hc4
    replace G := G.tr g28
    clear g28
    refine zA3 (og rfl ?_)
    (first | (refine zF8 rfl ?_ ?_; (constructor <;> omega)) | refine zJ3 rfl ?_)
    refine zA3 (og rfl ?_)
    (first | refine zA2 rfl ?_ | refine zB6 rfl ?_)
    refine stp (zC0 rfl (qX5 _ _ (by omega) (by omega)) ?_)
    intro w29 g30
    replace hc4 := g30.heap hc4
    replace G := G.tr g30
    clear g30
    refine zA3 (og rfl ?_)
    (first | (refine zF8 rfl ?_ ?_; (constructor <;> omega)) | refine zJ3 rfl ?_)
    refine stp (zD4 (v := .agg #[.int .i64 (2), .int .i64 (sgn30 (x / 4 % 1073741824)), .int .i64 (0), .int .i64 (0), .int .i64 (x / 4294967296 % 8), .int .i64 (x / 34359738368 % 536870912), .int .i64 (0), .bool false]) (fun w => by kernel_rfl) ?_)
    refine stn (zB1 rfl rfl hc4 (by rfl) (by rfl) (by rfl) ?_)
    intro w34 hc35 u36
    replace G := G.upd u36 hge6
    clear u36 hc4
    refine zA3 (og rfl ?_)
    (first | refine zA0 rfl ?_ | refine zA8 rfl ?_)
    refine zA4 ?_
    refine zC4 ?_
    refine ret2 (zC9 rfl (by assumption) (by rfl)) (zD5 rfl) ⟨?_, G⟩
    simp [decP, decE, Pt.v, Pt0, h0, h1, h2]
   ·-- false
    first | (replace h2 := of_decide_eq_true h2) | (replace h2 := of_decide_eq_false h2) | skip
    refine zA6 (zA1 rfl ?_)
    refine zA3 (og rfl ?_)
    (first | (refine zG3 rfl rfl ?_ ?_; (first | assumption | omega)) | (refine zH5 rfl rfl ?_ ?_; (first | assumption | omega)) | refine zE9 rfl rfl ?_)
    refine zA3 (og rfl ?_)
    (first | refine zC1 rfl ?_ | refine zA8 rfl ?_)
    refine zA4 ?_
    refine zB8 rfl (fun h3 => ?_) (fun h3 => ?_)
    ·-- true
     first | (replace h3 := of_decide_eq_true h3) | (replace h3 := of_decide_eq_false h3) | skip
     refine zA6 (zA1 rfl ?_)
     refine zA3 (og rfl ?_)
     (first | refine zA2 rfl ?_ | refine zB6 rfl ?_)
     refine stp (zC0 rfl (yC6 _ _ (by omega) (by omega)) ?_)
     intro w37 g38
     replace hc4 := g38.heap hc4
     replace G := G.tr g38
     clear g38
     refine zA3 (og rfl ?_)
     (first | (refine zF8 rfl ?_ ?_; (constructor <;> omega)) | refine zJ3 rfl ?_)
     refine zA3 (og rfl ?_)
     (first | refine zA2 rfl ?_ | refine zB6 rfl ?_)
     refine stp (zC0 rfl (qX6 _ _ (by omega) (by omega)) ?_)
     intro w39 g40
     replace hc4 := g40.heap hc4
     replace G := G.tr g40
     clear g40
     refine zA3 (og rfl ?_)
     (first | (refine zF8 rfl ?_ ?_; (constructor <;> omega)) | refine zJ3 rfl ?_)
     refine zA3 (og rfl ?_)
     (first | refine zA2 rfl ?_ | refine zB6 rfl ?_)
     refine stp (zC0 rfl (yI8 _ _ (by omega) (by omega)) ?_)
     intro w41 g42
     replace hc4 := g42.heap hc4
     replace G := G.tr g42
     clear g42
     refine stp (zE9 rfl rfl ?_)
     refine stp (zD4 (v := .agg #[.int .i64 (3), .int .i64 (x / 8 % 536870912), .int .i64 (0), .int .i64 (0), .int .i64 (0), .int .i64 (0), .int .i64 (x / 4294967296 % 4294967296), .bool (decide (x / 4 % 2 = 1))]) (fun w => by kernel_rfl) ?_)
     refine stn (zB1 rfl rfl hc4 (by rfl) (by rfl) (by rfl) ?_)
     intro w46 hc47 u48
     replace G := G.upd u48 hge6
     clear u48 hc4
     refine zA3 (og rfl ?_)
     (first | refine zA0 rfl ?_ | refine zA8 rfl ?_)
     refine zA4 ?_
     refine zC4 ?_
     refine ret2 (zC9 rfl (by assumption) (by rfl)) (zD5 rfl) ⟨?_, G⟩
     simp [decP, decE, Pt.v, Pt0, h0, h1, h2, h3]
    ·-- false
     first | (replace h3 := of_decide_eq_true h3) | (replace h3 := of_decide_eq_false h3) | skip
     have h4 : x % 4 = 3 := by omega
     refine zC3 ?_
     refine zA6 (zA1 rfl ?_)
     refine stp (zD4 (v := .agg #[.int .i64 (0), .int .i64 (0), .int .i64 (0), .int .i64 (0), .int .i64 (0), .int .i64 (0), .int .i64 (0), .bool false]) (fun w => by kernel_rfl) ?_)
     refine stn (zB1 rfl rfl hc4 (by rfl) (by rfl) (by rfl) ?_)
     intro w52 hc53 u54
     replace G := G.upd u54 hge6
     clear u54 hc4
     refine zA3 (og rfl ?_)
     (first | refine zA0 rfl ?_ | refine zA8 rfl ?_)
     refine zA4 ?_
     refine zC4 ?_
     refine ret2 (zC9 rfl (by assumption) (by rfl)) (zD5 rfl) ⟨?_, G⟩
     simp [decP, decE, Pt.v, Pt0, h0, h1, h2, h3, h4]

set_option maxRecDepth 100000 in
theorem zJ9 (w : World) (p : Pt) : Gives Tryz.prog 23 #[.agg #[.int .i64 (p.kind), .int .i64 (p.off), .int .i64 (p.data), .int .i64 (p.ptrs), .int .i64 (p.size), .int .i64 (p.count), .int .i64 (p.seg), .bool p.dbl]] w (.tuple #[.int .u64 (encR p), .int .i64 (encE p)]) := by
 have G := Grow.rfl' w
 refine zC7 Tryz.func23 Tryz.ntmps23 Tryz.results23 rfl rfl ?_
 refine zA6 (zA1 rfl ?_)
 refine zA3 (og rfl ?_)
 (first | refine zD0 rfl ?_ | refine zD2 rfl ?_ | refine zC5 rfl ?_ | refine zH0 rfl rfl ?_)
 intro b1 w2 hb3 hc4 g5
 have hge6 := Nat.le_trans G.size hb3
 replace G := G.tr g5
 clear g5 hb3
 refine zA3 (og rfl ?_)
 (first | refine zA0 rfl ?_ | refine zA8 rfl ?_)
 refine zA3 (og rfl ?_)
 (first | refine zA0 rfl ?_ | refine zA8 rfl ?_)
 refine zA4 ?_
 refine zA6 (zA1 rfl ?_)
 refine zA3 (og rfl ?_)
 (first | refine zA0 rfl ?_ | refine zA8 rfl ?_)
 refine zA4 ?_
 refine zA6 ?_
 refine zA6 (zA1 rfl ?_)
 refine stp (zA5 rfl ?_)
 refine stp (zB5 rfl (by assumption) (by rfl) ?_)
 refine zA4 ?_
 refine zC6 ?_
 refine zA6 (zA1 rfl ?_)
 refine zA3 (og rfl ?_)
 (first | (refine zG3 rfl rfl ?_ ?_; (first | assumption | omega)) | (refine zH5 rfl rfl ?_ ?_; (first | assumption | omega)) | refine zE9 rfl rfl ?_)
 refine zA3 (og rfl ?_)
 (first | refine zC1 rfl ?_ | refine zA8 rfl ?_)
 refine zA4 ?_
 refine zB8 rfl (fun h1 => ?_) (fun h1 => ?_)
 ·-- true
  first | (replace h1 := of_decide_eq_true h1) | (replace h1 := of_decide_eq_false h1) | skip
  have hw : 4 * (p.off % 1073741824) + p.data % 65536 * 4294967296 + p.ptrs % 65536 * 281474976710656 = encW p := by unfold encW; rw [if_pos h1]; omega
  obtain ⟨hx0, hx1⟩ := zN3 p
  by_cases hd : decE (encW p) = 0
  ·
   refine zJ4 15 [[], [0], [1, 0], [2, 1, 0], [], [0], [5, 4, 3, 1, 0], [6, 5, 4, 2, 1, 0], [7, 6, 5, 4, 3, 2, 1, 0], [], [0], [10, 9, 8, 6, 5, 4, 1, 0], [11, 10, 9, 7, 6, 5, 2, 1, 0], [12, 11, 10, 9, 8, 7, 6, 5, 4, 3, 2, 1, 0], [13, 12, 11, 10, 9, 8, 7, 6, 5, 4, 3, 2, 1, 0]] mixed (by kernel_rfl) (by kernel_rfl) (by kernel_rfl) ?_
   intro w7 g8
   replace hc4 := g8.heap hc4
   replace G := G.tr g8
   clear g8
   apply zB7
   ·intro w_ g_; refine og rfl ?_; refine zA5 rfl ?_; exact ⟨Grow.rfl' _, rfl⟩
   apply zB7
   ·intro w_ g_; refine og rfl ?_; refine zB5 rfl (by exact Grow.heap g_ (by assumption)) (by rfl) ?_; exact ⟨Grow.rfl' _, rfl⟩
   apply zB7
   ·intro w_ g_; refine og rfl ?_; refine zC0 rfl (qU8 _ _) ?_; intro w2_ g2_; exact ⟨g2_, rfl⟩
   apply zB7
   ·intro w_ g_; refine og rfl ?_; (first | (refine zL5 rfl rfl ?_ ?_; (constructor <;> omega)) | refine zR7 rfl rfl ?_); exact ⟨Grow.rfl' _, rfl⟩
   apply zB7
   ·intro w_ g_; refine og rfl ?_; refine zA5 rfl ?_; exact ⟨Grow.rfl' _, rfl⟩
   apply zB7
   ·intro w_ g_; refine og rfl ?_; refine zB5 rfl (by exact Grow.heap g_ (by assumption)) (by rfl) ?_; exact ⟨Grow.rfl' _, rfl⟩
   apply zB7
   ·intro w_ g_; refine og rfl ?_; refine zC0 rfl (qU9 _ _) ?_; intro w2_ g2_; exact ⟨g2_, rfl⟩
   apply zB7
   ·intro w_ g_; refine og rfl ?_; (first | (refine zU0 (m := 4294967296) rfl rfl (by decide) (by decide) ?_ ?_; (constructor <;> omega)) | refine zO7 (m := 4294967296) rfl rfl (by decide) (by decide) ?_); exact ⟨Grow.rfl' _, rfl⟩
   apply zB7
   ·intro w_ g_; refine og rfl ?_; (first | (refine zD8 rfl rfl ?_ ?_; (constructor <;> omega)) | refine zI1 rfl rfl ?_); exact ⟨Grow.rfl' _, rfl⟩
   apply zB7
   ·intro w_ g_; refine og rfl ?_; refine zA5 rfl ?_; exact ⟨Grow.rfl' _, rfl⟩
   apply zB7
   ·intro w_ g_; refine og rfl ?_; refine zB5 rfl (by exact Grow.heap g_ (by assumption)) (by rfl) ?_; exact ⟨Grow.rfl' _, rfl⟩
   apply zB7
   ·intro w_ g_; refine og rfl ?_; refine zC0 rfl (qU9 _ _) ?_; intro w2_ g2_; exact ⟨g2_, rfl⟩
   apply zB7
   ·intro w_ g_; refine og rfl ?_; (first | (refine zU0 (m := 281474976710656) rfl rfl (by decide) (by decide) ?_ ?_; (constructor <;> omega)) | refine zO7 (m := 281474976710656) rfl rfl (by decide) (by decide) ?_); exact ⟨Grow.rfl' _, rfl⟩
   apply zB7
   ·intro w_ g_; refine og rfl ?_; (first | (refine zD8 rfl rfl ?_ ?_; (constructor <;> omega)) | refine zI1 rfl rfl ?_); exact ⟨Grow.rfl' _, rfl⟩
   apply zB7
   ·intro w_ g_; refine og rfl ?_; (first | refine zA0 rfl ?_ | refine zA8 rfl ?_); exact ⟨Grow.rfl' _, rfl⟩
   refine zI5 ?_
   intro w9 g10
   replace hc4 := g10.heap hc4
   replace G := G.tr g10
   clear g10
   refine zA4 ?_
   refine zA6 (zA1 rfl ?_)
   refine zA3 (og rfl ?_)
   (first | refine zA2 rfl ?_ | refine zB6 rfl ?_)
   refine stp (zC0 rfl (by (try rw [hw]); exact zH2 _ _ hx0 hx1) ?_)
   intro w11 g12
   replace hc4 := g12.heap hc4
   replace G := G.tr g12
   clear g12
   refine zA3 (og rfl ?_)
   (first | refine zH6 rfl ?_ | refine zB6 rfl ?_)
   refine stp (zB2 rfl rfl ?_)
   refine stp (zB2 rfl rfl ?_)
   refine stp (zD3 ?_)
   intro b13 w14 hb15 hc16 g17
   refine stn (zB1 rfl rfl hc16 (by rfl) (by rfl) (by rfl) ?_)
   intro w18 hc19 u20
   have g21 := g17.upd u20 hb15
   have hge22 := Nat.le_trans G.size hb15
   have ne23 := Nat.ne_of_lt (Nat.lt_of_lt_of_le (zA9 hc4) hb15)
   replace hc4 := g21.heap hc4
   replace G := G.tr g21
   clear u20 g17 hb15 hc16
   refine zA3 (og rfl ?_)
   (first | refine zA0 rfl ?_ | refine zA8 rfl ?_)
   refine zA4 ?_
   refine zA6 ?_
   refine zA6 (zA1 rfl ?_)
   refine zA3 (og rfl ?_)
   (first | refine zA2 rfl ?_ | refine zB6 rfl ?_)
   refine zA3 (og rfl ?_)
   (first | (refine zO8 rfl rfl ?_ ?_; (first | assumption | omega)) | (refine zM4 rfl rfl ?_ ?_; (first | assumption | omega)) | refine zI9 rfl rfl ?_)
   refine zA3 (og rfl ?_)
   (first | refine zB9 rfl ?_ | refine zB6 rfl ?_)
   refine zA3 (og rfl ?_)
   (first | refine zB4 rfl (by assumption) (by rfl) ?_ | refine zH8 rfl (by assumption) (by rfl) (by rfl) ?_)
   refine zA3 (og rfl ?_)
   (first | refine zB4 rfl (by assumption) (by rfl) ?_ | refine zH8 rfl (by assumption) (by rfl) (by rfl) ?_)
   refine stp (qJ9 rfl rfl (by rfl) ?_)
   refine zA3 (og rfl ?_)
   (first | (refine zG7 rfl ?_ rfl ?_; (first | rfl | assumption)) | (refine zG8 rfl ?_ rfl ?_; (first | rfl | assumption)))
   refine zA4 ?_
   refine zB8 rfl (fun hc => ?_) (fun hc => ?_)
   ·-- true
    first | (replace hc := of_decide_eq_true hc) | (replace hc := of_decide_eq_false hc) | skip
    refine zA6 (zA1 rfl ?_)
    refine zA3 (og rfl ?_)
    (first | refine zA0 rfl ?_ | refine zA8 rfl ?_)
    refine zA3 (og rfl ?_)
    (first | refine zA0 rfl ?_ | refine zA8 rfl ?_)
    refine zA4 ?_
    refine zC4 ?_
    refine ret2 (zD5 rfl) (zD5 rfl) ⟨?_, G⟩
    have hq : ¬ decP (encW p) = p := by
     intro hq
     rw [hq] at hc
     simp at hc
    simp [encR, encE, encOk, hd, hq]
   ·-- false
    first | (replace hc := of_decide_eq_true hc) | (replace hc := of_decide_eq_false hc) | skip
    refine zC3 ?_
    refine zA6 (zA1 rfl ?_)
    refine zA3 (og rfl ?_)
    (first | refine zA2 rfl ?_ | refine zB6 rfl ?_)
    refine zA3 (og rfl ?_)
    (first | refine zA0 rfl ?_ | refine zA8 rfl ?_)
    refine zA3 (og rfl ?_)
    (first | refine zA0 rfl ?_ | refine zA8 rfl ?_)
    refine zA4 ?_
    refine zC4 ?_
    refine ret2 (zD5 rfl) (zD5 rfl) ⟨?_, G⟩
    have hq : decP (encW p) = p := by
     generalize decP (encW p) = q at hc ⊢
     cases q; cases p; simpa [and_assoc] using hc
    simp [encR, encE, encOk, hd, hq] <;> omega
  ·
   refine zJ4 15 [[], [0], [1, 0], [2, 1, 0], [], [0], [5, 4, 3, 1, 0], [6, 5, 4, 2, 1, 0], [7, 6, 5, 4, 3, 2, 1, 0], [], [0], [10, 9, 8, 6, 5, 4, 1, 0], [11, 10, 9, 7, 6, 5, 2, 1, 0], [12, 11, 10, 9, 8, 7, 6, 5, 4, 3, 2, 1, 0], [13, 12, 11, 10, 9, 8, 7, 6, 5, 4, 3, 2, 1, 0]] mixed (by kernel_rfl) (by kernel_rfl) (by kernel_rfl) ?_
   intro w24 g25
   replace hc4 := g25.heap hc4
   replace G := G.tr g25
   clear g25
   apply zB7
   ·intro w_ g_; refine og rfl ?_; refine zA5 rfl ?_; exact ⟨Grow.rfl' _, rfl⟩
   apply zB7
   ·intro w_ g_; refine og rfl ?_; refine zB5 rfl (by exact Grow.heap g_ (by assumption)) (by rfl) ?_; exact ⟨Grow.rfl' _, rfl⟩
   apply zB7
   ·intro w_ g_; refine og rfl ?_; refine zC0 rfl (qU8 _ _) ?_; intro w2_ g2_; exact ⟨g2_, rfl⟩
   apply zB7
   ·intro w_ g_; refine og rfl ?_; (first | (refine zL5 rfl rfl ?_ ?_; (constructor <;> omega)) | refine zR7 rfl rfl ?_); exact ⟨Grow.rfl' _, rfl⟩
   apply zB7
   ·intro w_ g_; refine og rfl ?_; refine zA5 rfl ?_; exact ⟨Grow.rfl' _, rfl⟩
   apply zB7
   ·intro w_ g_; refine og rfl ?_; refine zB5 rfl (by exact Grow.heap g_ (by assumption)) (by rfl) ?_; exact ⟨Grow.rfl' _, rfl⟩
   apply zB7
   ·intro w_ g_; refine og rfl ?_; refine zC0 rfl (qU9 _ _) ?_; intro w2_ g2_; exact ⟨g2_, rfl⟩
   apply zB7
   ·intro w_ g_; refine og rfl ?_; (first | (refine zU0 (m := 4294967296) rfl rfl (by decide) (by decide) ?_ ?_; (constructor <;> omega)) | refine zO7 (m := 4294967296) rfl rfl (by decide) (by decide) ?_); exact ⟨Grow.rfl' _, rfl⟩
   apply zB7
   ·intro w_ g_; refine og rfl ?_; (first | (refine zD8 rfl rfl ?_ ?_; (constructor <;> omega)) | refine zI1 rfl rfl ?_); exact ⟨Grow.rfl' _, rfl⟩
   apply zB7
   ·intro w_ g_; refine og rfl ?_; refine zA5 rfl ?_; exact ⟨Grow.rfl' _, rfl⟩
   apply zB7
   ·intro w_ g_; refine og rfl ?_; refine zB5 rfl (by exact Grow.heap g_ (by assumption)) (by rfl) ?_; exact ⟨Grow.rfl' _, rfl⟩
   apply zB7
   ·intro w_ g_; refine og rfl ?_; refine zC0 rfl (qU9 _ _) ?_; intro w2_ g2_; exact ⟨g2_, rfl⟩
   apply zB7
   ·intro w_ g_; refine og rfl ?_; (first | (refine zU0 (m := 281474976710656) rfl rfl (by decide) (by decide) ?_ ?_; (constructor <;> omega)) | refine zO7 (m := 281474976710656) rfl rfl (by decide) (by decide) ?_); exact ⟨Grow.rfl' _, rfl⟩
   apply zB7
   ·intro w_ g_; refine og rfl ?_; (first | (refine zD8 rfl rfl ?_ ?_; (constructor <;> omega)) | refine zI1 rfl rfl ?_); exact ⟨Grow.rfl' _, rfl⟩
   apply zB7
   ·intro w_ g_; refine og rfl ?_; (first | refine zA0 rfl ?_ | refine zA8 rfl ?_); exact ⟨Grow.rfl' _, rfl⟩
   refine zI5 ?_
   intro w26 g27
   replace hc4 := g27.heap hc4
   replace G := G.tr g27
   clear g27
   refine zA4 ?_
   refine zA6 (zA1 rfl ?_)
   refine zA3 (og rfl ?_)
   (first | refine zA2 rfl ?_ | refine zB6 rfl ?_)
   refine stp (zC0 rfl (by (try rw [hw]); exact zH2 _ _ hx0 hx1) ?_)
   intro w28 g29
   replace hc4 := g29.heap hc4
   replace G := G.tr g29
   clear g29
   refine zA3 (og rfl ?_)
   (first | refine zH6 rfl ?_ | refine zB6 rfl ?_)
   refine stp (zB2 rfl rfl ?_)
   refine stp (zB2 rfl rfl ?_)
   refine stp (zD3 ?_)
   intro b30 w31 hb32 hc33 g34
   refine stn (zB1 rfl rfl hc33 (by rfl) (by rfl) (by rfl) ?_)
   intro w35 hc36 u37
   have g38 := g34.upd u37 hb32
   have hge39 := Nat.le_trans G.size hb32
   have ne40 := Nat.ne_of_lt (Nat.lt_of_lt_of_le (zA9 hc4) hb32)
   replace hc4 := g38.heap hc4
   replace G := G.tr g38
   clear u37 g34 hb32 hc33
   refine zA3 (og rfl ?_)
   (first | refine zA0 rfl ?_ | refine zA8 rfl ?_)
   refine zA4 ?_
   refine zA6 ?_
   refine zA6 (zA1 rfl ?_)
   refine zA3 (og rfl ?_)
   (first | refine zA2 rfl ?_ | refine zB6 rfl ?_)
   refine zA3 (og rfl ?_)
   (first | (refine zO8 rfl rfl ?_ ?_; (first | assumption | omega)) | (refine zM4 rfl rfl ?_ ?_; (first | assumption | omega)) | refine zI9 rfl rfl ?_)
   refine zA3 (og rfl ?_)
   (first | refine zB9 rfl ?_ | refine zB6 rfl ?_)
   refine zA3 (zP4 rfl ?_)
   refine zA3 (zP4 rfl ?_)
   refine zA3 (zP4 rfl ?_)
   refine zA3 (og rfl ?_)
   (first | (refine zG7 rfl ?_ rfl ?_; (first | rfl | assumption)) | (refine zG8 rfl ?_ rfl ?_; (first | rfl | assumption)))
   refine zA4 ?_
   refine zP2 rfl ?_
   refine zA6 (zA1 rfl ?_)
   refine zA3 (og rfl ?_)
   (first | refine zA0 rfl ?_ | refine zA8 rfl ?_)
   refine zA3 (og rfl ?_)
   (first | refine zA0 rfl ?_ | refine zA8 rfl ?_)
   refine zA4 ?_
   refine zC4 ?_
   refine ret2 (zD5 rfl) (zD5 rfl) ⟨?_, G⟩
   simp [encR, encE, encOk, hd]
 ·-- false
  first | (replace h1 := of_decide_eq_true h1) | (replace h1 := of_decide_eq_false h1) | skip
  refine zA6 (zA1 rfl ?_)
  refine zA3 (og rfl ?_)
  (first | (refine zG3 rfl rfl ?_ ?_; (first | assumption | omega)) | (refine zH5 rfl rfl ?_ ?_; (first | assumption | omega)) | refine zE9 rfl rfl ?_)
  refine zA3 (og rfl ?_)
  (first | refine zC1 rfl ?_ | refine zA8 rfl ?_)
  refine zA4 ?_
  refine zB8 rfl (fun h2 => ?_) (fun h2 => ?_)
  ·-- true
   first | (replace h2 := of_decide_eq_true h2) | (replace h2 := of_decide_eq_false h2) | skip
   have hw : 1 + 4 * (p.off % 1073741824) + p.size % 8 * 4294967296 + p.count % 536870912 * 34359738368 = encW p := by unfold encW; rw [if_neg h1, if_pos h2]; omega
   obtain ⟨hx0, hx1⟩ := zN3 p
   by_cases hd : decE (encW p) = 0
   ·
    refine zJ4 16 [[], [0], [1, 0], [2, 1, 0], [3, 2, 1, 0], [], [0], [6, 5, 4, 1, 0], [7, 6, 5, 2, 1, 0], [8, 7, 6, 5, 4, 3, 2, 1, 0], [], [0], [11, 10, 9, 6, 5, 4, 1, 0], [12, 11, 10, 7, 6, 5, 2, 1, 0], [13, 12, 11, 10, 9, 8, 7, 6, 5, 4, 3, 2, 1, 0], [14, 13, 12, 11, 10, 9, 8, 7, 6, 5, 4, 3, 2, 1, 0]] mixed (by kernel_rfl) (by kernel_rfl) (by kernel_rfl) ?_
    intro w41 g42
    replace hc4 := g42.heap hc4
    replace G := G.tr g42
    clear g42
    apply zB7
    ·intro w_ g_; refine og rfl ?_; refine zA5 rfl ?_; exact ⟨Grow.rfl' _, rfl⟩
    apply zB7
    ·intro w_ g_; refine og rfl ?_; refine zB5 rfl (by exact Grow.heap g_ (by assumption)) (by rfl) ?_; exact ⟨Grow.rfl' _, rfl⟩
    apply zB7
    ·intro w_ g_; refine og rfl ?_; refine zC0 rfl (qU8 _ _) ?_; intro w2_ g2_; exact ⟨g2_, rfl⟩
    apply zB7
    ·intro w_ g_; refine og rfl ?_; (first | (refine zL5 rfl rfl ?_ ?_; (constructor <;> omega)) | refine zR7 rfl rfl ?_); exact ⟨Grow.rfl' _, rfl⟩
    apply zB7
    ·intro w_ g_; refine og rfl ?_; (first | (refine zD8 rfl rfl ?_ ?_; (constructor <;> omega)) | refine zI1 rfl rfl ?_); exact ⟨Grow.rfl' _, rfl⟩
    apply zB7
    ·intro w_ g_; refine og rfl ?_; refine zA5 rfl ?_; exact ⟨Grow.rfl' _, rfl⟩
    apply zB7
    ·intro w_ g_; refine og rfl ?_; refine zB5 rfl (by exact Grow.heap g_ (by assumption)) (by rfl) ?_; exact ⟨Grow.rfl' _, rfl⟩
    apply zB7
    ·intro w_ g_; refine og rfl ?_; refine zC0 rfl (yO3 _ _) ?_; intro w2_ g2_; exact ⟨g2_, rfl⟩
    apply zB7
    ·intro w_ g_; refine og rfl ?_; (first | (refine zU0 (m := 4294967296) rfl rfl (by decide) (by decide) ?_ ?_; (constructor <;> omega)) | refine zO7 (m := 4294967296) rfl rfl (by decide) (by decide) ?_); exact ⟨Grow.rfl' _, rfl⟩
    apply zB7
    ·intro w_ g_; refine og rfl ?_; (first | (refine zD8 rfl rfl ?_ ?_; (constructor <;> omega)) | refine zI1 rfl rfl ?_); exact ⟨Grow.rfl' _, rfl⟩
    apply zB7
    ·intro w_ g_; refine og rfl ?_; refine zA5 rfl ?_; exact ⟨Grow.rfl' _, rfl⟩
    apply zB7
    ·intro w_ g_; refine og rfl ?_; refine zB5 rfl (by exact Grow.heap g_ (by assumption)) (by rfl) ?_; exact ⟨Grow.rfl' _, rfl⟩
    apply zB7
    ·intro w_ g_; refine og rfl ?_; refine zC0 rfl (yC7 _ _) ?_; intro w2_ g2_; exact ⟨g2_, rfl⟩
    apply zB7
    ·intro w_ g_; refine og rfl ?_; (first | (refine zU0 (m := 34359738368) rfl rfl (by decide) (by decide) ?_ ?_; (constructor <;> omega)) | refine zO7 (m := 34359738368) rfl rfl (by decide) (by decide) ?_); exact ⟨Grow.rfl' _, rfl⟩
    apply zB7
    ·intro w_ g_; refine og rfl ?_; (first | (refine zD8 rfl rfl ?_ ?_; (constructor <;> omega)) | refine zI1 rfl rfl ?_); exact ⟨Grow.rfl' _, rfl⟩
    apply zB7
    ·intro w_ g_; refine og rfl ?_; (first | refine zA0 rfl ?_ | refine zA8 rfl ?_); exact ⟨Grow.rfl' _, rfl⟩
    refine zI5 ?_
    intro w43 g44
    replace hc4 := g44.heap hc4
    replace G := G.tr g44
    clear g44
    refine zA4 ?_
    refine zA6 (zA1 rfl ?_)
    refine zA3 (og rfl ?_)
    (first | refine zA2 rfl ?_ | refine zB6 rfl ?_)
    refine stp (zC0 rfl (by (try rw [hw]); exact zH2 _ _ hx0 hx1) ?_)
    intro w45 g46
    replace hc4 := g46.heap hc4
    replace G := G.tr g46
    clear g46
    refine zA3 (og rfl ?_)
    (first | refine zH6 rfl ?_ | refine zB6 rfl ?_)
    refine stp (zB2 rfl rfl ?_)
    refine stp (zB2 rfl rfl ?_)
    refine stp (zD3 ?_)
    intro b47 w48 hb49 hc50 g51
    refine stn (zB1 rfl rfl hc50 (by rfl) (by rfl) (by rfl) ?_)
    intro w52 hc53 u54
    have g55 := g51.upd u54 hb49
    have hge56 := Nat.le_trans G.size hb49
    have ne57 := Nat.ne_of_lt (Nat.lt_of_lt_of_le (zA9 hc4) hb49)
    replace hc4 := g55.heap hc4
    replace G := G.tr g55
    clear u54 g51 hb49 hc50
    refine zA3 (og rfl ?_)
    (first | refine zA0 rfl ?_ | refine zA8 rfl ?_)
    refine zA4 ?_
    refine zA6 ?_
    refine zA6 (zA1 rfl ?_)
    refine zA3 (og rfl ?_)
    (first | refine zA2 rfl ?_ | refine zB6 rfl ?_)
    refine zA3 (og rfl ?_)
    (first | (refine zO8 rfl rfl ?_ ?_; (first | assumption | omega)) | (refine zM4 rfl rfl ?_ ?_; (first | assumption | omega)) | refine zI9 rfl rfl ?_)
    refine zA3 (og rfl ?_)
    (first | refine zB9 rfl ?_ | refine zB6 rfl ?_)
    refine zA3 (og rfl ?_)
    (first | refine zB4 rfl (by assumption) (by rfl) ?_ | refine zH8 rfl (by assumption) (by rfl) (by rfl) ?_)
    refine zA3 (og rfl ?_)
    (first | refine zB4 rfl (by assumption) (by rfl) ?_ | refine zH8 rfl (by assumption) (by rfl) (by rfl) ?_)
    refine stp (qJ9 rfl rfl (by rfl) ?_)
    refine zA3 (og rfl ?_)
    (first | (refine zG7 rfl ?_ rfl ?_; (first | rfl | assumption)) | (refine zG8 rfl ?_ rfl ?_; (first | rfl | assumption)))
    refine zA4 ?_
    refine zB8 rfl (fun hc => ?_) (fun hc => ?_)
    ·-- true
     first | (replace hc := of_decide_eq_true hc) | (replace hc := of_decide_eq_false hc) | skip
     refine zA6 (zA1 rfl ?_)
     refine zA3 (og rfl ?_)
     (first | refine zA0 rfl ?_ | refine zA8 rfl ?_)
     refine zA3 (og rfl ?_)
     (first | refine zA0 rfl ?_ | refine zA8 rfl ?_)
     refine zA4 ?_
     refine zC4 ?_
     refine ret2 (zD5 rfl) (zD5 rfl) ⟨?_, G⟩
     have hq : ¬ decP (encW p) = p := by
      intro hq
      rw [hq] at hc
      simp at hc
     simp [encR, encE, encOk, hd, hq]
    ·-- false
     first | (replace hc := of_decide_eq_true hc) | (replace hc := of_decide_eq_false hc) | skip
     refine zC3 ?_
     refine zA6 (zA1 rfl ?_)
     refine zA3 (og rfl ?_)
     (first | refine zA2 rfl ?_ | refine zB6 rfl ?_)
     refine zA3 (og rfl ?_)
     (first | refine zA0 rfl ?_ | refine zA8 rfl ?_)
     refine zA3 (og rfl ?_)
     (first | refine zA0 rfl ?_ | refine zA8 rfl ?_)
     refine zA4 ?_
     refine zC4 ?_
     refine ret2 (zD5 rfl) (zD5 rfl) ⟨?_, G⟩
     have hq : decP (encW p) = p := by
      generalize decP (encW p) = q at hc ⊢
      cases q; cases p; simpa [and_assoc] using hc
     simp [encR, encE, encOk, hd, hq] <;> omega
   ·
    refine zJ4 16 [[], [0], [1, 0], [2, 1, 0], [3, 2, 1, 0], [], [0], [6, 5, 4, 1, 0], [7, 6, 5, 2, 1, 0], [8, 7, 6, 5, 4, 3, 2, 1, 0], [], [0], [11, 10, 9, 6, 5, 4, 1, 0], [12, 11, 10, 7, 6, 5, 2, 1, 0], [13, 12, 11, 10, 9, 8, 7, 6, 5, 4, 3, 2, 1, 0], [14, 13, 12, 11, 10, 9, 8, 7, 6, 5, 4, 3, 2, 1, 0]] mixed (by kernel_rfl) (by kernel_rfl) (by kernel_rfl) ?_
    intro w58 g59
    replace hc4 := g59.heap hc4
    replace G := G.tr g59
    clear g59
    apply zB7
    ·intro w_ g_; refine og rfl ?_; refine zA5 rfl ?_; exact ⟨Grow.rfl' _, rfl⟩
    apply zB7
    ·intro w_ g_; refine og rfl ?_; refine zB5 rfl (by exact Grow.heap g_ (by assumption)) (by rfl) ?_; exact ⟨Grow.rfl' _, rfl⟩
    apply zB7
    ·intro w_ g_; refine og rfl ?_; refine zC0 rfl (qU8 _ _) ?_; intro w2_ g2_; exact ⟨g2_, rfl⟩
    apply zB7
    ·intro w_ g_; refine og rfl ?_; (first | (refine zL5 rfl rfl ?_ ?_; (constructor <;> omega)) | refine zR7 rfl rfl ?_); exact ⟨Grow.rfl' _, rfl⟩
    apply zB7
    ·intro w_ g_; refine og rfl ?_; (first | (refine zD8 rfl rfl ?_ ?_; (constructor <;> omega)) | refine zI1 rfl rfl ?_); exact ⟨Grow.rfl' _, rfl⟩
    apply zB7
    ·intro w_ g_; refine og rfl ?_; refine zA5 rfl ?_; exact ⟨Grow.rfl' _, rfl⟩
    apply zB7
    ·intro w_ g_; refine og rfl ?_; refine zB5 rfl (by exact Grow.heap g_ (by assumption)) (by rfl) ?_; exact ⟨Grow.rfl' _, rfl⟩
    apply zB7
    ·intro w_ g_; refine og rfl ?_; refine zC0 rfl (yO3 _ _) ?_; intro w2_ g2_; exact ⟨g2_, rfl⟩
    apply zB7
    ·intro w_ g_; refine og rfl ?_; (first | (refine zU0 (m := 4294967296) rfl rfl (by decide) (by decide) ?_ ?_; (constructor <;> omega)) | refine zO7 (m := 4294967296) rfl rfl (by decide) (by decide) ?_); exact ⟨Grow.rfl' _, rfl⟩
    apply zB7
    ·intro w_ g_; refine og rfl ?_; (first | (refine zD8 rfl rfl ?_ ?_; (constructor <;> omega)) | refine zI1 rfl rfl ?_); exact ⟨Grow.rfl' _, rfl⟩
    apply zB7
    ·intro w_ g_; refine og rfl ?_; refine zA5 rfl ?_; exact ⟨Grow.rfl' _, rfl⟩
    apply zB7
    ·intro w_ g_; refine og rfl ?_; refine zB5 rfl (by exact Grow.heap g_ (by assumption)) (by rfl) ?_; exact ⟨Grow.rfl' _, rfl⟩
    apply zB7
    ·intro w_ g_; refine og rfl ?_; refine zC0 rfl (yC7 _ _) ?_; intro w2_ g2_; exact ⟨g2_, rfl⟩
    apply zB7
    ·intro w_ g_; refine og rfl ?_; (first | (refine zU0 (m := 34359738368) rfl rfl (by decide) (by decide) ?_ ?_; (constructor <;> omega)) | refine zO7 (m := 34359738368) rfl rfl (by decide) (by decide) ?_); exact ⟨Grow.rfl' _, rfl⟩
    apply zB7
    ·intro w_ g_; refine og rfl ?_; (first | (refine zD8 rfl rfl ?_ ?_; (constructor <;> omega)) | refine zI1 rfl rfl ?_); exact ⟨Grow.rfl' _, rfl⟩
    apply zB7
    ·intro w_ g_; refine og rfl ?_; (first | refine zA0 rfl ?_ | refine zA8 rfl ?_); exact ⟨Grow.rfl' _, rfl⟩
    refine zI5 ?_
    intro w60 g61
    replace hc4 := g61.heap hc4
    replace G := G.tr g61
    clear g61
    refine zA4 ?_
    refine zA6 (zA1 rfl ?_)
    refine zA3 (og rfl ?_)
    (first | refine zA2 rfl ?_ | refine zB6 rfl ?_)
    refine stp (zC0 rfl (by (try rw [hw]); exact zH2 _ _ hx0 hx1) ?_)
    intro w62 g63
    replace hc4 := g63.heap hc4
    replace G := G.tr g63
    clear g63
    refine zA3 (og rfl ?_)
    (first | refine zH6 rfl ?_ | refine zB6 rfl ?_)
    refine stp (zB2 rfl rfl ?_)
    refine stp (zB2 rfl rfl ?_)
    refine stp (zD3 ?_)
    intro b64 w65 hb66 hc67 g68
    refine stn (zB1 rfl rfl hc67 (by rfl) (by rfl) (by rfl) ?_)
    intro w69 hc70 u71
    have g72 := g68.upd u71 hb66
    have hge73 := Nat.le_trans G.size hb66
    have ne74 := Nat.ne_of_lt (Nat.lt_of_lt_of_le (zA9 hc4) hb66)
    replace hc4 := g72.heap hc4
    replace G := G.tr g72
    clear u71 g68 hb66 hc67
    refine zA3 (og rfl ?_)
    (first | refine zA0 rfl ?_ | refine zA8 rfl ?_)
    refine zA4 ?_
    refine zA6 ?_
    refine zA6 (zA1 rfl ?_)
    refine zA3 (og rfl ?_)
    (first | refine zA2 rfl ?_ | refine zB6 rfl ?_)
    refine zA3 (og rfl ?_)
    (first | (refine zO8 rfl rfl ?_ ?_; (first | assumption | omega)) | (refine zM4 rfl rfl ?_ ?_; (first | assumption | omega)) | refine zI9 rfl rfl ?_)
    refine zA3 (og rfl ?_)
    (first | refine zB9 rfl ?_ | refine zB6 rfl ?_)
    refine zA3 (zP4 rfl ?_)
    refine zA3 (zP4 rfl ?_)
    refine zA3 (zP4 rfl ?_)
    refine zA3 (og rfl ?_)
    (first | (refine zG7 rfl ?_ rfl ?_; (first | rfl | assumption)) | (refine zG8 rfl ?_ rfl ?_; (first | rfl | assumption)))
    refine zA4 ?_
    refine zP2 rfl ?_
    refine zA6 (zA1 rfl ?_)
    refine zA3 (og rfl ?_)
    (first | refine zA0 rfl ?_ | refine zA8 rfl ?_)
    refine zA3 (og rfl ?_)
    (first | refine zA0 rfl ?_ | refine zA8 rfl ?_)
    refine zA4 ?_
    refine zC4 ?_
    refine ret2 (zD5 rfl) (zD5 rfl) ⟨?_, G⟩
    simp [encR, encE, encOk, hd]
  ·-- false
   first | (replace h2 := of_decide_eq_true h2) | (replace h2 := of_decide_eq_false h2) | skip
   refine zA6 (zA1 rfl ?_)
   refine zA3 (og rfl ?_)
   (first | (refine zG3 rfl rfl ?_ ?_; (first | assumption | omega)) | (refine zH5 rfl rfl ?_ ?_; (first | assumption | omega)) | refine zE9 rfl rfl ?_)
   refine zA3 (og rfl ?_)
   (first | refine zC1 rfl ?_ | refine zA8 rfl ?_)
   refine zA4 ?_
   refine zB8 rfl (fun h3 => ?_) (fun h3 => ?_)
   ·-- true
    first | (replace h3 := of_decide_eq_true h3) | (replace h3 := of_decide_eq_false h3) | skip
    refine zA6 ?_
    refine zJ4 11 [[], [0], [1, 0], [2, 1, 0], [3, 2, 1, 0], [], [0], [6, 5, 4, 1, 0], [7, 6, 5, 2, 1, 0], [8, 7, 6, 5, 4, 3, 2, 1, 0], [9, 8, 7, 6, 5, 4, 3, 2, 1, 0]] mixed (by kernel_rfl) (by kernel_rfl) (by kernel_rfl) ?_
    intro w75 g76
    replace hc4 := g76.heap hc4
    replace G := G.tr g76
    clear g76
    apply zB7
    ·intro w_ g_; refine og rfl ?_; refine zA5 rfl ?_; exact ⟨Grow.rfl' _, rfl⟩
    apply zB7
    ·intro w_ g_; refine og rfl ?_; refine zB5 rfl (by exact Grow.heap g_ (by assumption)) (by rfl) ?_; exact ⟨Grow.rfl' _, rfl⟩
    apply zB7
    ·intro w_ g_; refine og rfl ?_; refine zC0 rfl (yC7 _ _) ?_; intro w2_ g2_; exact ⟨g2_, rfl⟩
    apply zB7
    ·intro w_ g_; refine og rfl ?_; (first | (refine zL5 rfl rfl ?_ ?_; (constructor <;> omega)) | refine zR7 rfl rfl ?_); exact ⟨Grow.rfl' _, rfl⟩
    apply zB7
    ·intro w_ g_; refine og rfl ?_; (first | (refine zD8 rfl rfl ?_ ?_; (constructor <;> omega)) | refine zI1 rfl rfl ?_); exact ⟨Grow.rfl' _, rfl⟩
    apply zB7
    ·intro w_ g_; refine og rfl ?_; refine zA5 rfl ?_; exact ⟨Grow.rfl' _, rfl⟩
    apply zB7
    ·intro w_ g_; refine og rfl ?_; refine zB5 rfl (by exact Grow.heap g_ (by assumption)) (by rfl) ?_; exact ⟨Grow.rfl' _, rfl⟩
    apply zB7
    ·intro w_ g_; refine og rfl ?_; refine zC0 rfl (yO4 _ _) ?_; intro w2_ g2_; exact ⟨g2_, rfl⟩
    apply zB7
    ·intro w_ g_; refine og rfl ?_; (first | (refine zU0 (m := 4294967296) rfl rfl (by decide) (by decide) ?_ ?_; (constructor <;> omega)) | refine zO7 (m := 4294967296) rfl rfl (by decide) (by decide) ?_); exact ⟨Grow.rfl' _, rfl⟩
    apply zB7
    ·intro w_ g_; refine og rfl ?_; (first | (refine zD8 rfl rfl ?_ ?_; (constructor <;> omega)) | refine zI1 rfl rfl ?_); exact ⟨Grow.rfl' _, rfl⟩
    apply zB7
    ·intro w_ g_; refine og rfl ?_; (first | refine zA0 rfl ?_ | refine zA8 rfl ?_); exact ⟨Grow.rfl' _, rfl⟩
    refine zI5 ?_
    intro w77 g78
    replace hc4 := g78.heap hc4
    replace G := G.tr g78
    clear g78
    refine zA4 ?_
    refine zA6 (zA1 rfl ?_)
    refine stp (zA5 rfl ?_)
    refine stp (zB5 rfl (by assumption) (by rfl) ?_)
    refine zA4 ?_
    refine zB8 rfl (fun hd_ => ?_) (fun hd_ => ?_)
    ·-- true
     first | (replace hd_ := of_decide_eq_true hd_) | (replace hd_ := of_decide_eq_false hd_) | skip
     have hw : 2 + 8 * (p.off % 536870912) + p.seg % 4294967296 * 4294967296 + 4 = encW p := by unfold encW; rw [if_neg h1, if_neg h2, if_pos h3, hd_]; simp; omega
     obtain ⟨hx0, hx1⟩ := zN3 p
     by_cases hd : decE (encW p) = 0
     ·
      refine zA1 rfl ?_
      refine zA3 (og rfl ?_)
      (first | refine zA2 rfl ?_ | refine zB6 rfl ?_)
      refine zA3 (og rfl ?_)
      (first | (refine zD8 rfl rfl ?_ ?_; (constructor <;> omega)) | refine zI1 rfl rfl ?_)
      refine zA3 (og rfl ?_)
      (first | refine zA0 rfl ?_ | refine zA8 rfl ?_)
      refine zA4 ?_
      refine zA6 (zA1 rfl ?_)
      refine zA3 (og rfl ?_)
      (first | refine zA2 rfl ?_ | refine zB6 rfl ?_)
      refine stp (zC0 rfl (by (try rw [hw]); exact zH2 _ _ hx0 hx1) ?_)
      intro w79 g80
      replace hc4 := g80.heap hc4
      replace G := G.tr g80
      clear g80
      refine zA3 (og rfl ?_)
      (first | refine zH6 rfl ?_ | refine zB6 rfl ?_)
      refine stp (zB2 rfl rfl ?_)
      refine stp (zB2 rfl rfl ?_)
      refine stp (zD3 ?_)
      intro b81 w82 hb83 hc84 g85
      refine stn (zB1 rfl rfl hc84 (by rfl) (by rfl) (by rfl) ?_)
      intro w86 hc87 u88
      have g89 := g85.upd u88 hb83
      have hge90 := Nat.le_trans G.size hb83
      have ne91 := Nat.ne_of_lt (Nat.lt_of_lt_of_le (zA9 hc4) hb83)
      replace hc4 := g89.heap hc4
      replace G := G.tr g89
      clear u88 g85 hb83 hc84
      refine zA3 (og rfl ?_)
      (first | refine zA0 rfl ?_ | refine zA8 rfl ?_)
      refine zA4 ?_
      refine zA6 ?_
      refine zA6 (zA1 rfl ?_)
      refine zA3 (og rfl ?_)
      (first | refine zA2 rfl ?_ | refine zB6 rfl ?_)
      refine zA3 (og rfl ?_)
      (first | (refine zO8 rfl rfl ?_ ?_; (first | assumption | omega)) | (refine zM4 rfl rfl ?_ ?_; (first | assumption | omega)) | refine zI9 rfl rfl ?_)
      refine zA3 (og rfl ?_)
      (first | refine zB9 rfl ?_ | refine zB6 rfl ?_)
      refine zA3 (og rfl ?_)
      (first | refine zB4 rfl (by assumption) (by rfl) ?_ | refine zH8 rfl (by assumption) (by rfl) (by rfl) ?_)
      refine zA3 (og rfl ?_)
      (first | refine zB4 rfl (by assumption) (by rfl) ?_ | refine zH8 rfl (by assumption) (by rfl) (by rfl) ?_)
      refine stp (qJ9 rfl rfl (by rfl) ?_)
      refine zA3 (og rfl ?_)
      (first | (refine zG7 rfl ?_ rfl ?_; (first | rfl | assumption)) | (refine zG8 rfl ?_ rfl ?_; (first | rfl | assumption)))
      refine zA4 ?_
      refine zB8 rfl (fun hc => ?_) (fun hc => ?_)
      ·-- true
       first | (replace hc := of_decide_eq_true hc) | (replace hc := of_decide_eq_false hc) | skip
       refine zA6 (zA1 rfl ?_)
       refine zA3 (og rfl ?_)
       (first | refine zA0 rfl ?_ | refine zA8 rfl ?_)
       refine zA3 (og rfl ?_)
       (first | refine zA0 rfl ?_ | refine zA8 rfl ?_)
       refine zA4 ?_
       refine zC4 ?_
       refine ret2 (zD5 rfl) (zD5 rfl) ⟨?_, G⟩
       have hq : ¬ decP (encW p) = p := by
        intro hq
        rw [hq] at hc
        simp at hc
       simp [encR, encE, encOk, hd, hq]
      ·-- false
       first | (replace hc := of_decide_eq_true hc) | (replace hc := of_decide_eq_false hc) | skip
       refine zC3 ?_
       refine zA6 (zA1 rfl ?_)
       refine zA3 (og rfl ?_)
       (first | refine zA2 rfl ?_ | refine zB6 rfl ?_)
       refine zA3 (og rfl ?_)
       (first | refine zA0 rfl ?_ | refine zA8 rfl ?_)
       refine zA3 (og rfl ?_)
       (first | refine zA0 rfl ?_ | refine zA8 rfl ?_)
       refine zA4 ?_
       refine zC4 ?_
       refine ret2 (zD5 rfl) (zD5 rfl) ⟨?_, G⟩
       have hq : decP (encW p) = p := by
        generalize decP (encW p) = q at hc ⊢
        cases q; cases p; simpa [and_assoc] using hc
       simp [encR, encE, encOk, hd, hq] <;> omega
     ·
      refine zA1 rfl ?_
      refine zA3 (og rfl ?_)
      (first | refine zA2 rfl ?_ | refine zB6 rfl ?_)
      refine zA3 (og rfl ?_)
      (first | (refine zD8 rfl rfl ?_ ?_; (constructor <;> omega)) | refine zI1 rfl rfl ?_)
      refine zA3 (og rfl ?_)
      (first | refine zA0 rfl ?_ | refine zA8 rfl ?_)
      refine zA4 ?_
      refine zA6 (zA1 rfl ?_)
      refine zA3 (og rfl ?_)
      (first | refine zA2 rfl ?_ | refine zB6 rfl ?_)
      refine stp (zC0 rfl (by (try rw [hw]); exact zH2 _ _ hx0 hx1) ?_)
      intro w92 g93
      replace hc4 := g93.heap hc4
      replace G := G.tr g93
      clear g93
      refine zA3 (og rfl ?_)
      (first | refine zH6 rfl ?_ | refine zB6 rfl ?_)
      refine stp (zB2 rfl rfl ?_)
      refine stp (zB2 rfl rfl ?_)
      refine stp (zD3 ?_)
      intro b94 w95 hb96 hc97 g98
      refine stn (zB1 rfl rfl hc97 (by rfl) (by rfl) (by rfl) ?_)
      intro w99 hc100 u101
      have g102 := g98.upd u101 hb96
      have hge103 := Nat.le_trans G.size hb96
      have ne104 := Nat.ne_of_lt (Nat.lt_of_lt_of_le (zA9 hc4) hb96)
      replace hc4 := g102.heap hc4
      replace G := G.tr g102
      clear u101 g98 hb96 hc97
      refine zA3 (og rfl ?_)
      (first | refine zA0 rfl ?_ | refine zA8 rfl ?_)
      refine zA4 ?_
      refine zA6 ?_
      refine zA6 (zA1 rfl ?_)
      refine zA3 (og rfl ?_)
      (first | refine zA2 rfl ?_ | refine zB6 rfl ?_)
      refine zA3 (og rfl ?_)
      (first | (refine zO8 rfl rfl ?_ ?_; (first | assumption | omega)) | (refine zM4 rfl rfl ?_ ?_; (first | assumption | omega)) | refine zI9 rfl rfl ?_)
      refine zA3 (og rfl ?_)
      (first | refine zB9 rfl ?_ | refine zB6 rfl ?_)
      refine zA3 (zP4 rfl ?_)
      refine zA3 (zP4 rfl ?_)
      refine zA3 (zP4 rfl ?_)
      refine zA3 (og rfl ?_)
      (first | (refine zG7 rfl ?_ rfl ?_; (first | rfl | assumption)) | (refine zG8 rfl ?_ rfl ?_; (first | rfl | assumption)))
      refine zA4 ?_
      refine zP2 rfl ?_
      refine zA6 (zA1 rfl ?_)
      refine zA3 (og rfl ?_)
      (first | refine zA0 rfl ?_ | refine zA8 rfl ?_)
      refine zA3 (og rfl ?_)
      (first | refine zA0 rfl ?_ | refine zA8 rfl ?_)
      refine zA4 ?_
      refine zC4 ?_
      refine ret2 (zD5 rfl) (zD5 rfl) ⟨?_, G⟩
      simp [encR, encE, encOk, hd]
    ·-- false
     first | (replace hd_ := of_decide_eq_true hd_) | (replace hd_ := of_decide_eq_false hd_) | skip
     have hw : 2 + 8 * (p.off % 536870912) + p.seg % 4294967296 * 4294967296 = encW p := by unfold encW; rw [if_neg h1, if_neg h2, if_pos h3, hd_]; simp; omega
     obtain ⟨hx0, hx1⟩ := zN3 p
     by_cases hd : decE (encW p) = 0
     ·
      refine zC3 ?_
      refine zA6 (zA1 rfl ?_)
      refine zA3 (og rfl ?_)
      (first | refine zA2 rfl ?_ | refine zB6 rfl ?_)
      refine stp (zC0 rfl (by (try rw [hw]); exact zH2 _ _ hx0 hx1) ?_)
      intro w105 g106
      replace hc4 := g106.heap hc4
      replace G := G.tr g106
      clear g106
      refine zA3 (og rfl ?_)
      (first | refine zH6 rfl ?_ | refine zB6 rfl ?_)
      refine stp (zB2 rfl rfl ?_)
      refine stp (zB2 rfl rfl ?_)
      refine stp (zD3 ?_)
      intro b107 w108 hb109 hc110 g111
      refine stn (zB1 rfl rfl hc110 (by rfl) (by rfl) (by rfl) ?_)
      intro w112 hc113 u114
      have g115 := g111.upd u114 hb109
      have hge116 := Nat.le_trans G.size hb109
      have ne117 := Nat.ne_of_lt (Nat.lt_of_lt_of_le (zA9 hc4) hb109)
      replace hc4 := g115.heap hc4
      replace G := G.tr g115
      clear u114 g111 hb109 hc110
      refine zA3 (og rfl ?_)
      (first | refine zA0 rfl ?_ | refine zA8 rfl ?_)
      refine zA4 ?_
      refine zA6 ?_
      refine zA6 (zA1 rfl ?_)
      refine zA3 (og rfl ?_)
      (first | refine zA2 rfl ?_ | refine zB6 rfl ?_)
      refine zA3 (og rfl ?_)
      (first | (refine zO8 rfl rfl ?_ ?_; (first | assumption | omega)) | (refine zM4 rfl rfl ?_ ?_; (first | assumption | omega)) | refine zI9 rfl rfl ?_)
      refine zA3 (og rfl ?_)
      (first | refine zB9 rfl ?_ | refine zB6 rfl ?_)
      refine zA3 (og rfl ?_)
      (first | refine zB4 rfl (by assumption) (by rfl) ?_ | refine zH8 rfl (by assumption) (by rfl) (by rfl) ?_)
      refine zA3 (og rfl ?_)
      (first | refine zB4 rfl (by assumption) (by rfl) ?_ | refine zH8 rfl (by assumption) (by rfl) (by rfl) ?_)
      refine stp (qJ9 rfl rfl (by rfl) ?_)
      refine zA3 (og rfl ?_)
      (first | (refine zG7 rfl ?_ rfl ?_; (first | rfl | assumption)) | (refine zG8 rfl ?_ rfl ?_; (first | rfl | assumption)))
      refine zA4 ?_
      refine zB8 rfl (fun hc => ?_) (fun hc => ?_)
      ·-- true
       first | (replace hc := of_decide_eq_true hc) | (replace hc := of_decide_eq_false hc) | skip
       refine zA6 (zA1 rfl ?_)
       refine zA3 (og rfl ?_)
       (first | refine zA0 rfl ?_ | refine zA8 rfl ?_)
       refine zA3 (og rfl ?_)
       (first | refine zA0 rfl ?_ | refine zA8 rfl ?_)
       refine zA4 ?_
       refine zC4 ?_
       refine ret2 (zD5 rfl) (zD5 rfl) ⟨?_, G⟩
       have hq : ¬ decP (encW p) = p := by
        intro hq
        rw [hq] at hc
        simp at hc
       simp [encR, encE, encOk, hd, hq]
      ·-- false
       first | (replace hc := of_decide_eq_true hc) | (replace hc := of_decide_eq_false hc) | skip
       refine zC3 ?_
       refine zA6 (zA1 rfl ?_)
       refine zA3 (og rfl ?_)
       (first | refine zA2 rfl ?_ | refine zB6 rfl ?_)
       refine zA3 (og rfl ?_)
       (first | refine zA0 rfl ?_ | refine zA8 rfl ?_)
       refine zA3 (og rfl ?_)
       (first | refine zA0 rfl ?_ | refine zA8 rfl ?_)
       refine zA4 ?_
       refine zC4 ?_
       refine ret2 (zD5 rfl) (zD5 rfl) ⟨?_, G⟩
       have hq : decP (encW p) = p := by
        generalize decP (encW p) = q at hc ⊢
        cases q; cases p; simpa [and_assoc] using hc
       simp [encR, encE, encOk, hd, hq] <;> omega
     ·
      refine zC3 ?_
      refine zA6 (zA1 rfl ?_)
      refine zA3 (og rfl ?_)
      (first | refine zA2 rfl ?_ | refine zB6 rfl ?_)
      refine stp (zC0 rfl (by (try rw [hw]); exact zH2 _ _ hx0 hx1) ?_)
      intro w118 g119
      replace hc4 := g119.heap hc4
      replace G := G.tr g119
      clear g119
      refine zA3 (og rfl ?_)
      (first | refine zH6 rfl ?_ | refine zB6 rfl ?_)
      refine stp (zB2 rfl rfl ?_)
      refine stp (zB2 rfl rfl ?_)
      refine stp (zD3 ?_)
      intro b120 w121 hb122 hc123 g124
      refine stn (zB1 rfl rfl hc123 (by rfl) (by rfl) (by rfl) ?_)
      intro w125 hc126 u127
      have g128 := g124.upd u127 hb122
      have hge129 := Nat.le_trans G.size hb122
      have ne130 := Nat.ne_of_lt (Nat.lt_of_lt_of_le (zA9 hc4) hb122)
      replace hc4 := g128.heap hc4
      replace G := G.tr g128
      clear u127 g124 hb122 hc123
      refine zA3 (og rfl ?_)
      (first | refine zA0 rfl ?_ | refine zA8 rfl ?_)
      refine zA4 ?_
      refine zA6 ?_
      refine zA6 (zA1 rfl ?_)
      refine zA3 (og rfl ?_)
      (first | refine zA2 rfl ?_ | refine zB6 rfl ?_)
      refine zA3 (og rfl ?_)
      (first | (refine zO8 rfl rfl ?_ ?_; (first | assumption | omega)) | (refine zM4 rfl rfl ?_ ?_; (first | assumption | omega)) | refine zI9 rfl rfl ?_)
      refine zA3 (og rfl ?_)
      (first | refine zB9 rfl ?_ | refine zB6 rfl ?_)
      refine zA3 (zP4 rfl ?_)
      refine zA3 (zP4 rfl ?_)
      refine zA3 (zP4 rfl ?_)
      refine zA3 (og rfl ?_)
      (first | (refine zG7 rfl ?_ rfl ?_; (first | rfl | assumption)) | (refine zG8 rfl ?_ rfl ?_; (first | rfl | assumption)))
      refine zA4 ?_
      refine zP2 rfl ?_
      refine zA6 (zA1 rfl ?_)
      refine zA3 (og rfl ?_)
      (first | refine zA0 rfl ?_ | refine zA8 rfl ?_)
      refine zA3 (og rfl ?_)
      (first | refine zA0 rfl ?_ | refine zA8 rfl ?_)
      refine zA4 ?_
      refine zC4 ?_
      refine ret2 (zD5 rfl) (zD5 rfl) ⟨?_, G⟩
      simp [encR, encE, encOk, hd]
   ·-- false
    first | (replace h3 := of_decide_eq_true h3) | (replace h3 := of_decide_eq_false h3) | skip
    have hw : 0 = encW p := by unfold encW; rw [if_neg h1, if_neg h2, if_neg h3]
    obtain ⟨hx0, hx1⟩ := zN3 p
    by_cases hd : decE (encW p) = 0
    ·
     refine zC3 ?_
     refine zA6 (zA1 rfl ?_)
     refine zA3 (og rfl ?_)
     (first | refine zA2 rfl ?_ | refine zB6 rfl ?_)
     refine stp (zC0 rfl (by (try rw [hw]); exact zH2 _ _ hx0 hx1) ?_)
     intro w131 g132
     replace hc4 := g132.heap hc4
     replace G := G.tr g132
     clear g132
     refine zA3 (og rfl ?_)
     (first | refine zH6 rfl ?_ | refine zB6 rfl ?_)
     refine stp (zB2 rfl rfl ?_)
     refine stp (zB2 rfl rfl ?_)
     refine stp (zD3 ?_)
     intro b133 w134 hb135 hc136 g137
     refine stn (zB1 rfl rfl hc136 (by rfl) (by rfl) (by rfl) ?_)
     intro w138 hc139 u140
     have g141 := g137.upd u140 hb135
     have hge142 := Nat.le_trans G.size hb135
     have ne143 := Nat.ne_of_lt (Nat.lt_of_lt_of_le (zA9 hc4) hb135)
     replace hc4 := g141.heap hc4
     replace G := G.tr g141
     clear u140 g137 hb135 hc136
     refine zA3 (og rfl ?_)
     (first | refine zA0 rfl ?_ | refine zA8 rfl ?_)
     refine zA4 ?_
     refine zA6 ?_
     refine zA6 (zA1 rfl ?_)
     refine zA3 (og rfl ?_)
     (first | refine zA2 rfl ?_ | refine zB6 rfl ?_)
     refine zA3 (og rfl ?_)
     (first | (refine zO8 rfl rfl ?_ ?_; (first | assumption | omega)) | (refine zM4 rfl rfl ?_ ?_; (first | assumption | omega)) | refine zI9 rfl rfl ?_)
     refine zA3 (og rfl ?_)
     (first | refine zB9 rfl ?_ | refine zB6 rfl ?_)
     refine zA3 (og rfl ?_)
     (first | refine zB4 rfl (by assumption) (by rfl) ?_ | refine zH8 rfl (by assumption) (by rfl) (by rfl) ?_)
     refine zA3 (og rfl ?_)
     (first | refine zB4 rfl (by assumption) (by rfl) ?_ | refine zH8 rfl (by assumption) (by rfl) (by rfl) ?_)
     refine stp (qJ9 rfl rfl (by rfl) ?_)
     refine zA3 (og rfl ?_)
     (first | (refine zG7 rfl ?_ rfl ?_; (first | rfl | assumption)) | (refine zG8 rfl ?_ rfl ?_; (first | rfl | assumption)))
     refine zA4 ?_
     refine zB8 rfl (fun hc => ?_) (fun hc => ?_)
     ·-- true
      first | (replace hc := of_decide_eq_true hc) | (replace hc := of_decide_eq_false hc) | skip
      refine zA6 (zA1 rfl ?_)
      refine zA3 (og rfl ?_)
      (first | refine zA0 rfl ?_ | refine zA8 rfl ?_)
      refine zA3 (og rfl ?_)
      (first | refine zA0 rfl ?_ | refine zA8 rfl ?_)
      refine zA4 ?_
      refine zC4 ?_
      refine ret2 (zD5 rfl) (zD5 rfl) ⟨?_, G⟩
      have hq : ¬ decP (encW p) = p := by
       intro hq
       rw [hq] at hc
       simp at hc
      simp [encR, encE, encOk, hd, hq]
     ·-- false
      first | (replace hc := of_decide_eq_true hc) | (replace hc := of_decide_eq_false hc) | skip
      refine zC3 ?_
      refine zA6 (zA1 rfl ?_)
      refine zA3 (og rfl ?_)
      (first | refine zA2 rfl ?_ | refine zB6 rfl ?_)
      refine zA3 (og rfl ?_)
      (first | refine zA0 rfl ?_ | refine zA8 rfl ?_)
      refine zA3 (og rfl ?_)
      (first | refine zA0 rfl ?_ | refine zA8 rfl ?_)
      refine zA4 ?_
      refine zC4 ?_
      refine ret2 (zD5 rfl) (zD5 rfl) ⟨?_, G⟩
      have hq : decP (encW p) = p := by
       generalize decP (encW p) = q at hc ⊢
       cases q; cases p; simpa [and_assoc] using hc
      simp [encR, encE, encOk, hd, hq] <;> omega
    ·
     refine zC3 ?_
     refine zA6 (zA1 rfl ?_)
     refine zA3 (og rfl ?_)
     (first | refine zA2 rfl ?_ | refine zB6 rfl ?_)
     refine stp (zC0 rfl (by (try rw [hw]); exact zH2 _ _ hx0 hx1) ?_)
     intro w144 g145
     replace hc4 := g145.heap hc4
     replace G := G.tr g145
     clear g145
     refine zA3 (og rfl ?_)
     (first | refine zH6 rfl ?_ | refine zB6 rfl ?_)
     refine stp (zB2 rfl rfl ?_)
     refine stp (zB2 rfl rfl ?_)
     refine stp (zD3 ?_)
     intro b146 w147 hb148 hc149 g150
     refine stn (zB1 rfl rfl hc149 (by rfl) (by rfl) (by rfl) ?_)
     intro w151 hc152 u153
     have g154 := g150.upd u153 hb148
     have hge155 := Nat.le_trans G.size hb148
     have ne156 := Nat.ne_of_lt (Nat.lt_of_lt_of_le (zA9 hc4) hb148)
     replace hc4 := g154.heap hc4
     replace G := G.tr g154
     clear u153 g150 hb148 hc149
     refine zA3 (og rfl ?_)
     (first | refine zA0 rfl ?_ | refine zA8 rfl ?_)
     refine zA4 ?_
     refine zA6 ?_
     refine zA6 (zA1 rfl ?_)
     refine zA3 (og rfl ?_)
     (first | refine zA2 rfl ?_ | refine zB6 rfl ?_)
     refine zA3 (og rfl ?_)
     (first | (refine zO8 rfl rfl ?_ ?_; (first | assumption | omega)) | (refine zM4 rfl rfl ?_ ?_; (first | assumption | omega)) | refine zI9 rfl rfl ?_)
     refine zA3 (og rfl ?_)
     (first | refine zB9 rfl ?_ | refine zB6 rfl ?_)
     refine zA3 (zP4 rfl ?_)
     refine zA3 (zP4 rfl ?_)
     refine zA3 (zP4 rfl ?_)
     refine zA3 (og rfl ?_)
     (first | (refine zG7 rfl ?_ rfl ?_; (first | rfl | assumption)) | (refine zG8 rfl ?_ rfl ?_; (first | rfl | assumption)))
     refine zA4 ?_
     refine zP2 rfl ?_
     refine zA6 (zA1 rfl ?_)
     refine zA3 (og rfl ?_)
     (first | refine zA0 rfl ?_ | refine zA8 rfl ?_)
     refine zA3 (og rfl ?_)
     (first | refine zA0 rfl ?_ | refine zA8 rfl ?_)
     refine zA4 ?_
     refine zC4 ?_
     refine ret2 (zD5 rfl) (zD5 rfl) ⟨?_, G⟩
     simp [encR, encE, encOk, hd]

set_option maxRecDepth 100000 in
theorem zZ5 (w : World) (p : Pt) : Gives Tryz.prog 106 #[.agg #[.int .i64 (p.kind), .int .i64 (p.off), .int .i64 (p.data), .int .i64 (p.ptrs), .int .i64 (p.size), .int .i64 (p.count), .int .i64 (p.seg), .bool p.dbl]] w (.tuple #[.int .i64 (wordsN p), .int .i64 (wordsE p)]) := by
 have G := Grow.rfl' w
 refine zC7 Tryz.func106 Tryz.ntmps106 Tryz.results106 rfl rfl ?_
 refine zA6 (zA1 rfl ?_)
 refine zA3 (og rfl ?_)
 (first | refine zD0 rfl ?_ | refine zD2 rfl ?_ | refine zC5 rfl ?_ | refine zH0 rfl rfl ?_)
 intro b1 w2 hb3 hc4 g5
 have hge6 := Nat.le_trans G.size hb3
 replace G := G.tr g5
 clear g5 hb3
 refine zA3 (og rfl ?_)
 (first | refine zA0 rfl ?_ | refine zA8 rfl ?_)
 refine zA3 (og rfl ?_)
 (first | refine zA0 rfl ?_ | refine zA8 rfl ?_)
 refine zA4 ?_
 refine zA6 ?_
 refine zA6 (zA1 rfl ?_)
 refine stp (zA5 rfl ?_)
 refine stp (zB5 rfl (by assumption) (by rfl) ?_)
 refine zA4 ?_
 refine zC6 ?_
 refine zA6 (zA1 rfl ?_)
 refine zA3 (og rfl ?_)
 (first | (refine zG3 rfl rfl ?_ ?_; (first | assumption | omega)) | (refine zH5 rfl rfl ?_ ?_; (first | assumption | omega)) | refine zE9 rfl rfl ?_)
 refine zA3 (og rfl ?_)
 (first | refine zC1 rfl ?_ | refine zA8 rfl ?_)
 refine zA4 ?_
 refine zB8 rfl (fun h0 => ?_) (fun h0 => ?_)
 ·-- true
  first | (replace h0 := of_decide_eq_true h0) | (replace h0 := of_decide_eq_false h0) | skip
  refine zA6 (zA1 rfl ?_)
  refine zA3 (og rfl ?_)
  (first | refine zA0 rfl ?_ | refine zA8 rfl ?_)
  refine zA3 (og rfl ?_)
  (first | refine zA0 rfl ?_ | refine zA8 rfl ?_)
  refine zA4 ?_
  refine zC4 ?_
  refine ret2 (zD5 rfl) (zD5 rfl) ⟨?_, G⟩
  simp [wordsN, wordsE, zV7, h0]
 ·-- false
  first | (replace h0 := of_decide_eq_true h0) | (replace h0 := of_decide_eq_false h0) | skip
  refine zA6 (zA1 rfl ?_)
  refine zA3 (og rfl ?_)
  (first | (refine zG3 rfl rfl ?_ ?_; (first | assumption | omega)) | (refine zH5 rfl rfl ?_ ?_; (first | assumption | omega)) | refine zE9 rfl rfl ?_)
  refine zA3 (og rfl ?_)
  (first | refine zC1 rfl ?_ | refine zA8 rfl ?_)
  refine zA4 ?_
  refine zB8 rfl (fun h1 => ?_) (fun h1 => ?_)
  ·-- true
   first | (replace h1 := of_decide_eq_true h1) | (replace h1 := of_decide_eq_false h1) | skip
   refine zA6 (zA1 rfl ?_)
   refine stp (zA5 rfl ?_)
   refine stp (zB5 rfl (by assumption) (by rfl) ?_)
   refine stp (zA5 rfl ?_)
   refine stp (zB5 rfl (by assumption) (by rfl) ?_)
   refine zA3 (og rfl ?_)
   (first | (refine zD8 rfl rfl ?_ ?_; (constructor <;> omega)) | refine zI1 rfl rfl ?_)
   refine zA3 (og rfl ?_)
   (first | refine zA0 rfl ?_ | refine zA8 rfl ?_)
   refine zA3 (og rfl ?_)
   (first | refine zA0 rfl ?_ | refine zA8 rfl ?_)
   refine zA4 ?_
   refine zC4 ?_
   refine ret2 (zD5 rfl) (zD5 rfl) ⟨?_, G⟩
   simp [wordsN, wordsE, zV7, h0, h1]
  ·-- false
   first | (replace h1 := of_decide_eq_true h1) | (replace h1 := of_decide_eq_false h1) | skip
   refine zA6 (zA1 rfl ?_)
   refine zA3 (og rfl ?_)
   (first | (refine zG3 rfl rfl ?_ ?_; (first | assumption | omega)) | (refine zH5 rfl rfl ?_ ?_; (first | assumption | omega)) | refine zE9 rfl rfl ?_)
   refine zA3 (og rfl ?_)
   (first | refine zC1 rfl ?_ | refine zA8 rfl ?_)
   refine zA4 ?_
   refine zB8 rfl (fun h2 => ?_) (fun h2 => ?_)
   ·-- true
    first | (replace h2 := of_decide_eq_true h2) | (replace h2 := of_decide_eq_false h2) | skip
    refine zA6 ?_
    refine zA6 (zA1 rfl ?_)
    refine stp (zA5 rfl ?_)
    refine stp (zB5 rfl (by assumption) (by rfl) ?_)
    refine zA3 (og rfl ?_)
    (first | (refine zG3 rfl rfl ?_ ?_; (first | assumption | omega)) | (refine zH5 rfl rfl ?_ ?_; (first | assumption | omega)) | refine zE9 rfl rfl ?_)
    refine zA4 ?_
    refine zB8 rfl (fun s2 => ?_) (fun s2 => ?_)
    ·-- true
     first | (replace s2 := of_decide_eq_true s2) | (replace s2 := of_decide_eq_false s2) | skip
     refine zA6 (zA1 rfl ?_)
     refine stp (zA5 rfl ?_)
     refine stp (zB5 rfl (by assumption) (by rfl) ?_)
     refine zA3 (og rfl ?_)
     (first | (refine zD8 rfl rfl ?_ ?_; (constructor <;> omega)) | refine zI1 rfl rfl ?_)
     refine zA3 (og rfl ?_)
     (first | (refine zK3 rfl rfl ?_ ?_ ?_ ?_; omega; omega; (constructor <;> omega)) | (refine yA4 rfl rfl ?_ ?_; omega))
     refine zA3 (og rfl ?_)
     (first | refine zA0 rfl ?_ | refine zA8 rfl ?_)
     refine zA3 (og rfl ?_)
     (first | refine zA0 rfl ?_ | refine zA8 rfl ?_)
     refine zA4 ?_
     refine zC4 ?_
     refine ret2 (zD5 rfl) (zD5 rfl) ⟨?_, G⟩
     simp [wordsN, wordsE, zV7, h0, h1, h2, s2]
    ·-- false
     first | (replace s2 := of_decide_eq_true s2) | (replace s2 := of_decide_eq_false s2) | skip
     by_cases s5 : p.size = 5
     ·
      refine zC3 ?_
      refine zA6 (zA1 rfl ?_)
      refine stp (zA5 rfl ?_)
      refine stp (zB5 rfl (by assumption) (by rfl) ?_)
      refine zA3 (og rfl ?_)
      (first | (refine zG3 rfl rfl ?_ ?_; (first | assumption | omega)) | (refine zH5 rfl rfl ?_ ?_; (first | assumption | omega)) | refine zE9 rfl rfl ?_)
      refine zA3 (og rfl ?_)
      (first | refine zB9 rfl ?_ | refine zB6 rfl ?_)
      refine zA3 (zP4 rfl ?_)
      refine zA3 (zP4 rfl ?_)
      refine zA3 (zP4 rfl ?_)
      refine zA3 (og rfl ?_)
      (first | (refine zG7 rfl ?_ rfl ?_; (first | rfl | assumption)) | (refine zG8 rfl ?_ rfl ?_; (first | rfl | assumption)))
      refine zA4 ?_
      refine zP2 rfl ?_
      refine zA6 (zA1 rfl ?_)
      refine stp (zA5 rfl ?_)
      refine stp (zB5 rfl (by assumption) (by rfl) ?_)
      refine zA3 (og rfl ?_)
      (first | refine zA0 rfl ?_ | refine zA8 rfl ?_)
      refine zA3 (og rfl ?_)
      (first | refine zA0 rfl ?_ | refine zA8 rfl ?_)
      refine zA4 ?_
      refine zC4 ?_
      refine ret2 (zD5 rfl) (zD5 rfl) ⟨?_, G⟩
      simp [wordsN, wordsE, zV7, h0, h1, h2, s2, s5]
     ·
      by_cases s6 : p.size = 6
      ·
       refine zC3 ?_
       refine zA6 (zA1 rfl ?_)
       refine stp (zA5 rfl ?_)
       refine stp (zB5 rfl (by assumption) (by rfl) ?_)
       refine zA3 (og rfl ?_)
       (first | (refine zG3 rfl rfl ?_ ?_; (first | assumption | omega)) | (refine zH5 rfl rfl ?_ ?_; (first | assumption | omega)) | refine zE9 rfl rfl ?_)
       refine zA3 (og rfl ?_)
       (first | refine zB9 rfl ?_ | refine zB6 rfl ?_)
       refine stp (zA5 rfl ?_)
       refine stp (zB5 rfl (by assumption) (by rfl) ?_)
       refine zA3 (og rfl ?_)
       (first | (refine zG3 rfl rfl ?_ ?_; (first | assumption | omega)) | (refine zH5 rfl rfl ?_ ?_; (first | assumption | omega)) | refine zE9 rfl rfl ?_)
       refine zA3 (og rfl ?_)
       (first | (refine zG7 rfl ?_ rfl ?_; (first | rfl | assumption)) | (refine zG8 rfl ?_ rfl ?_; (first | rfl | assumption)))
       refine zA4 ?_
       refine zP2 rfl ?_
       refine zA6 (zA1 rfl ?_)
       refine stp (zA5 rfl ?_)
       refine stp (zB5 rfl (by assumption) (by rfl) ?_)
       refine zA3 (og rfl ?_)
       (first | refine zA0 rfl ?_ | refine zA8 rfl ?_)
       refine zA3 (og rfl ?_)
       (first | refine zA0 rfl ?_ | refine zA8 rfl ?_)
       refine zA4 ?_
       refine zC4 ?_
       refine ret2 (zD5 rfl) (zD5 rfl) ⟨?_, G⟩
       simp [wordsN, wordsE, zV7, h0, h1, h2, s2, s5, s6]
      ·
       refine zC3 ?_
       refine zA6 (zA1 rfl ?_)
       refine stp (zA5 rfl ?_)
       refine stp (zB5 rfl (by assumption) (by rfl) ?_)
       refine zA3 (og rfl ?_)
       (first | (refine zG3 rfl rfl ?_ ?_; (first | assumption | omega)) | (refine zH5 rfl rfl ?_ ?_; (first | assumption | omega)) | refine zE9 rfl rfl ?_)
       refine zA3 (og rfl ?_)
       (first | refine zB9 rfl ?_ | refine zB6 rfl ?_)
       refine stp (zA5 rfl ?_)
       refine stp (zB5 rfl (by assumption) (by rfl) ?_)
       refine zA3 (og rfl ?_)
       (first | (refine zG3 rfl rfl ?_ ?_; (first | assumption | omega)) | (refine zH5 rfl rfl ?_ ?_; (first | assumption | omega)) | refine zE9 rfl rfl ?_)
       refine zA3 (og rfl ?_)
       (first | (refine zG7 rfl ?_ rfl ?_; (first | rfl | assumption)) | (refine zG8 rfl ?_ rfl ?_; (first | rfl | assumption)))
       refine zA4 ?_
       refine zI8 rfl ?_
       refine zC3 ?_
       refine zA6 (zA1 rfl ?_)
       refine zA3 (og rfl ?_)
       (first | refine zA0 rfl ?_ | refine zA8 rfl ?_)
       refine zA3 (og rfl ?_)
       (first | refine zA0 rfl ?_ | refine zA8 rfl ?_)
       refine zA4 ?_
       refine zC4 ?_
       refine ret2 (zD5 rfl) (zD5 rfl) ⟨?_, G⟩
       simp [wordsN, wordsE, zV7, h0, h1, h2, s2, s5, s6]
   ·-- false
    first | (replace h2 := of_decide_eq_true h2) | (replace h2 := of_decide_eq_false h2) | skip
    refine zA6 (zA1 rfl ?_)
    refine zA3 (og rfl ?_)
    (first | (refine zG3 rfl rfl ?_ ?_; (first | assumption | omega)) | (refine zH5 rfl rfl ?_ ?_; (first | assumption | omega)) | refine zE9 rfl rfl ?_)
    refine zA3 (og rfl ?_)
    (first | refine zC1 rfl ?_ | refine zA8 rfl ?_)
    refine zA4 ?_
    refine zB8 rfl (fun h3 => ?_) (fun h3 => ?_)
    ·-- true
     first | (replace h3 := of_decide_eq_true h3) | (replace h3 := of_decide_eq_false h3) | skip
     refine zA6 ?_
     refine zA6 (zA1 rfl ?_)
     refine stp (zA5 rfl ?_)
     refine stp (zB5 rfl (by assumption) (by rfl) ?_)
     refine zA4 ?_
     refine zB8 rfl (fun hd_ => ?_) (fun hd_ => ?_)
     ·-- true
      first | (replace hd_ := of_decide_eq_true hd_) | (replace hd_ := of_decide_eq_false hd_) | skip
      refine zA6 (zA1 rfl ?_)
      refine zA3 (og rfl ?_)
      (first | refine zA0 rfl ?_ | refine zA8 rfl ?_)
      refine zA3 (og rfl ?_)
      (first | refine zA0 rfl ?_ | refine zA8 rfl ?_)
      refine zA4 ?_
      refine zC4 ?_
      refine ret2 (zD5 rfl) (zD5 rfl) ⟨?_, G⟩
      simp [wordsN, wordsE, zV7, h0, h1, h2, h3, hd_]
     ·-- false
      first | (replace hd_ := of_decide_eq_true hd_) | (replace hd_ := of_decide_eq_false hd_) | skip
      refine zC3 ?_
      refine zA6 (zA1 rfl ?_)
      refine zA3 (og rfl ?_)
      (first | refine zA0 rfl ?_ | refine zA8 rfl ?_)
      refine zA3 (og rfl ?_)
      (first | refine zA0 rfl ?_ | refine zA8 rfl ?_)
      refine zA4 ?_
      refine zC4 ?_
      refine ret2 (zD5 rfl) (zD5 rfl) ⟨?_, G⟩
      simp [wordsN, wordsE, zV7, h0, h1, h2, h3, hd_]
    ·-- false
     first | (replace h3 := of_decide_eq_true h3) | (replace h3 := of_decide_eq_false h3) | skip
     refine zC3 ?_
     refine zA6 (zA1 rfl ?_)
     refine zA3 (og rfl ?_)
     (first | refine zA0 rfl ?_ | refine zA8 rfl ?_)
     refine zA3 (og rfl ?_)
     (first | refine zA0 rfl ?_ | refine zA8 rfl ?_)
     refine zA4 ?_
     refine zC4 ?_
     refine ret2 (zD5 rfl) (zD5 rfl) ⟨?_, G⟩
     simp [wordsN, wordsE, zV7, h0, h1, h2, h3]
end Go.Proofs.YtifhcfhdajkhlaaGreat.K

namespace Go.Proofs.YtifhcfhdajkhlaaGreat.K
open Go Go.RowKit Go.Proofs
attribute [local irreducible] Run1 OpG WL W AO Gives
set_option maxRecDepth 100000 in
theorem qL4 (w : World) {ad : Option Addr} {n c : Nat} {segs : List Value} {A : List (List Int)} (R : RowAt w 1 ad n segs) (hA : A.length = n) (hs : ∀ (i : Nat) (s : List Int), A[i]? = some s → ∃ v, segs[i]? = some v ∧ Row w 1 v s.length (wordsV s)) (hn : n ≤ 1000) (hm : ∀ s ∈ A, s.length ≤ 100000) : Gives Tryz.prog 118 #[.slice ad n c] w (.int .i64 (totalP A)) := by
 have G := Grow.rfl' w
 refine zC7 Tryz.func118 Tryz.ntmps118 Tryz.results118 rfl rfl ?_
 refine zA6 (zA1 rfl ?_)
 refine zA3 (og rfl ?_)
 (first | refine zA0 rfl ?_ | refine zA8 rfl ?_)
 refine zA4 ?_
 refine zA6 (zA1 rfl ?_)
 refine zA3 (og rfl ?_)
 (first | refine zA0 rfl ?_ | refine zA8 rfl ?_)
 refine zA4 ?_
 refine zA6 ?_
 refine zA6 (zA1 rfl ?_)
 refine zA3 (og rfl ?_)
 (first | refine zA0 rfl ?_ | refine zA8 rfl ?_)
 refine zA4 ?_
 refine zC6 ?_
 refine zG6 (fun m_ e_ w_ => ∃ (k : Nat), m_ = n - k ∧ Fr [(0, .slice ad n c), (3, .int .i64 (totalP (A.take k))), (4, .int .i64 (k : Int))] e_ ∧ (k ≤ n) ∧ Grow w w_) _ ⟨0, rfl, zE6 ⟨rfl, rfl, rfl, trivial⟩, by omega, G⟩ ?_
 clear G
 rintro m_ e_ w1 ⟨k, rfl, ⟨e2, rfl⟩, hk, G⟩
 refine zA6 ?_
 refine zA6 (zA1 rfl ?_)
 refine zA3 (og rfl ?_)
 (first | refine zA2 rfl ?_ | refine zB6 rfl ?_)
 refine zA3 (og rfl ?_)
 (first | refine zA7 rfl ?_ | refine zB6 rfl ?_)
 refine stp (zE8 rfl rfl rfl ?_)
 refine zA3 (og rfl ?_)
 (first | (refine zR8 rfl rfl ?_ ?_; (first | assumption | omega)) | (refine zM5 rfl rfl ?_ ?_; (first | assumption | omega)) | refine zF9 rfl rfl ?_)
 refine zA4 ?_
 refine zB8 rfl (fun hlt => ?_) (fun hlt => ?_)
 ·-- true
  first | (replace hlt := of_decide_eq_true hlt) | (replace hlt := of_decide_eq_false hlt) | skip
  have hi : k < A.length := by omega
  obtain ⟨v, hv, ad2, c2, rfl, hc1, hc2, R2⟩ := hs k A[k] (List.getElem?_eq_getElem hi)
  obtain ⟨b_, o_, cs_, T_, fr_, rfl, hb_, hx_⟩ := (R.grow G).at_ (by omega)
  have ht := qC0 hi
  have hb1 := zZ2 (A := A.take k) (fun s h => hm s (List.mem_of_mem_take h))
  have hlk : (A.take k).length ≤ 1000 := by rw [List.length_take]; omega
  have hmk := hm A[k] (List.getElem_mem hi)
  refine zC3 ?_
  refine zA6 ?_
  refine zC6 ?_
  refine zA1 rfl ?_
  refine zA3 (og rfl ?_)
  (first | refine zA2 rfl ?_ | refine zB6 rfl ?_)
  refine zA3 (og rfl ?_)
  (first | refine zA7 rfl ?_ | refine zB6 rfl ?_)
  refine zA3 (og rfl ?_)
  (first | refine zA2 rfl ?_ | refine zB6 rfl ?_)
  refine zA3 (og rfl ?_)
  (refine zH9 rfl rfl ?_ ?_ ?_; omega; omega)
  refine stp (zB5 (v := .slice ad2 A[k].length c2) rfl hb_ (by rw [Int.toNat_natCast, Nat.mul_one]; exact zO2 hx_ hv) ?_)
  refine stp (zE8 rfl rfl rfl ?_)
  refine zA3 (og rfl ?_)
  (first | (refine zD8 rfl rfl ?_ ?_; (constructor <;> omega)) | refine zI1 rfl rfl ?_)
  refine zA3 (og rfl ?_)
  (first | refine zA0 rfl ?_ | refine zA8 rfl ?_)
  refine zA4 ?_
  refine zA1 rfl ?_
  refine zA3 (og rfl ?_)
  (first | refine zA2 rfl ?_ | refine zB6 rfl ?_)
  refine zA3 (og rfl ?_)
  (first | (refine zD8 rfl rfl ?_ ?_; (constructor <;> omega)) | refine zI1 rfl rfl ?_)
  refine zA3 (og rfl ?_)
  (first | refine zA0 rfl ?_ | refine zA8 rfl ?_)
  refine zA4 ?_
  refine ⟨_, ?_, k + 1, rfl, zE6 ⟨rfl, congrArg (Value.int .i64) ht.symm, rfl, trivial⟩, by omega, G⟩
  omega
 ·-- false
  first | (replace hlt := of_decide_eq_true hlt) | (replace hlt := of_decide_eq_false hlt) | skip
  have hk2 : k = A.length := by omega
  subst hk2
  refine zF6 ?_
  refine zA6 (zA1 rfl ?_)
  refine zA3 (og rfl ?_)
  (first | refine zA2 rfl ?_ | refine zB6 rfl ?_)
  refine zA3 (og rfl ?_)
  (first | refine zA0 rfl ?_ | refine zA8 rfl ?_)
  refine zA4 ?_
  refine zC4 ?_
  refine ret1 (zD5 rfl) ⟨?_, G⟩
  rw [List.take_length]

set_option maxRecDepth 100000 in
theorem qF4 (w : World) {ad : Option Addr} {n c : Nat} {xs : List Int} (hn : n = xs.length) (R : RowAt w 1 ad n (xs.map (.int .u8))) (hx : ∀ x ∈ xs, inR .u8 x) (h8 : n ≤ 8) : Gives Tryz.prog 114 #[.slice ad n c] w (.int .u64 (getP xs)) := by
 have G := Grow.rfl' w
 refine zC7 Tryz.func114 Tryz.ntmps114 Tryz.results114 rfl rfl ?_
 refine zA6 (zA1 rfl ?_)
 refine zA3 (og rfl ?_)
 (first | refine zA0 rfl ?_ | refine zA8 rfl ?_)
 refine zA4 ?_
 refine zA6 (zA1 rfl ?_)
 refine zA3 (og rfl ?_)
 (first | refine zA0 rfl ?_ | refine zA8 rfl ?_)
 refine zA4 ?_
 refine zA6 ?_
 refine zA6 (zA1 rfl ?_)
 refine zA3 (og rfl ?_)
 (first | refine zA7 rfl ?_ | refine zB6 rfl ?_)
 refine stp (zE8 rfl rfl rfl ?_)
 refine zA3 (og rfl ?_)
 (first | (refine qQ0 rfl rfl rfl ?_ ?_; omega) | (refine qQ1 rfl rfl rfl ?_ ?_; omega) | refine zT7 rfl rfl rfl ?_)
 refine zA3 (og rfl ?_)
 (first | (refine zM0 rfl rfl ?_ ?_; (constructor <;> omega)) | refine zT9 rfl rfl ?_)
 refine zA3 (og rfl ?_)
 (first | refine zA0 rfl ?_ | refine zA8 rfl ?_)
 refine zA4 ?_
 refine zC6 ?_
 refine zG6 (fun m_ e_ w_ => ∃ (k : Nat), m_ = n - k ∧ Fr [(0, .slice ad n c), (3, .int .u64 (getP (xs.drop (n - k)))), (4, .int .i64 ((n : Int) - 1 - k))] e_ ∧ (k ≤ n) ∧ Grow w w_) _ ⟨0, rfl, zE6 ⟨rfl, congrArg (Value.int .u64) (by rw [Nat.sub_zero, hn, List.drop_length]; rfl), congrArg (Value.int .i64) (by omega), trivial⟩, by omega, G⟩ ?_
 clear G
 rintro m_ e_ w1 ⟨k, rfl, ⟨e2, rfl⟩, hk2, G⟩
 refine zA6 ?_
 refine zA6 (zA1 rfl ?_)
 refine zA3 (og rfl ?_)
 (first | refine zA2 rfl ?_ | refine zB6 rfl ?_)
 refine zA3 (og rfl ?_)
 (first | (refine qH0 rfl rfl ?_ ?_; (first | assumption | omega)) | (refine qH1 rfl rfl ?_ ?_; (first | assumption | omega)) | refine zL7 rfl rfl ?_)
 refine zA4 ?_
 refine zB8 rfl (fun hge => ?_) (fun hge => ?_)
 ·-- true
  first | (replace hge := of_decide_eq_true hge) | (replace hge := of_decide_eq_false hge) | skip
  have hk3 : k < n := by omega
  obtain ⟨b_, o_, cs_, T_, fr_, rfl, hb_, hx_⟩ := (R.grow G).at_ (by omega)
  have hyr := zP8 (xs.drop (n - k)) (fun x hq_ => hx x (List.mem_of_mem_drop hq_))
  have hpow := qQ3 (show (xs.drop (n - k)).length ≤ 7 from by rw [List.length_drop]; omega)
  have hxi := hx (xs[n - 1 - k]'(by omega)) (List.getElem_mem _)
  simp only [inR] at hxi
  refine zC3 ?_
  refine zA6 ?_
  refine zC6 ?_
  refine zA1 rfl ?_
  refine zA3 (og rfl ?_)
  (first | refine zA2 rfl ?_ | refine zB6 rfl ?_)
  refine zA3 (og rfl ?_)
  (first | (refine zL5 rfl rfl ?_ ?_; (constructor <;> omega)) | refine zR7 rfl rfl ?_)
  refine zA3 (og rfl ?_)
  (first | refine zA7 rfl ?_ | refine zB6 rfl ?_)
  refine zA3 (og rfl ?_)
  (first | refine zA2 rfl ?_ | refine zB6 rfl ?_)
  refine zA3 (og rfl ?_)
  (refine zH9 rfl rfl ?_ ?_ ?_; omega; omega)
  refine stp (zB5 (v := .int .u8 (xs[n - 1 - k]'(by omega))) rfl hb_ (by rw [show o_ + (((n : Int) - 1 - k).toNat) * 1 = o_ + (n - 1 - k) from by omega]; exact zO2 hx_ (by rw [List.getElem?_map, List.getElem?_eq_getElem (by omega)]; rfl)) ?_)
  refine zA3 (og rfl ?_)
  (first | (refine zF8 rfl ?_ ?_; (constructor <;> omega)) | refine zJ3 rfl ?_)
  refine zA3 (og rfl ?_)
  (first | (refine zD8 rfl rfl ?_ ?_; (constructor <;> omega)) | refine zI1 rfl rfl ?_)
  refine zA3 (og rfl ?_)
  (first | refine zA0 rfl ?_ | refine zA8 rfl ?_)
  refine zA4 ?_
  refine zA1 rfl ?_
  refine zA3 (og rfl ?_)
  (first | refine zA2 rfl ?_ | refine zB6 rfl ?_)
  refine zA3 (og rfl ?_)
  (first | (refine zM0 rfl rfl ?_ ?_; (constructor <;> omega)) | refine zT9 rfl rfl ?_)
  refine zA3 (og rfl ?_)
  (first | refine zA0 rfl ?_ | refine zA8 rfl ?_)
  refine zA4 ?_
  refine ⟨_, ?_, k + 1, rfl, zE6 ⟨rfl, congrArg (Value.int .u64) (by rw [qK4 hn hk3]; omega), congrArg (Value.int .i64) (by omega), trivial⟩, by omega, G⟩
  omega
 ·-- false
  first | (replace hge := of_decide_eq_true hge) | (replace hge := of_decide_eq_false hge) | skip
  have hk3 : k = n := by omega
  subst hk3
  refine zF6 ?_
  refine zA6 (zA1 rfl ?_)
  refine zA3 (og rfl ?_)
  (first | refine zA2 rfl ?_ | refine zB6 rfl ?_)
  refine zA3 (og rfl ?_)
  (first | refine zA0 rfl ?_ | refine zA8 rfl ?_)
  refine zA4 ?_
  refine zC4 ?_
  refine ret1 (zD5 rfl) ⟨?_, G⟩
  rw [Nat.sub_self]; rfl

set_option maxRecDepth 100000 in
theorem qE1 (w : World) {c : List Value} {t : Nd} (T : NodeR w c t) (hw4 : t.words.length ≤ 4096) (hb4 : t.bytes.length ≤ 4096) (hk4 : t.kids.length ≤ 4096) : Calls Tryz.prog 97 #[.agg c.toArray] w (Ret fun v w' => w'.ownsRow w.heap.size 33 1 v t.content.length (t.content.map (.int .u64)) ∧ Grow w w') := by
 obtain @⟨kind, size, words, bytes, kids, ws, bs, ks, kc, hk, hs, hW, hwr, hB, hbr, hK, hKs⟩ := T
 obtain ⟨aw, cw, rfl, hcw, hcw2, RW⟩ := hW
 obtain ⟨ab, cb, rfl, hcb, hcb2, RB⟩ := hB
 obtain ⟨ak, ck, rfl, hck, hck2, RK⟩ := hK
 have lw := RW.lim
 have lb := RB.lim
 have lk := RK.lim
 simp only [inR] at hk hs
 simp only [Nd.words, Nd.bytes, Nd.kids] at hw4 hb4 hk4
 have G := Grow.rfl' w
 refine zE3 Tryz.func97 Tryz.ntmps97 Tryz.results97 rfl rfl ?_
 refine zA6 (zA1 rfl ?_)
 refine zA3 (og rfl ?_)
 (first | refine zD0 rfl ?_ | refine zD2 rfl ?_ | refine zC5 rfl ?_ | refine zH0 rfl rfl ?_)
 intro b1 w2 hb3 hc4 g5
 have hge6 := Nat.le_trans G.size hb3
 replace G := G.tr g5
 clear g5 hb3
 refine zA3 (og rfl ?_)
 (first | refine zB0 rfl ?_ | refine zA8 rfl ?_)
 refine zA4 ?_
 refine zA6 (zA1 rfl ?_)
 refine zA3 (og rfl ?_)
 (first | refine zB0 rfl ?_ | refine zA8 rfl ?_)
 refine zA4 ?_
 refine zA6 (zA1 rfl ?_)
 refine zA3 (og rfl ?_)
 (first | refine zA7 rfl ?_ | refine zB6 rfl ?_)
 refine stp (zA5 rfl ?_)
 refine stp (zB5 rfl (by assumption) (by rfl) ?_)
 refine zA3 (og rfl ?_)
 have own00 := World.ownsRow_nil w2 w.heap.size 33 1
 refine zG4 rfl rfl rfl rfl own00 ⟨_, cw, rfl, hcw, hcw2, RW.grow G⟩ (fun q_ hq_ => by obtain ⟨z, _, rfl⟩ := List.mem_map.1 hq_; rfl) (by simp only [maxLen]; omega) (by omega) G.size ?_
 intro v5 w5 own5 gr6
 replace G := G.grown gr6 (zI2 own00)
 replace hc4 := zI3 gr6 hc4 (zE7 own00 hc4 (by decide))
 refine zA3 (og rfl ?_)
 (first | refine zB0 rfl ?_ | refine zA8 rfl ?_)
 refine zA4 ?_
 refine zA6 ?_
 refine zA6 (zA1 rfl ?_)
 refine zA3 (og rfl ?_)
 (first | refine zA0 rfl ?_ | refine zA8 rfl ?_)
 refine zA4 ?_
 refine zC6 ?_
 refine zG6 (fun m_ e_ w_ => ∃ (k : Nat) (v : Value), m_ = bytes.length + 8 - 8 * k ∧ Fr [(1, .pointer (some ⟨b1, 0, none⟩)), (3, v), (4, .int .i64 ((8 * k : Nat) : Int))] e_ ∧ (8 * k < bytes.length + 8) ∧ (w_.heap[b1]? = some (.cells #[.int .i64 kind, .int .i64 size, .slice aw words.length cw, .slice ab bytes.length cb, .slice ak kids.length ck] 71 (0, 0))) ∧ (w_.ownsRow w.heap.size 33 1 v (words.length + k) ((words ++ (List.range k).map (chunkP bytes)).map (.int .u64))) ∧ Grow w w_) _ ⟨0, v5, rfl, zE6 ⟨rfl, rfl, rfl, trivial⟩, by omega, hc4, by simpa using own5, G⟩ ?_
 clear hc4
 clear G
 rintro m_ e_ w7 ⟨k, v, rfl, ⟨e8, rfl⟩, hk2, hc_, own, G⟩
 refine zA6 ?_
 refine zA6 (zA1 rfl ?_)
 refine zA3 (og rfl ?_)
 (first | refine zA2 rfl ?_ | refine zB6 rfl ?_)
 refine stp (zA5 rfl ?_)
 refine stp (zB5 rfl (by assumption) (by rfl) ?_)
 refine stp (zE8 rfl rfl rfl ?_)
 refine zA3 (og rfl ?_)
 (first | (refine zR8 rfl rfl ?_ ?_; (first | assumption | omega)) | (refine zM5 rfl rfl ?_ ?_; (first | assumption | omega)) | refine zF9 rfl rfl ?_)
 refine zA4 ?_
 refine zB8 rfl (fun hlt => ?_) (fun hlt => ?_)
 ·-- true
  first | (replace hlt := of_decide_eq_true hlt) | (replace hlt := of_decide_eq_false hlt) | skip
  have hcn : chunkN bytes.length k ≤ 8 := by unfold chunkN; omega
  have hcm : 8 * k + chunkN bytes.length k ≤ bytes.length := by unfold chunkN; omega
  refine zC3 ?_
  refine zA6 ?_
  refine zC6 ?_
  refine zA1 rfl ?_
  refine zA3 (og rfl ?_)
  (first | refine zA7 rfl ?_ | refine zB6 rfl ?_)
  refine stp (zA5 rfl ?_)
  refine stp (zB5 rfl (by assumption) (by rfl) ?_)
  refine zA3 (og rfl ?_)
  (first | refine zA2 rfl ?_ | refine zB6 rfl ?_)
  refine zA3 (og rfl ?_)
  (first | refine zA2 rfl ?_ | refine zB6 rfl ?_)
  refine zA3 (og rfl ?_)
  (first | (refine zD8 rfl rfl ?_ ?_; (constructor <;> omega)) | refine zI1 rfl rfl ?_)
  refine stp (zA5 rfl ?_)
  refine stp (zB5 rfl (by assumption) (by rfl) ?_)
  refine stp (zE8 rfl rfl rfl ?_)
  refine zA3 (og rfl ?_)
  refine zT7 rfl rfl rfl ?_
  rw [show (if (bytes.length : Int) < ((8 * k : Nat) : Int) + 8 then (bytes.length : Int) else ((8 * k : Nat) : Int) + 8) = ((8 * k + chunkN bytes.length k : Nat) : Int) from by unfold chunkN; split <;> omega]
  refine zA3 (og rfl ?_)
  refine qB7 rfl rfl rfl (by omega) (by omega) (by omega) ?_
  rw [Int.toNat_natCast, Int.toNat_natCast, show 8 * k + chunkN bytes.length k - 8 * k = chunkN bytes.length k from by omega]
  have Rj : RowAt w 1 (if cb = 8 * k then ab else ab.map (·.add (8 * k * 1))) (chunkN bytes.length k) (((bytes.drop (8 * k)).take 8).map (.int .u8)) := by
   have h := RB.sliceLH (l := 8 * k) (m := chunkN bytes.length k) hcb hcm (by omega)
   simp only [Nat.mul_one, ← List.map_drop, ← List.map_take, qE9] at h ⊢; exact h
  have hlenj : chunkN bytes.length k = ((bytes.drop (8 * k)).take 8).length := by rw [List.length_take, List.length_drop, chunkN]
  have hxj : ∀ x ∈ (bytes.drop (8 * k)).take 8, inR .u8 x := fun x hx_ => hbr x (List.mem_of_mem_drop (List.mem_of_mem_take hx_))
  refine stp (zC0 rfl (zH3 (qF4 _ hlenj (Rj.grow G) hxj hcn) (y := .int .u64 (chunkP bytes k)) rfl) ?_)
  intro w9 g10
  replace hc_ := g10.heap hc_
  replace own := zC8 own g10
  replace G := G.tr g10
  clear g10
  refine stp (zE5 (cs := #[.int .u64 (chunkP bytes k)]) (el := 33) (fun w => by kernel_rfl) ?_)
  intro bs w5 hbs hcs g5
  replace hc_ := g5.heap hc_
  replace own := zC8 own g5
  replace G := G.tr g5
  refine stp (zG4 rfl rfl rfl rfl own (Row.of_block (n := 1) hcs rfl rfl (by omega)) (fun q_ hq_ => by simp at hq_; subst hq_; rfl) (by simp only [maxLen]; omega) (by omega) G.size ?_)
  intro v6 w6 own6 gr6
  replace G := G.grown gr6 (zI2 own)
  replace hc_ := zI3 gr6 hc_ (zE7 own hc_ (by decide))
  have e3 : (words ++ (List.range (k + 1)).map (chunkP bytes)).map (Value.int .u64) = (words ++ (List.range k).map (chunkP bytes)).map (Value.int .u64) ++ [.int .u64 (chunkP bytes k)] := by simp [List.range_succ]
  have own7 := own6
  rw [← e3, Nat.add_assoc] at own7
  refine zA3 (og rfl ?_)
  (first | refine zB0 rfl ?_ | refine zA8 rfl ?_)
  refine zA4 ?_
  refine zA1 rfl ?_
  refine zA3 (og rfl ?_)
  (first | refine zA2 rfl ?_ | refine zB6 rfl ?_)
  refine zA3 (og rfl ?_)
  (first | (refine zD8 rfl rfl ?_ ?_; (constructor <;> omega)) | refine zI1 rfl rfl ?_)
  refine zA3 (og rfl ?_)
  (first | refine zA0 rfl ?_ | refine zA8 rfl ?_)
  refine zA4 ?_
  refine ⟨_, ?_, k + 1, v6, rfl, zE6 ⟨rfl, rfl, congrArg (Value.int .i64) (by omega), trivial⟩, by omega, hc_, own7, G⟩
  omega
 ·-- false
  first | (replace hlt := of_decide_eq_true hlt) | (replace hlt := of_decide_eq_false hlt) | skip
  have hk3 : (bytes.length + 7) / 8 = k := by omega
  refine zF6 ?_
  refine zA6 (zA1 rfl ?_)
  refine zA3 (og rfl ?_)
  (first | refine zA7 rfl ?_ | refine zB6 rfl ?_)
  refine stp (zA5 rfl ?_)
  refine stp (zB5 rfl (by assumption) (by rfl) ?_)
  refine stp (zE8 rfl rfl rfl ?_)
  refine stp (yB1 (z := .int .u64 0) (by_ := 8) rfl rfl rfl rfl (by rfl) (by rfl) own (by omega) (by omega) G.size ?_)
  intro v9 w9 own9 gr9
  have G9 := G.grown gr9 (zI2 own)
  refine zA3 (og rfl ?_)
  (first | refine zB0 rfl ?_ | refine zA8 rfl ?_)
  refine zA4 ?_
  refine zA6 (zA1 rfl ?_)
  refine zA3 (og rfl ?_)
  (first | refine zA7 rfl ?_ | refine zB6 rfl ?_)
  refine zA3 (og rfl ?_)
  (first | refine zB0 rfl ?_ | refine zA8 rfl ?_)
  refine zA4 ?_
  refine zC4 ?_
  refine ret1 (zB3 rfl) ⟨?_, G9⟩
  have e1 : (Nd.mk kind size words bytes kids).content.length = words.length + k + kids.length := by simp only [Nd.content, chunksP, List.length_append, List.length_map, List.length_range, List.length_replicate]; omega
  have e2 : (Nd.mk kind size words bytes kids).content.map (Value.int .u64) = (words ++ (List.range k).map (chunkP bytes)).map (Value.int .u64) ++ List.replicate kids.length (.int .u64 0) := by rw [← hk3]; simp [Nd.content, chunksP]
  rw [e1, e2]
  exact own9
end Go.Proofs.YtifhcfhdajkhlaaGreat.K

