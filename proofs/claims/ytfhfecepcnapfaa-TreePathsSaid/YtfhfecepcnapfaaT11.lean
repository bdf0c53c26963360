/- Decoding an arena as a tree. Plain law. -/
import Derived.Test.YtfhfecepcnapfaaT10
set_option linter.unusedVariables false
set_option linter.unusedSimpArgs false
namespace Go.Proofs.Ytfhfecepcnapfaa.K
open Go Go.RowKit
def kidN (o : Ob) : Int := if o.size = 6 then o.count else o.ptrs
def kidA (o : Ob) : Int := if o.size = 6 then o.at_ else o.at_ + o.data
def nodL (s : Src) (o : Ob) : List Int := wordsS s o.seg o.at_ (if o.size = 5 then o.count else o.data).toNat
def nodB (s : Src) (o : Ob) : List Int := if o.size = 2 then bytesS s o.seg o.at_ o.count.toNat else []
/-- So many kids, one behind the other; what is paid; the first error. -/
def kidsD (f : Int → Int → Int × Nd × Int) (a p : Int) : Nat → Int × List Nd × Int
  | 0 => (p, [], 0)
  | n + 1 => if (kidsD f a p n).2.2 ≠ 0 then kidsD f a p n
    else ((f (a + (n : Int)) (kidsD f a p n).1).1, (kidsD f a p n).2.1 ++ [(f (a + (n : Int)) (kidsD f a p n).1).2.1], (f (a + (n : Int)) (kidsD f a p n).1).2.2)
def nodeK (s : Src) (last : Bool) (f : Int → Int → Int → Int × Nd × Int) (seg a paid : Int) : Int × Nd × Int :=
  if (followS s seg a).2 ≠ 0 then (paid, .nil, (followS s seg a).2)
  else if (followS s seg a).1.kind ≠ 0 ∧ last = true then (paid + (1 + wordsO (followS s seg a).1), .nil, 21)
  else if paid + (1 + wordsO (followS s seg a).1) > 8192 then (paid + (1 + wordsO (followS s seg a).1), .nil, 22)
  else if (kidsD (f (followS s seg a).1.seg) (kidA (followS s seg a).1) (paid + (1 + wordsO (followS s seg a).1)) (kidN (followS s seg a).1).toNat).2.2 ≠ 0 then
    ((kidsD (f (followS s seg a).1.seg) (kidA (followS s seg a).1) (paid + (1 + wordsO (followS s seg a).1)) (kidN (followS s seg a).1).toNat).1, .nil, (kidsD (f (followS s seg a).1.seg) (kidA (followS s seg a).1) (paid + (1 + wordsO (followS s seg a).1)) (kidN (followS s seg a).1).toNat).2.2)
  else ((kidsD (f (followS s seg a).1.seg) (kidA (followS s seg a).1) (paid + (1 + wordsO (followS s seg a).1)) (kidN (followS s seg a).1).toNat).1,
    .mk (followS s seg a).1.kind (followS s seg a).1.size (nodL s (followS s seg a).1) (nodB s (followS s seg a).1) (kidsD (f (followS s seg a).1.seg) (kidA (followS s seg a).1) (paid + (1 + wordsO (followS s seg a).1)) (kidN (followS s seg a).1).toNat).2.1, 0)
/-- What a word leads to, as a tree: so many levels left, what was paid before. -/
def nodeD (s : Src) : Nat → Int → Int → Int → Int × Nd × Int
  | 0, seg, a, paid => nodeK s true (fun _ _ p => (p, .nil, 0)) seg a paid
  | d + 1, seg, a, paid => nodeK s false (fun seg a p => nodeD s d seg a p) seg a paid
def nodeF (s : Src) : Nat → Int → Int → Int → Int × Nd × Int
  | 0 => fun _ _ p => (p, .nil, 0)
  | d + 1 => nodeD s d
theorem nodeD_eq (s : Src) (d : Nat) (seg a paid : Int) : nodeD s d seg a paid = nodeK s (d == 0) (nodeF s d) seg a paid := by
  cases d with
  | zero => rfl
  | succ d => rfl
theorem kidsD_stop {f : Int → Int → Int × Nd × Int} {a p : Int} {k : Nat} (h : (kidsD f a p k).2.2 ≠ 0) : ∀ (n : Nat), kidsD f a p (k + n) = kidsD f a p k
  | 0 => rfl
  | n + 1 => by
    rw [← Nat.add_assoc, kidsD, kidsD_stop h n, if_pos h]
theorem kidsD_stop' {f : Int → Int → Int × Nd × Int} {a p : Int} {k n : Nat} (h : (kidsD f a p k).2.2 ≠ 0) (hk : k ≤ n) : kidsD f a p n = kidsD f a p k := by
  obtain ⟨m, rfl⟩ := Nat.exists_eq_add_of_le hk
  exact kidsD_stop h m
theorem kidsD_count {f : Int → Int → Int × Nd × Int} {a p : Int} : ∀ (n : Nat), (kidsD f a p n).2.2 = 0 → (kidsD f a p n).2.1.length = n
  | 0, _ => rfl
  | n + 1, h => by
    rw [kidsD] at h ⊢
    by_cases h0 : (kidsD f a p n).2.2 ≠ 0
    · rw [if_pos h0] at h; exact absurd h h0
    · rw [if_neg h0]
      rw [List.length_append, kidsD_count n (by simpa using h0)]; rfl
/-- What may be found, by its kind. -/
def ObK (o : Ob) : Prop := o = Ob0 ∨ (o.kind = 1 ∧ o.size = 0 ∧ o.count = 0) ∨ (o.kind = 2 ∧ o.data = 0 ∧ o.ptrs = 0 ∧ (o.size = 2 ∨ o.size = 5 ∨ o.size = 6))
theorem decP_kind (x : Int) : ((decP x).kind = 1 → (decP x).size = 0 ∧ (decP x).count = 0) ∧ ((decP x).kind = 2 → (decP x).data = 0 ∧ (decP x).ptrs = 0) := by
  unfold decP
  repeat' split
  all_goals simp [Pt0]
theorem wordsE_mk (k f d p z c s : Int) (b : Bool) : wordsE ⟨k, f, d, p, z, c, s, b⟩ = if k = 0 then 0 else if k = 1 then 0 else if k = 3 then 0 else if k = 2 then (if z = 2 then 0 else if z = 5 ∨ z = 6 then 0 else 23) else 23 := rfl
theorem wordsN_mk (k f d p z c s : Int) (b : Bool) : wordsN ⟨k, f, d, p, z, c, s, b⟩ = if k = 0 then 0 else if k = 1 then IntKind.i64.wrap (d + p) else if k = 3 then (if b then 2 else 1)
  else if k = 2 then (if z = 2 then IntKind.i64.wrap ((IntKind.i64.wrap (IntKind.i64.wrap (c + 8) - 1)).tdiv 8) else if z = 5 ∨ z = 6 then c else 0) else 0 := rfl
theorem foundS_kind (s : Src) (x : Int) (hn : nearP (decP x) = true) (seg a : Int) : ObK (foundS s (decP x) seg a).1 := by
  obtain ⟨h1, h2⟩ := decP_kind x
  have hk : (decP x).kind = 1 ∨ (decP x).kind = 2 := by simpa [nearP] using hn
  unfold foundS
  split
  · exact .inl rfl
  · rename_i he
    split
    · exact .inl rfl
    · rcases hk with hk | hk
      · exact .inr (.inl ⟨hk, (h1 hk).1, (h1 hk).2⟩)
      · refine .inr (.inr ⟨hk, (h2 hk).1, (h2 hk).2, ?_⟩)
        have he2 : ¬ wordsE ⟨(decP x).kind, 0, (decP x).data, (decP x).ptrs, (decP x).size, (decP x).count, 0, false⟩ ≠ 0 := he
        clear he
        have he := he2
        rw [wordsE_mk] at he
        rw [if_neg (by omega), if_neg (by omega), if_neg (by omega), if_pos hk] at he
        show (decP x).size = 2 ∨ (decP x).size = 5 ∨ (decP x).size = 6
        split at he
        · rename_i h; exact .inl h
        · split at he
          · rename_i h; exact .inr h
          · exact absurd (show (23 : Int) ≠ 0 by decide) he
theorem ptrS_dec (s : Src) (seg a : Int) : ∃ x, (ptrS s seg a).1 = decP x := by
  unfold ptrS
  split
  · exact ⟨0, rfl⟩
  · exact ⟨_, rfl⟩
theorem followS_kind (s : Src) (seg a : Int) : ObK (followS s seg a).1 := by
  obtain ⟨x, hx⟩ := ptrS_dec s seg a
  unfold followS
  split
  · exact .inl rfl
  · split
    · rename_i h
      rw [hx] at h ⊢
      exact foundS_kind s x h _ _
    · split
      · unfold twiceS
        split
        · exact .inl rfl
        · split
          · exact .inl rfl
          · split
            · exact .inl rfl
            · split
              · exact .inl rfl
              · split
                · exact .inl rfl
                · rename_i h
                  refine foundS_kind s _ ?_ _ _
                  cases hq : nearP (decP (s.word (ptrS s seg a).1.seg ((ptrS s seg a).1.off + 1)).1) with
                  | true => rfl
                  | false => exact absurd (.inr (.inr (.inl hq))) h
      · unfold landedS
        obtain ⟨y, hy⟩ := ptrS_dec s (ptrS s seg a).1.seg (ptrS s seg a).1.off
        split
        · exact .inl rfl
        · split
          · exact .inl rfl
          · rename_i h
            rw [hy] at h ⊢
            exact foundS_kind s y (by simpa using h) _ _
theorem ob_small {o : Ob} (ho : ObR o) (hk : ObK o) (hw : wordsO o ≤ 8191) : o.data ≤ 8191 ∧ o.ptrs ≤ 8191 ∧ (o.size = 5 → o.count ≤ 8191) ∧ (o.size = 2 → o.count ≤ 65528) ∧ 0 ≤ kidN o ∧ kidN o ≤ 8191 := by
  obtain ⟨r1, r2, r3, r4, r5, r6, r7⟩ := ho
  rcases hk with rfl | ⟨h1, h2, h3⟩ | ⟨h1, h2, h3, h4⟩
  · simp [Ob0, kidN]
  · have hv : wordsO o = o.data + o.ptrs := by
      unfold wordsO
      rw [if_neg (by omega)]
      unfold Ob.pt
      rw [wordsN_mk]
      rw [if_neg (by omega), if_pos h1, wrap_in (by simp only [inR]; omega)]
    unfold kidN
    rw [if_neg (by omega)]
    omega
  · have hv : (o.size = 2 → wordsO o = (o.count + 7) / 8) ∧ (o.size ≠ 2 → wordsO o = o.count) := by
      unfold wordsO
      rw [if_neg (by omega)]
      unfold Ob.pt
      rw [wordsN_mk]
      rw [if_neg (by omega), if_neg (by omega), if_neg (by omega), if_pos h1]
      refine ⟨fun h => ?_, fun h => ?_⟩
      · rw [if_pos h, wrap_in (by simp only [inR]; omega : inR .i64 (o.count + 8)), wrap_in (by simp only [inR]; omega : inR .i64 (o.count + 8 - 1)), Int.tdiv_eq_ediv_of_nonneg (by omega), wrap_in (by simp only [inR]; omega : inR .i64 ((o.count + 8 - 1) / 8))]
        congr 1
        omega
      · rw [if_neg h, if_pos (by omega)]
    obtain ⟨v1, v2⟩ := hv
    unfold kidN
    refine ⟨by omega, by omega, fun h => by have := v2 (by omega); omega, fun h => by have := v1 h; omega, ?_⟩
    split
    · have := v2 (by omega); omega
    · omega
theorem kidsD_paid {f : Int → Int → Int × Nd × Int} (hf : ∀ a p, 0 ≤ p → p ≤ 8192 → 0 ≤ (f a p).1 ∧ (f a p).1 ≤ 1000000000 ∧ ((f a p).2.2 = 0 → (f a p).1 ≤ 8192)) {a p : Int} (h0 : 0 ≤ p) (h1 : p ≤ 8192) : ∀ n, 0 ≤ (kidsD f a p n).1 ∧ (kidsD f a p n).1 ≤ 1000000000 ∧ ((kidsD f a p n).2.2 = 0 → (kidsD f a p n).1 ≤ 8192)
  | 0 => ⟨h0, by show p ≤ _; omega, fun _ => h1⟩
  | n + 1 => by
    obtain ⟨i1, i2, i3⟩ := kidsD_paid hf (a := a) h0 h1 n
    rw [kidsD]
    by_cases h : (kidsD f a p n).2.2 ≠ 0
    · rw [if_pos h]; exact ⟨i1, i2, i3⟩
    · rw [if_neg h]
      exact hf _ _ i1 (i3 (by simpa using h))
theorem nodeD_paid {P : Program} {w : World} {v : Value} {s : Src} (H : SrcOk P w v s) : ∀ (d : Nat) (seg a p : Int), 0 ≤ p → p ≤ 8192 → 0 ≤ (nodeD s d seg a p).1 ∧ (nodeD s d seg a p).1 ≤ 1000000000 ∧ ((nodeD s d seg a p).2.2 = 0 → (nodeD s d seg a p).1 ≤ 8192) := by
  have step : ∀ (d : Nat) (seg a p : Int), (∀ seg a p, 0 ≤ p → p ≤ 8192 → 0 ≤ (nodeF s d seg a p).1 ∧ (nodeF s d seg a p).1 ≤ 1000000000 ∧ ((nodeF s d seg a p).2.2 = 0 → (nodeF s d seg a p).1 ≤ 8192)) → 0 ≤ p → p ≤ 8192 → 0 ≤ (nodeD s d seg a p).1 ∧ (nodeD s d seg a p).1 ≤ 1000000000 ∧ ((nodeD s d seg a p).2.2 = 0 → (nodeD s d seg a p).1 ≤ 8192) := by
    intro d seg a p hf h0 h1
    obtain ⟨w0, w1⟩ := wordsO_range (followS_range H seg a)
    rw [nodeD_eq]
    unfold nodeK
    split
    · exact ⟨h0, by show p ≤ _; omega, fun _ => h1⟩
    · split
      · exact ⟨by simp only []; omega, by simp only []; omega, fun h => by simp at h⟩
      · split
        · exact ⟨by simp only []; omega, by simp only []; omega, fun h => by simp at h⟩
        · rename_i hp
          obtain ⟨k1, k2, k3⟩ := kidsD_paid (hf (followS s seg a).1.seg) (a := kidA (followS s seg a).1) (p := p + (1 + wordsO (followS s seg a).1)) (by omega) (by omega) (kidN (followS s seg a).1).toNat
          split
          · rename_i he
            exact ⟨k1, k2, fun h => absurd h he⟩
          · rename_i he
            exact ⟨k1, k2, fun _ => k3 (by simpa using he)⟩
  intro d
  induction d with
  | zero => exact fun seg a p => step 0 seg a p (fun seg a p h0 h1 => ⟨h0, by show p ≤ _; omega, fun _ => h1⟩)
  | succ d ih => exact fun seg a p => step (d + 1) seg a p (fun seg a p h0 h1 => ih seg a p h0 h1)
theorem nodL_u64 {P : Program} {w : World} {v : Value} {s : Src} (H : SrcOk P w v s) (o : Ob) : ∀ x ∈ nodL s o, inR .u64 x := wordsS_u64 H _ _ _
theorem nodB_u8 (s : Src) (o : Ob) : ∀ x ∈ nodB s o, inR .u8 x := by
  unfold nodB
  split
  · exact bytesS_u8 _ _ _ _
  · intro x hx; simp at hx
theorem kid_left {o : Ob} {d : Nat} {j : Nat} (hok : ObK o) (h2 : ¬ (o.kind ≠ 0 ∧ (d == 0) = true)) (hj : (j : Int) < kidN o) : ∃ e, d = e + 1 := by
  cases d with
  | succ e => exact ⟨e, rfl⟩
  | zero =>
    exfalso
    have h0 : o.kind = 0 := by
      by_cases h : o.kind = 0
      · exact h
      · exact absurd ⟨h, rfl⟩ h2
    rcases hok with rfl | h | h
    · simp [kidN, Ob0] at hj; omega
    · omega
    · omega
/-! ### memory -/
theorem Kp.upd_new {F : List Nat} {w w1 w2 : World} {b : Nat} (K : Kp F w w1) (u : Upd b w1 w2) (hb : w.heap.size ≤ b) : Kp F w w2 := K.trans (Kp.of_upd u (List.mem_singleton.2 rfl)) fun x hx => by simp only [List.mem_singleton] at hx; subst hx; exact .inr hb
theorem own_len {w : World} {base n m c sz : Nat} {T : TypeId} {ad : Option Addr} {xs : List Value} (h : w.ownsRow base T sz (.slice ad n c) m xs) : n = m := by
  rcases h.2 with ⟨hv, hm⟩ | ⟨q, cap, cur, hv, _⟩
  · simp only [Value.slice.injEq] at hv
    omega
  · simp only [Value.slice.injEq] at hv
    omega
theorem own_kp {F : List Nat} {w w' : World} {base n sz : Nat} {T : TypeId} {v : Value} {xs : List Value} (h : w.ownsRow base T sz v n xs) (k : Kp F w w') (hF : ∀ x ∈ F, x < base) : w'.ownsRow base T sz v n xs := by
  refine ⟨h.1, ?_⟩
  rcases h.2 with hn | ⟨q, cap, cur, rfl, hb, hg, rest⟩
  · exact .inl hn
  · exact .inr ⟨q, cap, cur, rfl, hb, k.heap hg (fun hm => by have := hF q hm; omega), rest⟩
/-! ### any arena -/
def sizesP (A : List (List Int)) : List Int := A.map fun s => (s.length : Int)
theorem sizesP_len (A : List (List Int)) : (sizesP A).length = A.length := by simp [sizesP]
theorem sizesP_at (A : List (List Int)) (i : Nat) : (sizesP A).getD i 0 = (len2 A i : Int) := by
  by_cases hi : i < A.length
  · rw [getD_at (by rw [sizesP_len]; exact hi)]
    simp only [sizesP, List.getElem_map, len2]
    rw [getD_at hi]
  · rw [len2_none (by omega), List.getD_eq_getElem?_getD, List.getElem?_eq_none (by rw [sizesP_len]; omega)]
    rfl
theorem sizesP_take {A : List (List Int)} {k : Nat} (h : k < A.length) : sizesP (A.take (k + 1)) = sizesP (A.take k) ++ [(len2 A k : Int)] := by
  simp only [sizesP, len2]
  rw [List.take_add_one, List.getElem?_eq_getElem h, List.map_append, getD_at h]
  rfl
/-- That arena.Right says so. -/
def rightB (A : List (List Int)) : Bool := decide (1 ≤ A.length ∧ A.length ≤ 16 ∧ 1 ≤ len2 A 0 ∧ totalP A ≤ 4096)
theorem rightB_ok {A : List (List Int)} (h : rightB A = true) (hx : ∀ q ∈ A, ∀ x ∈ q, inR .u64 x) : OkA A := by
  unfold rightB at h
  obtain ⟨h1, h2, h3, h4⟩ := of_decide_eq_true h
  exact ⟨h1, h2, h3, h4, hx⟩
/-- The tree of any arena. -/
def decT (A : List (List Int)) : Nd × Int := if rightB A = false then (.nil, 1) else (nodeD (wholeS A) 32 0 0 0).2
end Go.Proofs.Ytfhfecepcnapfaa.K
