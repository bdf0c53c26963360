/- A pointer to itself; a list of the same thing. Plain law. -/
import Derived.Test.YtfhfecepcnapfaaV10
set_option linter.unusedVariables false
set_option linter.unusedSimpArgs false
namespace Go.Proofs.Ytfhfecepcnapfaa.K
open Go Go.RowKit
def selfP : Pt := ⟨1, -1, 0, 1, 0, 0, 0, false⟩
theorem selfP_ok : okP selfP := .inl ⟨rfl, by decide, by decide, by decide, by decide, by decide, by decide, by simp [selfP]⟩
theorem within_at {A : List (List Int)} {q : Nat} {a n : Int} (hq : q < A.length) (h0 : 0 ≤ a) (h1 : 0 ≤ n) (h2 : a + n ≤ len2 A q) : withinP (wholeS A).sizes (q : Int) a n = true := by
  have hg : (wholeS A).sizes.getD q 0 = (len2 A q : Int) := by
    rw [getD_at (by simpa [wholeS] using hq)]
    simp only [wholeS, List.getElem_map, len2]
    rw [getD_at hq]
  unfold withinP addOk
  rw [Int.toNat_natCast, hg]
  simp only [Bool.and_eq_true, decide_eq_true_eq, wholeS, List.length_map]
  omega
theorem ob_near {p : Pt} {s : Src} {seg a x n : Int} (hx : Says x p) (h0 : s.word seg a = (x, 0)) (hk : p.kind = 1 ∨ p.kind = 2) {o : Ob} (ho : objP p seg (a + 1 + p.off) = o) (he : wordsE o.pt = 0) (hn : wordsN o.pt = n) (hw : withinP s.sizes seg (a + 1 + p.off) n = true) : followS s seg a = (o, 0) := by
  subst ho
  exact follow_says hx h0 (by simpa [nearP] using hk) he (by rw [hn]; exact hw)
theorem self_follow {x : Int} (hx : Says x selfP) : followS (wholeS [[x]]) 0 0 = (⟨1, 0, 0, 0, 1, 0, 0⟩, 0) := by
  have hw : wordA [[x]] ((0 : Nat) : Int) ((0 : Nat) : Int) = (x, 0) := word_at (by simp) (by simp [len2])
  exact ob_near (n := 1) hx hw (.inl rfl) rfl rfl (by rw [wordsN_ob, wordsN_mk]; rfl) (within_at (q := 0) (A := [[x]]) (by simp) (by decide) (by decide) (by simp [len2, selfP]))
theorem self_dec {x : Int} (hx : Says x selfP) : ∀ (d : Nat) (p : Int), 0 ≤ p → p + 2 * (d + 1) ≤ 8192 → nodeD (wholeS [[x]]) d 0 0 p = (p + 2 * ((d : Int) + 1), .nil, 21)
  | 0, p, h0, h1 => by
    rw [nodeD_eq]
    unfold nodeK
    rw [self_follow hx]
    have hw : wordsO ⟨1, 0, 0, 0, 1, 0, 0⟩ = 1 := rfl
    rw [if_neg (by simp), if_pos (by simp), hw]
    exact Prod.ext (by simp only []; omega) rfl
  | d + 1, p, h0, h1 => by
    rw [nodeD_eq]
    unfold nodeK
    rw [self_follow hx]
    have hw : wordsO ⟨1, 0, 0, 0, 1, 0, 0⟩ = 1 := rfl
    have hn : (kidN ⟨1, 0, 0, 0, 1, 0, 0⟩).toNat = 1 := rfl
    have ha : kidA ⟨1, 0, 0, 0, 1, 0, 0⟩ = 0 := rfl
    have ih := self_dec hx d (p + 2) (by omega) (by omega)
    have hk : kidsD (nodeF (wholeS [[x]]) (d + 1) 0) 0 (p + (1 + 1)) 1 = (p + 2 + 2 * ((d : Int) + 1), [.nil], 21) := by
      rw [kidsD_succ (show kidsD _ _ _ 0 = (_, [], 0) from rfl)]
      show ((nodeD (wholeS [[x]]) d 0 (0 + 0) (p + 2)).1, [] ++ [(nodeD (wholeS [[x]]) d 0 (0 + 0) (p + 2)).2.1], (nodeD (wholeS [[x]]) d 0 (0 + 0) (p + 2)).2.2) = _
      rw [Int.add_zero, ih]
      rfl
    rw [if_neg (by simp), if_neg (by simp), hw, if_neg (by omega), hn, ha]
    show (if (kidsD (nodeF (wholeS [[x]]) (d + 1) 0) 0 (p + (1 + 1)) 1).2.2 ≠ 0 then ((kidsD (nodeF (wholeS [[x]]) (d + 1) 0) 0 (p + (1 + 1)) 1).1, Nd.nil, (kidsD (nodeF (wholeS [[x]]) (d + 1) 0) 0 (p + (1 + 1)) 1).2.2) else _) = _
    rw [hk, if_pos (by simp)]
    exact Prod.ext (by simp only []; omega) rfl
theorem self_right (x : Int) : rightB [[x]] = true := decide_eq_true ⟨by simp, by simp, by simp [len2], by simp [totalP]⟩
theorem self_decT {x : Int} (hx : Says x selfP) : decT [[x]] = (.nil, 21) := by
  have h := self_dec hx 32 0 (by decide) (by decide)
  unfold decT
  rw [self_right, if_neg (by decide)]
  exact congrArg Prod.snd h
/-! ### a list of one thing -/
def listP (m : Int) : Pt := ⟨2, 0, 0, 0, 6, m, 0, false⟩
def kidP (off : Int) : Pt := ⟨1, off, 100, 0, 0, 0, 0, false⟩
theorem listP_ok {m : Int} (h0 : 0 ≤ m) (h1 : m ≤ 200) : okP (listP m) := .inr (.inl ⟨rfl, by simp [listP], by simp [listP], by simp [listP], by simp [listP], by simp [listP]; omega, by simp [listP]; omega⟩)
theorem kidP_ok {off : Int} (h0 : 0 ≤ off) (h1 : off ≤ 200) : okP (kidP off) := .inl ⟨rfl, by simp [kidP]; omega, by simp [kidP]; omega, by simp [kidP], by simp [kidP], by simp [kidP], by simp [kidP], by simp [kidP]⟩
def listG (e : Int) (f : Nat → Int) (m : Nat) : List Int := e :: (List.range m).map f ++ List.replicate 100 0
theorem listG_len (e : Int) (f : Nat → Int) (m : Nat) : (listG e f m).length = m + 101 := by simp [listG]
theorem listG_0 (e : Int) (f : Nat → Int) (m : Nat) : (listG e f m).getD 0 0 = e := by
  unfold listG
  rw [List.cons_append, List.getD_cons_zero]
theorem listG_k (e : Int) (f : Nat → Int) {m i : Nat} (hi : i < m) : (listG e f m).getD (i + 1) 0 = f i := by
  unfold listG
  rw [List.cons_append, List.getD_cons_succ, getD_app, if_neg (by simp; omega), getD_at (by simpa using hi)]
  simp
theorem listG_z (e : Int) (f : Nat → Int) (m j : Nat) : (listG e f m).getD (m + 1 + j) 0 = 0 := by
  unfold listG
  rw [List.cons_append, show m + 1 + j = (m + j) + 1 from by omega, List.getD_cons_succ, getD_app, if_pos (by simp)]
  simp only [List.getD_eq_getElem?_getD, List.getElem?_replicate]
  split <;> rfl
def kidE (m i : Nat) : Int := encR (kidP ((m : Int) - i - 1))
def listS (m : Nat) : List Int := listG (encR (listP m)) (kidE m) m
theorem listS_len (m : Nat) : (listS m).length = m + 101 := listG_len _ _ _
theorem list_word (m i : Nat) (hi : i < m + 101) : wordA [listS m] ((0 : Nat) : Int) (i : Int) = ((listS m).getD i 0, 0) := word_at (by simp) (by simp only [len2]; rw [show ([listS m] : List (List Int)).getD 0 [] = listS m from rfl, listS_len]; exact hi)
theorem list_len2 (m : Nat) : len2 [listS m] 0 = m + 101 := listS_len m
theorem list_follow {m : Nat} (hm : m ≤ 200) : followS (wholeS [listS m]) 0 0 = (⟨2, 0, 1, 0, 0, 6, m⟩, 0) := by
  have hw := list_word m 0 (by omega)
  rw [show (listS m).getD 0 0 = encR (listP m) from listG_0 _ _ _] at hw
  exact ob_near (n := (m : Int)) (says_enc (listP_ok (m := (m : Int)) (by omega) (by omega))) hw (.inr rfl) rfl (by rw [wordsE_ob, wordsE_mk]; rfl) (by rw [wordsN_ob, wordsN_mk]; rfl) (within_at (q := 0) (by simp) (by simp [listP]) (by omega) (by rw [list_len2]; simp [listP]; omega))
theorem kid_follow {m i : Nat} (hm : m ≤ 200) (hi : i < m) : followS (wholeS [listS m]) 0 (1 + (i : Int)) = (⟨1, 0, m + 1, 100, 0, 0, 0⟩, 0) := by
  have hw := list_word m (i + 1) (by omega)
  rw [show (listS m).getD (i + 1) 0 = kidE m i from listG_k _ _ hi] at hw
  rw [show ((i + 1 : Nat) : Int) = 1 + (i : Int) from by omega] at hw
  have hp : (1 + (i : Int)) + 1 + (kidP ((m : Int) - i - 1)).off = (m : Int) + 1 := by simp [kidP]; omega
  refine ob_near (n := 100) (says_enc (kidP_ok (off := (m : Int) - i - 1) (by omega) (by omega))) hw (.inl rfl) ?_ (by rw [wordsE_ob, wordsE_mk]; rfl) (by rw [wordsN_ob, wordsN_mk]; rfl) ?_
  · rw [hp]; rfl
  · rw [hp]; exact within_at (q := 0) (by simp) (by omega) (by decide) (by rw [list_len2]; omega)
def kidT : Nd := .mk 1 0 (List.replicate 100 0) [] []
theorem kid_dec {m i : Nat} (hm : m ≤ 200) (hi : i < m) (d : Nat) (p : Int) : nodeD (wholeS [listS m]) (d + 1) 0 (1 + (i : Int)) p = if p + 101 > 8192 then (p + 101, .nil, 22) else (p + 101, kidT, 0) := by
  rw [nodeD_eq]
  unfold nodeK
  rw [kid_follow hm hi]
  have hw : wordsO ⟨1, 0, (m : Int) + 1, 100, 0, 0, 0⟩ = 100 := rfl
  have hL : nodL (wholeS [listS m]) ⟨1, 0, (m : Int) + 1, 100, 0, 0, 0⟩ = List.replicate 100 0 := by
    have := wordsS_at (A := [listS m]) (q := 0) (a := m + 1) (l := List.replicate 100 0) (by simp) (by rw [list_len2, List.length_replicate]; omega) (fun j hj => by
      rw [List.length_replicate] at hj
      show (listS m).getD (m + 1 + j) 0 = _
      rw [show (listS m).getD (m + 1 + j) 0 = 0 from listG_z _ _ _ _, getD_at (by rw [List.length_replicate]; exact hj), List.getElem_replicate])
    rw [List.length_replicate] at this
    exact this
  rw [if_neg (by simp), if_neg (by simp), hw]
  by_cases h : p + 101 > 8192
  · rw [if_pos (by omega), if_pos h]
    exact Prod.ext (by simp only []; omega) rfl
  · rw [if_neg (by omega), if_neg h]
    have hk : (kidN ⟨1, 0, (m : Int) + 1, 100, 0, 0, 0⟩).toNat = 0 := rfl
    rw [hk, hL]
    have hz : ∀ f a q, kidsD f a q 0 = (q, [], 0) := fun _ _ _ => rfl
    rw [hz, if_neg (by simp)]
    exact Prod.ext (by simp only []; omega) rfl
theorem kids_dec {m : Nat} (hm : m ≤ 200) (d : Nat) (p : Int) : ∀ (n : Nat), n ≤ m → p + 101 * n ≤ 8192 → kidsD (fun x y => nodeD (wholeS [listS m]) (d + 1) 0 x y) 1 p n = (p + 101 * n, List.replicate n kidT, 0)
  | 0, _, _ => by simp [kidsD]
  | n + 1, hn, hp => by
    rw [kidsD_succ (kids_dec hm d p n (by omega) (by omega))]
    rw [kid_dec hm (by omega), if_neg (by omega)]
    refine Prod.ext (by simp only []; omega) (Prod.ext ?_ rfl)
    simp only [List.replicate_succ']
theorem kids_much {m : Nat} (hm : m ≤ 200) (d : Nat) (p : Int) (hp0 : p ≤ 8192) : ∀ (n : Nat), n ≤ m → p + 101 * n > 8192 → (kidsD (fun x y => nodeD (wholeS [listS m]) (d + 1) 0 x y) 1 p n).2.2 = 22
  | 0, _, h => by omega
  | n + 1, hn, h => by
    by_cases h0 : p + 101 * n > 8192
    · have ih := kids_much hm d p hp0 n (by omega) h0
      rw [kidsD_stop' (k := n) (by rw [ih]; decide) (by omega), ih]
    · rw [kidsD_succ (kids_dec hm d p n (by omega) (by omega))]
      simp only []
      rw [kid_dec hm (by omega), if_pos (by omega)]
theorem list_u64 (m : Nat) : ∀ q ∈ [listS m], ∀ x ∈ q, inR .u64 x := by
  intro q hq x hx
  simp only [List.mem_singleton] at hq
  subst hq
  simp only [listS, listG, List.cons_append, List.mem_cons, List.mem_append, List.mem_map, List.mem_replicate] at hx
  rcases hx with rfl | ⟨i, -, rfl⟩ | ⟨-, rfl⟩
  · exact encR_u64 _
  · exact encR_u64 _
  · simp [inR]
def listT (m : Nat) : Nd := .mk 2 6 [] [] (List.replicate m kidT)
theorem list_decT {m : Nat} (hm : m ≤ 200) : decT [listS m] = if 1 + (m : Int) + 101 * m ≤ 8192 then (listT m, 0) else (.nil, 22) := by
  unfold decT
  have hr : rightB [listS m] = true := decide_eq_true (by rw [list_len2]; simp only [totalP, List.length_singleton, listS_len]; omega)
  rw [hr, if_neg (by simp), nodeD_eq]
  unfold nodeK
  rw [list_follow hm]
  have hw : wordsO ⟨2, 0, 1, 0, 0, 6, (m : Int)⟩ = m := by unfold wordsO; rw [if_neg (by simp), wordsN_ob, wordsN_mk]; rfl
  have hk : (kidN ⟨2, 0, 1, 0, 0, 6, (m : Int)⟩).toNat = m := rfl
  have ha : kidA ⟨2, 0, 1, 0, 0, 6, (m : Int)⟩ = 1 := rfl
  have hF : nodeF (wholeS [listS m]) 32 0 = fun x y => nodeD (wholeS [listS m]) (30 + 1) 0 x y := rfl
  rw [if_neg (by simp), if_neg (by simp), hw, if_neg (by omega), hk, ha]
  simp only []
  rw [hF]
  by_cases h : 1 + (m : Int) + 101 * m ≤ 8192
  · rw [if_pos h, kids_dec hm 30 _ m (Nat.le_refl _) (by omega), if_neg (by simp)]
    rfl
  · have h2 := kids_much hm 30 (0 + (1 + (m : Int))) (by omega) m (Nat.le_refl _) (by omega)
    rw [if_neg h, h2, if_pos (by decide)]
theorem costL_rep : ∀ (n : Nat) (x : Int), 0 ≤ x → x + 101 * n ≤ 1000000 → Nd.costL (List.replicate n kidT) x = x + 101 * n
  | 0, x, _, _ => by simp [Nd.costL]
  | n + 1, x, h0, h1 => by
    have hk : kidT.cost = 101 := by decide +kernel
    rw [List.replicate_succ, Nd.costL, hk]
    unfold capM
    rw [if_neg (by omega), costL_rep n _ (by omega) (by omega)]
    omega
theorem list_cost {m : Nat} (hm : m ≤ 200) : (listT m).cost = 1 + (m : Int) + 101 * m := by
  have hn : (Nd.mk 2 6 [] [] (List.replicate m kidT)).need = (m : Int) := by simp [Nd.need]
  unfold listT
  rw [Nd.cost, hn, costL_rep _ _ (by omega) (by omega)]
theorem self_u64 {x : Int} (hx : inR .u64 x) : ∀ q ∈ [[x]], ∀ y ∈ q, inR .u64 y := by
  intro q hq y hy
  simp only [List.mem_singleton] at hq
  subst hq
  simp only [List.mem_singleton] at hy
  subst hy
  exact hx
theorem list_cells (m : Nat) {e : Int} (he : e = encR (listP m)) : (e :: (List.range m).map (kidE m)).map (Value.int .u64) ++ List.replicate 100 (.int .u64 0) = wordsV (listS m) := by
  subst he
  simp [wordsV, listS, listG]
theorem range_kid (m k : Nat) (e : Int) : (e :: (List.range (k + 1)).map (kidE m)).map (Value.int .u64) = (e :: (List.range k).map (kidE m)).map (Value.int .u64) ++ [.int .u64 (kidE m k)] := by
  simp [List.range_succ]
theorem listT_len (m : Nat) : (listT m).kids.length = m := by simp [listT, Nd.kids]
end Go.Proofs.Ytfhfecepcnapfaa.K
