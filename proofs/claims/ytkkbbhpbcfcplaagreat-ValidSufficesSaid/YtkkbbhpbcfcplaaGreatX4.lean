/- Plain laws, rules and walks of this claim's functions, laid together. -/
import Derived.Test.YtkkbbhpbcfcplaaGreatX3
import Derived.Laws.Strings
import Derived.Laws.Pointers
set_option linter.unusedVariables false
set_option linter.unusedSimpArgs false
set_option maxRecDepth 100000
namespace Go.Proofs.YtkkbbhpbcfcplaaGreat.K
open Go Go.RowKit Go.Proofs
attribute [local irreducible] Run1 OpG WL W AO zB6
theorem yF3 : ∀ (n_ : Nat) (w : World) {w0 : World} {d n cp : Nat} {ad : Option Addr} {xs : List Int} (R : RowAt w0 1 ad n (xs.map (.int .u8))) (g0 : Grow w0 w) (hn : n = xs.length) (hx : ∀ x ∈ xs, inR .u8 x) (hcp : n ≤ cp) (hcp2 : cp ≤ maxLen) (hd : d ≤ 100), d + 1 ≤ n_ → Calls Tryz.prog 20 #[.slice ad n cp, .int .i64 (d : Int)] w (Ret fun v w' => ∃ cells ad' n' c', v = .tuple #[.agg cells.toArray, .slice ad' n' c'] ∧ NodeR (hide w.heap.size w') cells (zE9 d xs).1 ∧ n' = (zE9 d xs).2.length ∧ n' ≤ c' ∧ c' ≤ maxLen ∧ RowAt w0 1 ad' n' ((zE9 d xs).2.map (.int .u8)) ∧ Grow w w') := by
 intro n_
 induction n_ with
 | zero => intro w w0 d n cp ad xs R g0 hn hx hcp hcp2 hd hm_; exact absurd hm_ (by have := Nat.succ_pos d; omega)
 | succ n_ ih_ =>
 intro w w0 d n cp ad xs R g0 hn hx hcp hcp2 hd hm_
 have G := Grow.rfl' w
 refine zC2 Tryz.func20 Tryz.ntmps20 Tryz.results20 rfl rfl ?_
 refine qZ 2 ?_
 refine stp (zA7 ?_)
 intro b1 w2 hb3 hc4 g5
 refine qZ 7 ?_
 refine stp (zD5 rfl rfl ?_)
 refine qZ 1 ?_
 refine qG 1 ?_
 refine zA3 (zB2 (s := .bool _) (v := .bool (decide ((d : Int) = 0))) rfl (zE3 _) (fun hc7 => ?_) ?_)
 ·
  have hc7_ := hc7
  try simp only [sb] at hc7_
  refine zD5 (gvt hc7) rfl ?_
  exact ⟨rfl, rfl⟩
 refine stp (zH6 rfl rfl rfl ?_)
 refine zA6 ?_
 have hge8 := Nat.le_trans G.size hb3
 replace G := G.tr g5
 clear g5 hb3
 refine zA2 (b := ((decide ((n : Int) = 0)) || (decide ((d : Int) = 0)))) rfl (fun h1 => ?_) (fun h1 => ?_)
 ·
  simp only [sb] at h1
  have hst : zE9 d xs = (.nil, xs) := yD1 (by rcases h1 with h | h; exact .inl (List.eq_nil_of_length_eq_zero (by omega)); exact .inr (by omega))
  refine qZ 2 ?_
  refine stp (zA9 (v := .agg #[.int .i64 0, .int .i64 0, .slice none 0 0, .slice none 0 0, .slice none 0 0]) (fun w => by kernel_rfl) ?_)
  refine qZ 1 ?_
  refine stn (qS hc4 ?_)
  intro w9 hc10 u11
  replace G := G.upd u11 hge8
  clear u11 hc4
  refine qZ 3 ?_
  rw [hst]
  refine ret2 (zA5 rfl hc10 (by rfl)) (zA1 (v := .slice ad n cp) rfl) ⟨[_, _, _, _, _], _, _, _, rfl, NodeR.zero _, hn, hcp, hcp2, R, G⟩
 ·
  simp only [sb] at h1
  obtain ⟨h1a, h1b⟩ := h1
  obtain ⟨d, rfl⟩ : ∃ e, d = e + 1 := ⟨d - 1, by omega⟩
  obtain ⟨k, c, rfl⟩ : ∃ k c, xs = k :: c := by cases xs with | nil => simp at hn; omega | cons k c => exact ⟨_, _, rfl⟩
  have hk := hx k (by simp)
  simp only [inR] at hk
  simp only [List.length_cons] at hn
  have hxc : ∀ x ∈ c, inR .u8 x := fun x h_ => hx x (by simp [h_])
  have hlim := R.lim
  have hnc : n - 1 = c.length := by omega
  refine qZ 4 ?_
  refine stp (zE7 ((R.grow g0).grow G) rfl rfl ?_ ?_ ?_); omega; omega
  refine stp (zC5 (v := .int .u8 k) (m := 0) ((R.grow g0).grow G) rfl rfl ?_)
  refine qZ 5 ?_
  refine stp (qZ9 rfl rfl (by omega) (by omega) ?_)
  have R1 := R.sliceLH (l := 1) (m := n - 1) hcp (by omega) (by omega)
  rw [show ((1 : Int).toNat) = 1 from rfl]
  generalize (if cp = 1 then ad else ad.map (·.add (1 * 1))) = ad1 at R1 ⊢
  have R2 : RowAt w0 1 ad1 (n - 1) (c.map (.int .u8)) := by
   have e_ : (List.take ((n - 1) * 1) (List.drop (1 * 1) (List.map (Value.int .u8) (k :: c)))) = c.map (.int .u8) := by simp only [Nat.mul_one, List.map_cons, List.drop_succ_cons, List.drop_zero]; rw [List.take_of_length_le (by rw [List.length_map]; omega)]
   rw [e_] at R1; exact R1
  clear R1
  refine qZ 4 ?_
  refine stp (zA9 (v := .agg #[.int .i64 0, .int .i64 0, .slice none 0 0, .slice none 0 0, .slice none 0 0]) (fun w => by kernel_rfl) ?_)
  refine stp (zA7 ?_)
  intro b12 w13 hb14 hc15 g16
  refine stn (qS hc15 ?_)
  intro w17 hc18 u19
  have g20 := g16.upd u19 hb14
  have hge21 := Nat.le_trans G.size hb14
  have ne22 := qN hc4 hb14
  replace hc4 := g20.heap hc4
  replace G := G.tr g20
  clear u19 g16 hb14 hc15
  refine qZ 4 ?_
  refine stp (qA0 rfl rfl ?_ ?_ ?_ ?_); omega; omega; (constructor <;> omega)
  refine stp (zP1 rfl rfl ?_ ?_ ?_); omega; omega
  refine stp (zF7 rfl ?_ ?_); constructor <;> omega
  refine qZ 6 ?_
  refine stp (zP1 rfl rfl ?_ ?_ ?_); omega; omega
  refine qZ 4 ?_
  refine stp (zD5 rfl rfl ?_)
  refine qZ 2 ?_
  refine zA2 (b := (decide ((k % 8) = 0))) rfl (fun h2 => ?_) (fun h2 => ?_)
  ·
   replace h2 := qT h2
   have ht : zE9 (d + 1) (k :: c) = (.nil, c) := by simp only [zE9]; rw [if_pos h2]
   refine qZ 4 ?_
   refine stn (qS hc4 ?_)
   intro w23 hc24 u25
   replace hc18 := u25.heap hc18 ne22.symm
   replace G := G.upd u25 hge8
   clear u25 hc4
   refine qZ 3 ?_
   rw [ht]
   refine ret2 (zA5 rfl hc24 (by rfl)) (zA1 (v := .slice ad1 (n - 1) (cp - 1)) rfl) ⟨[_, _, _, _, _], _, _, _, rfl, NodeR.zero _, hnc, by omega, by omega, R2, G⟩
  ·
   replace h2 := qF h2
   refine qZ 3 ?_
   refine stp (zD5 rfl rfl ?_)
   refine qZ 2 ?_
   refine zA2 (b := (decide ((k % 8) = 1))) rfl (fun h3 => ?_) (fun h3 => ?_)
   ·
    replace h3 := qT h3
    refine zX6 ?_
    refine zU8 (show _ = Value.bool true from congrArg Value.bool (decide_eq_true h3)) ?_
    refine qZ 3 ?_
    refine stn (zB9 (v := .int .i64 2) rfl rfl (by rfl) hc18 (by rfl) (by rfl) ?_)
    intro w26 hc27 u28
    replace hc4 := u28.heap hc4 ne22
    replace G := G.upd u28 hge21
    clear u28 hc18
    refine qZ 4 ?_
    refine stn (zB9 (v := .int .i64 2) rfl rfl (by rfl) hc27 (by rfl) (by rfl) ?_)
    intro w29 hc30 u31
    replace hc4 := u31.heap hc4 ne22
    replace G := G.upd u31 hge21
    clear u31 hc27
    refine qZ 6 ?_
    refine zF5 (fun m_ e_ w_ => ∃ (m : Nat) (ad3 : Option Addr) (n3 : Nat) (c3 : Nat), m_ = ((3 * (k / 8 % 5) + k % 2)).toNat - m ∧ Fr [(0, .slice ad1 (n - 1) (cp - 1)), (4, .pointer (some ⟨b1, 0, none⟩)), (5, .slice none 0 0), (6, .int .u8 k), (7, .pointer (some ⟨b12, 0, none⟩)), (8, .int .i64 ((k / 8) % 5)), (9, .int .i64 (m : Int))] e_ ∧ ((m : Int) ≤ (3 * (k / 8 % 5) + k % 2)) ∧ (w_.heap[b1]? = some (.cells #[.int .i64 0, .int .i64 0, .slice none 0 0, .slice none 0 0, .slice none 0 0] 48 (0, 0))) ∧ (w_.heap[b12]? = some (.cells #[.int .i64 2, .int .i64 2, .slice none 0 0, .slice ad3 n3 c3, .slice none 0 0] 48 (0, 0))) ∧ (w_.ownsRow w.heap.size 5 1 (.slice ad3 n3 c3) m ((List.range m).map fun i => .int .u8 (qQ1 k i))) ∧ Grow w w_) _ ⟨0, none, 0, 0, rfl, zC6 ⟨rfl, rfl, rfl, rfl, rfl, rfl, rfl, trivial⟩, by omega, hc4, hc30, World.ownsRow_nil _ _ _ _, G⟩ ?_
    clear hc4 hc30
    clear G
    rintro m_ e_ w32 ⟨m, ad3, n3, c3, rfl, ⟨e33, rfl⟩, hm, hc4, hc30, own, G⟩
    refine qZ 5 ?_
    refine stp (zZ9 rfl rfl ?_ ?_); constructor <;> omega
    refine qZ 1 ?_
    refine stp (zP1 rfl rfl ?_ ?_ ?_); omega; omega
    refine stp (zF7 rfl ?_ ?_); constructor <;> omega
    refine stp (zB5 rfl rfl ?_ ?_); constructor <;> omega
    refine stp (zF6 rfl rfl ?_)
    refine zA6 ?_
    refine zA2 (b := (decide ((m : Int) < ((3 * ((k / 8) % 5)) + (k % 2))))) rfl (fun hlt => ?_) (fun hlt => ?_)
    ·
     replace hlt := qT hlt
     refine qZ 8 ?_
     refine stp (zF7 rfl ?_ ?_); constructor <;> omega
     refine stp (zG6 rfl rfl ?_)
     refine stp (zC3 (cs := #[.int .u8 (qQ1 k m)]) (el := 5) (fun w => by kernel_rfl) ?_)
     intro bs34 w35 hb36 hc37 g38
     have hge39 := Nat.le_trans G.size hb36
     have ne40 := qN hc4 hb36
     have ne41 := qN hc30 hb36
     replace hc4 := g38.heap hc4
     replace hc30 := g38.heap hc30
     replace own := zB7 own g38
     replace G := G.tr g38
     clear g38
     refine stp (zG1 rfl rfl rfl rfl own (Row.of_block (n := 1) hc37 rfl rfl (by omega)) (fun q_ hq_ => by simp at hq_; subst hq_; rfl) (by simp only [maxLen]; omega) (by omega) G.size ?_)
     intro v42 w43 own6 gr6
     replace G := G.grown gr6 (zH8 own)
     replace hc4 := zI1 gr6 hc4 (zF3 own hc4 (by decide))
     replace hc30 := zI1 gr6 hc30 (zF3 own hc30 (by decide))
     clear own gr6
     obtain ⟨ad4, n4, c4, rfl⟩ := zE0 own6
     refine qZ 1 ?_
     refine stn (zB9 (v := .slice ad4 n4 c4) rfl rfl (by rfl) hc30 (by rfl) (by rfl) ?_)
     intro w44 hc45 u46
     replace hc4 := u46.heap hc4 ne22
     replace own6 := zG5 own6 u46 (zF3 own6 hc30 (by decide))
     replace G := G.upd u46 hge21
     clear u46 hc30
     refine qZ 3 ?_
     refine stp (zB5 rfl rfl ?_ ?_); constructor <;> omega
     refine qZ 2 ?_
     refine ⟨_, ?_, m + 1, ad4, n4, c4, rfl, zC6 ⟨rfl, rfl, rfl, rfl, rfl, rfl, congrArg (Value.int .i64) (by omega), trivial⟩, by omega, hc4, hc45, (by rw [List.range_succ, List.map_append]; exact own6), G⟩
     omega
    ·
     replace hlt := qF hlt
     have hm2 : m = (3 * (k / 8 % 5) + k % 2).toNat := by omega
     have ht : zE9 (d + 1) (k :: c) = (.mk 2 2 [] ((List.range (3 * (k / 8 % 5) + k % 2).toNat).map (qQ1 k)) [], c) := by simp only [zE9]; rw [if_neg h2, if_pos (by omega)]
     refine qZ 5 ?_
     refine stn (qS hc4 ?_)
     intro w47 hc48 u49
     replace hc30 := u49.heap hc30 ne22.symm
     replace own := zG5 own u49 (zF3 own hc4 (by decide))
     replace G := G.upd u49 hge8
     clear u49 hc4
     refine qZ 3 ?_
     rw [ht]
     refine ret2 (zA5 rfl hc48 (by rfl)) (zA1 (v := .slice ad1 (n - 1) (cp - 1)) rfl) ⟨[_, _, _, _, _], _, _, _, rfl, .mk (by simp [inR]) (by simp [inR]) (Row.nil _ _) (by simp) (zO4 own hm2 (by omega)) (fun x hx_ => by obtain ⟨i, _, rfl⟩ := List.mem_map.1 hx_; exact qM7 _) (Row.nil _ _) .nil, hnc, (by omega), (by omega), R2, G⟩
   ·
    replace h3 := qF h3
    refine zZ6 rfl ?_
    refine stp (zD5 rfl rfl ?_)
    refine qZ 2 ?_
    refine zA2 (b := (decide ((k % 8) = 2))) rfl (fun h4 => ?_) (fun h4 => ?_)
    ·
     replace h4 := qT h4
     refine qZ 3 ?_
     refine stn (zB9 (v := .int .i64 2) rfl rfl (by rfl) hc18 (by rfl) (by rfl) ?_)
     intro w50 hc51 u52
     replace hc4 := u52.heap hc4 ne22
     replace G := G.upd u52 hge21
     clear u52 hc18
     refine qZ 4 ?_
     refine stn (zB9 (v := .int .i64 2) rfl rfl (by rfl) hc51 (by rfl) (by rfl) ?_)
     intro w53 hc54 u55
     replace hc4 := u55.heap hc4 ne22
     replace G := G.upd u55 hge21
     clear u55 hc51
     refine qZ 6 ?_
     refine zF5 (fun m_ e_ w_ => ∃ (m : Nat) (ad3 : Option Addr) (n3 : Nat) (c3 : Nat), m_ = ((3 * (k / 8 % 5) + k % 2)).toNat - m ∧ Fr [(0, .slice ad1 (n - 1) (cp - 1)), (4, .pointer (some ⟨b1, 0, none⟩)), (5, .slice none 0 0), (6, .int .u8 k), (7, .pointer (some ⟨b12, 0, none⟩)), (8, .int .i64 ((k / 8) % 5)), (9, .int .i64 (m : Int))] e_ ∧ ((m : Int) ≤ (3 * (k / 8 % 5) + k % 2)) ∧ (w_.heap[b1]? = some (.cells #[.int .i64 0, .int .i64 0, .slice none 0 0, .slice none 0 0, .slice none 0 0] 48 (0, 0))) ∧ (w_.heap[b12]? = some (.cells #[.int .i64 2, .int .i64 2, .slice none 0 0, .slice ad3 n3 c3, .slice none 0 0] 48 (0, 0))) ∧ (w_.ownsRow w.heap.size 5 1 (.slice ad3 n3 c3) m ((List.range m).map fun i => .int .u8 (qQ1 k i))) ∧ Grow w w_) _ ⟨0, none, 0, 0, rfl, zC6 ⟨rfl, rfl, rfl, rfl, rfl, rfl, rfl, trivial⟩, by omega, hc4, hc54, World.ownsRow_nil _ _ _ _, G⟩ ?_
     clear hc4 hc54
     clear G
     rintro m_ e_ w56 ⟨m, ad3, n3, c3, rfl, ⟨e57, rfl⟩, hm, hc4, hc54, own, G⟩
     refine qZ 5 ?_
     refine stp (zZ9 rfl rfl ?_ ?_); constructor <;> omega
     refine qZ 1 ?_
     refine stp (zP1 rfl rfl ?_ ?_ ?_); omega; omega
     refine stp (zF7 rfl ?_ ?_); constructor <;> omega
     refine stp (zB5 rfl rfl ?_ ?_); constructor <;> omega
     refine stp (zF6 rfl rfl ?_)
     refine zA6 ?_
     refine zA2 (b := (decide ((m : Int) < ((3 * ((k / 8) % 5)) + (k % 2))))) rfl (fun hlt => ?_) (fun hlt => ?_)
     ·
      replace hlt := qT hlt
      refine qZ 8 ?_
      refine stp (zF7 rfl ?_ ?_); constructor <;> omega
      refine stp (zG6 rfl rfl ?_)
      refine stp (zC3 (cs := #[.int .u8 (qQ1 k m)]) (el := 5) (fun w => by kernel_rfl) ?_)
      intro bs58 w59 hb60 hc61 g62
      have hge63 := Nat.le_trans G.size hb60
      have ne64 := qN hc4 hb60
      have ne65 := qN hc54 hb60
      replace hc4 := g62.heap hc4
      replace hc54 := g62.heap hc54
      replace own := zB7 own g62
      replace G := G.tr g62
      clear g62
      refine stp (zG1 rfl rfl rfl rfl own (Row.of_block (n := 1) hc61 rfl rfl (by omega)) (fun q_ hq_ => by simp at hq_; subst hq_; rfl) (by simp only [maxLen]; omega) (by omega) G.size ?_)
      intro v66 w67 own6 gr6
      replace G := G.grown gr6 (zH8 own)
      replace hc4 := zI1 gr6 hc4 (zF3 own hc4 (by decide))
      replace hc54 := zI1 gr6 hc54 (zF3 own hc54 (by decide))
      clear own gr6
      obtain ⟨ad4, n4, c4, rfl⟩ := zE0 own6
      refine qZ 1 ?_
      refine stn (zB9 (v := .slice ad4 n4 c4) rfl rfl (by rfl) hc54 (by rfl) (by rfl) ?_)
      intro w68 hc69 u70
      replace hc4 := u70.heap hc4 ne22
      replace own6 := zG5 own6 u70 (zF3 own6 hc54 (by decide))
      replace G := G.upd u70 hge21
      clear u70 hc54
      refine qZ 3 ?_
      refine stp (zB5 rfl rfl ?_ ?_); constructor <;> omega
      refine qZ 2 ?_
      refine ⟨_, ?_, m + 1, ad4, n4, c4, rfl, zC6 ⟨rfl, rfl, rfl, rfl, rfl, rfl, congrArg (Value.int .i64) (by omega), trivial⟩, by omega, hc4, hc69, (by rw [List.range_succ, List.map_append]; exact own6), G⟩
      omega
     ·
      replace hlt := qF hlt
      have hm2 : m = (3 * (k / 8 % 5) + k % 2).toNat := by omega
      have ht : zE9 (d + 1) (k :: c) = (.mk 2 2 [] ((List.range (3 * (k / 8 % 5) + k % 2).toNat).map (qQ1 k)) [], c) := by simp only [zE9]; rw [if_neg h2, if_pos (by omega)]
      refine qZ 5 ?_
      refine stn (qS hc4 ?_)
      intro w71 hc72 u73
      replace hc54 := u73.heap hc54 ne22.symm
      replace own := zG5 own u73 (zF3 own hc4 (by decide))
      replace G := G.upd u73 hge8
      clear u73 hc4
      refine qZ 3 ?_
      rw [ht]
      refine ret2 (zA5 rfl hc72 (by rfl)) (zA1 (v := .slice ad1 (n - 1) (cp - 1)) rfl) ⟨[_, _, _, _, _], _, _, _, rfl, .mk (by simp [inR]) (by simp [inR]) (Row.nil _ _) (by simp) (zO4 own hm2 (by omega)) (fun x hx_ => by obtain ⟨i, _, rfl⟩ := List.mem_map.1 hx_; exact qM7 _) (Row.nil _ _) .nil, hnc, (by omega), (by omega), R2, G⟩
    ·
     replace h4 := qF h4
     refine qZ 2 ?_
     refine stp (zD5 rfl rfl ?_)
     refine qZ 2 ?_
     refine zA2 (b := (decide ((k % 8) = 3))) rfl (fun h5 => ?_) (fun h5 => ?_)
     ·
      replace h5 := qT h5
      refine qZ 3 ?_
      refine stn (zB9 (v := .int .i64 2) rfl rfl (by rfl) hc18 (by rfl) (by rfl) ?_)
      intro w74 hc75 u76
      replace hc4 := u76.heap hc4 ne22
      replace G := G.upd u76 hge21
      clear u76 hc18
      refine qZ 4 ?_
      refine stn (zB9 (v := .int .i64 5) rfl rfl (by rfl) hc75 (by rfl) (by rfl) ?_)
      intro w77 hc78 u79
      replace hc4 := u79.heap hc4 ne22
      replace G := G.upd u79 hge21
      clear u79 hc75
      refine qZ 6 ?_
      refine zF5 (fun m_ e_ w_ => ∃ (m : Nat) (ad3 : Option Addr) (n3 : Nat) (c3 : Nat), m_ = ((k / 8 % 5)).toNat - m ∧ Fr [(0, .slice ad1 (n - 1) (cp - 1)), (4, .pointer (some ⟨b1, 0, none⟩)), (5, .slice none 0 0), (6, .int .u8 k), (7, .pointer (some ⟨b12, 0, none⟩)), (8, .int .i64 ((k / 8) % 5)), (10, .int .i64 (m : Int))] e_ ∧ ((m : Int) ≤ (k / 8 % 5)) ∧ (w_.heap[b1]? = some (.cells #[.int .i64 0, .int .i64 0, .slice none 0 0, .slice none 0 0, .slice none 0 0] 48 (0, 0))) ∧ (w_.heap[b12]? = some (.cells #[.int .i64 2, .int .i64 5, .slice ad3 n3 c3, .slice none 0 0, .slice none 0 0] 48 (0, 0))) ∧ (w_.ownsRow w.heap.size 23 1 (.slice ad3 n3 c3) m ((List.range m).map fun i => .int .u64 (qQ2 k i))) ∧ Grow w w_) _ ⟨0, none, 0, 0, rfl, zC6 ⟨rfl, rfl, rfl, rfl, rfl, rfl, rfl, trivial⟩, by omega, hc4, hc78, World.ownsRow_nil _ _ _ _, G⟩ ?_
      clear hc4 hc78
      clear G
      rintro m_ e_ w80 ⟨m, ad3, n3, c3, rfl, ⟨e81, rfl⟩, hm, hc4, hc78, own, G⟩
      refine qZ 5 ?_
      refine stp (zF6 rfl rfl ?_)
      refine zA6 ?_
      refine zA2 (b := (decide ((m : Int) < ((k / 8) % 5)))) rfl (fun hlt => ?_) (fun hlt => ?_)
      ·
       replace hlt := qT hlt
       refine qZ 7 ?_
       refine stp (zF7 rfl ?_ ?_); constructor <;> omega
       refine stp (zU5 rfl rfl ?_)
       refine qZ 1 ?_
       refine stp (zF7 rfl ?_ ?_); constructor <;> omega
       refine stp (zG6 rfl rfl ?_)
       refine stp (zC3 (cs := #[.int .u64 (qQ2 k m)]) (el := 23) (fun w => by kernel_rfl) ?_)
       intro bs82 w83 hb84 hc85 g86
       have hge87 := Nat.le_trans G.size hb84
       have ne88 := qN hc4 hb84
       have ne89 := qN hc78 hb84
       replace hc4 := g86.heap hc4
       replace hc78 := g86.heap hc78
       replace own := zB7 own g86
       replace G := G.tr g86
       clear g86
       refine stp (zG1 rfl rfl rfl rfl own (Row.of_block (n := 1) hc85 rfl rfl (by omega)) (fun q_ hq_ => by simp at hq_; subst hq_; rfl) (by simp only [maxLen]; omega) (by omega) G.size ?_)
       intro v90 w91 own6 gr6
       replace G := G.grown gr6 (zH8 own)
       replace hc4 := zI1 gr6 hc4 (zF3 own hc4 (by decide))
       replace hc78 := zI1 gr6 hc78 (zF3 own hc78 (by decide))
       clear own gr6
       obtain ⟨ad4, n4, c4, rfl⟩ := zE0 own6
       refine qZ 1 ?_
       refine stn (zB9 (v := .slice ad4 n4 c4) rfl rfl (by rfl) hc78 (by rfl) (by rfl) ?_)
       intro w92 hc93 u94
       replace hc4 := u94.heap hc4 ne22
       replace own6 := zG5 own6 u94 (zF3 own6 hc78 (by decide))
       replace G := G.upd u94 hge21
       clear u94 hc78
       refine qZ 3 ?_
       refine stp (zB5 rfl rfl ?_ ?_); constructor <;> omega
       refine qZ 2 ?_
       refine ⟨_, ?_, m + 1, ad4, n4, c4, rfl, zC6 ⟨rfl, rfl, rfl, rfl, rfl, rfl, congrArg (Value.int .i64) (by omega), trivial⟩, by omega, hc4, hc93, (by rw [List.range_succ, List.map_append]; exact own6), G⟩
       omega
      ·
       replace hlt := qF hlt
       have hm2 : m = (k / 8 % 5).toNat := by omega
       have ht : zE9 (d + 1) (k :: c) = (.mk 2 5 ((List.range (k / 8 % 5).toNat).map (qQ2 k)) [] [], c) := by simp only [zE9]; rw [if_neg h2, if_neg (by omega), if_pos h5]
       refine qZ 5 ?_
       refine stn (qS hc4 ?_)
       intro w95 hc96 u97
       replace hc78 := u97.heap hc78 ne22.symm
       replace own := zG5 own u97 (zF3 own hc4 (by decide))
       replace G := G.upd u97 hge8
       clear u97 hc4
       refine qZ 3 ?_
       rw [ht]
       refine ret2 (zA5 rfl hc96 (by rfl)) (zA1 (v := .slice ad1 (n - 1) (cp - 1)) rfl) ⟨[_, _, _, _, _], _, _, _, rfl, .mk (by simp [inR]) (by simp [inR]) (zO4 own hm2 (by omega)) (fun x hx_ => by obtain ⟨i, _, rfl⟩ := List.mem_map.1 hx_; exact zV6 _) (Row.nil _ _) (by simp) (Row.nil _ _) .nil, hnc, (by omega), (by omega), R2, G⟩
     ·
      replace h5 := qF h5
      refine qZ 3 ?_
      refine stn (zB9 (v := .int .i64 1) rfl rfl (by rfl) hc18 (by rfl) (by rfl) ?_)
      intro w98 hc99 u100
      replace hc4 := u100.heap hc4 ne22
      replace G := G.upd u100 hge21
      clear u100 hc18
      refine qZ 5 ?_
      refine stp (zP1 rfl rfl ?_ ?_ ?_); omega; omega
      refine stp (zN7 rfl rfl ?_)
      refine zA6 ?_
      refine zA2 (b := (decide ((k % 8) > 6))) rfl (fun h6 => ?_) (fun h6 => ?_)
      ·
       replace h6 := qT h6
       refine qZ 3 ?_
       refine stn (zB9 (v := .int .i64 2) rfl rfl (by rfl) hc99 (by rfl) (by rfl) ?_)
       intro w101 hc102 u103
       replace hc4 := u103.heap hc4 ne22
       replace G := G.upd u103 hge21
       clear u103 hc99
       refine qZ 3 ?_
       refine stn (zB9 (v := .int .i64 6) rfl rfl (by rfl) hc102 (by rfl) (by rfl) ?_)
       intro w104 hc105 u106
       replace hc4 := u106.heap hc4 ne22
       replace G := G.upd u106 hge21
       clear u106 hc102
       refine qZ 7 ?_
       refine zF5 (fun m_ e_ w_ => m_ = 0 ∧ Fr [(0, .slice ad1 (n - 1) (cp - 1)), (1, .int .i64 ((d + 1 : Nat) : Int)), (4, .pointer (some ⟨b1, 0, none⟩)), (5, .slice none 0 0), (6, .int .u8 k), (7, .pointer (some ⟨b12, 0, none⟩)), (8, .int .i64 ((k / 8) % 5)), (11, .int .i64 0)] e_ ∧ (w_.heap[b1]? = some (.cells #[.int .i64 0, .int .i64 0, .slice none 0 0, .slice none 0 0, .slice none 0 0] 48 (0, 0))) ∧ (w_.heap[b12]? = some (.cells #[.int .i64 2, .int .i64 6, .slice none 0 0, .slice none 0 0, .slice none 0 0] 48 (0, 0))) ∧ Grow w w_) _ ⟨rfl, zC6 ⟨rfl, rfl, rfl, rfl, rfl, rfl, rfl, rfl, trivial⟩, hc4, hc105, G⟩ ?_
       clear hc4 hc105
       clear G
       rintro m_ e_ w107 ⟨rfl, ⟨e108, rfl⟩, hc4, hc105, G⟩
       refine qZ 5 ?_
       refine stp (qA0 rfl rfl ?_ ?_ ?_ ?_); omega; omega; (constructor <;> omega)
       refine stp (zF7 rfl ?_ ?_); constructor <;> omega
       refine stp (zF6 rfl rfl ?_)
       refine qZ 1 ?_
       refine qG 2 ?_
       refine zA3 (zB2 (s := .bool _) (v := .bool false) rfl (zE2 _) (fun hc111 => ?_) ?_)
       ·
        have hc111_ := qT hc111
        refine qU5 (gvt hc111) rfl (by decide) ?_
        exact ⟨rfl, rfl⟩
       refine stp (zG8 rfl rfl rfl ?_)
       refine zA6 ?_
       refine zN5 (show _ = Value.bool false from congrArg Value.bool (by simp)) ?_
       refine qZ 6 ?_
       obtain ⟨B, hB⟩ : ∃ B, B = w107.heap.size := ⟨_, rfl⟩
       have hB7 : b12 < B := by rw [hB]; exact zC1 hc105
       have hwB : w.heap.size ≤ B := by rw [hB]; exact G.size
       have hBw : B ≤ w107.heap.size := by rw [hB]; exact Nat.le_refl _
       have hB4 : b1 < B := by rw [hB]; exact zC1 hc4
       clear hB
       have hc1 : (zH0 (zE9 d) 0 c).2 = c := rfl
       refine zF5 (fun m_ e_ w_ => ∃ (j : Nat) (ad5 : Option Addr) (n5 : Nat) (c5 : Nat) (ad6 : Option Addr) (n6 : Nat) (c6 : Nat) (kc : List Value) (V : Nat → Prop), m_ = (k / 8 % 5).toNat - j ∧ Fr [(1, .int .i64 ((d + 1 : Nat) : Int)), (4, .pointer (some ⟨b1, 0, none⟩)), (5, .slice none 0 0), (7, .pointer (some ⟨b12, 0, none⟩)), (8, .int .i64 ((k / 8) % 5)), (12, .int .i64 (j : Int)), (0, .slice ad5 n5 c5)] e_ ∧ ((j : Int) ≤ (k / 8 % 5)) ∧ (n5 = (zH0 (zE9 d) j c).2.length) ∧ (n5 ≤ c5) ∧ (c5 ≤ maxLen) ∧ (RowAt w0 1 ad5 n5 ((zH0 (zE9 d) j c).2.map (.int .u8))) ∧ (∀ x, (Value.slice ad6 n6 c6).ownBlock = some x → ¬ V x) ∧ (w_.heap[b1]? = some (.cells #[.int .i64 0, .int .i64 0, .slice none 0 0, .slice none 0 0, .slice none 0 0] 48 (0, 0))) ∧ (w_.heap[b12]? = some (.cells #[.int .i64 2, .int .i64 6, .slice none 0 0, .slice none 0 0, .slice ad6 n6 c6] 48 (0, 0))) ∧ (B ≤ w_.heap.size) ∧ (w_.ownsRow B 48 5 (.slice ad6 n6 c6) j kc) ∧ (∀ x, V x → B ≤ x ∧ x < w_.heap.size) ∧ (KidsR (see V w_) kc (zH0 (zE9 d) j c).1) ∧ Grow w w_) _ ⟨0, ad1, n - 1, cp - 1, none, 0, 0, [], fun _ => False, rfl, zC6 ⟨rfl, rfl, rfl, rfl, rfl, rfl, rfl, trivial⟩, by omega, hnc, by omega, by omega, R2, fun x _ h_ => h_, hc4, hc105, hBw, World.ownsRow_nil _ _ _ _, fun x h_ => h_.elim, .nil, G⟩ ?_
       clear hc4 hc105
       clear G
       rintro m_ e_ w112 ⟨j, ad5, n5, c5, ad6, n6, c6, kc, V, rfl, ⟨e113, rfl⟩, hj, hn5, hc5, hc52, hR5, hVo, hc4, hc105, hBw, ownk, hV, hK, G⟩
       refine qZ 5 ?_
       refine stp (zF6 rfl rfl ?_)
       refine zA6 ?_
       refine zA2 (b := (decide ((j : Int) < ((k / 8) % 5)))) rfl (fun hlt => ?_) (fun hlt => ?_)
       ·
        replace hlt := qT hlt
        refine qZ 7 ?_
        refine stp (zM9 rfl rfl ?_ ?_); constructor <;> omega
        refine stp ?_
        have hBw0 := hBw
        have hol := fun x hx_ => (ownk.lt x hx_).2
        have hcal := ih_ _ (d := d) hR5 (g0.tr G) hn5 (zY8 d j c hxc) hc5 hc52 (by omega) (by omega)
        rw [show ((d : Nat) : Int) = ((d + 1 : Nat) : Int) - 1 from by omega] at hcal
        refine zD7 rfl hcal ?_
        rintro v_ w114 ⟨cells, ad9, n9, c9, rfl, hT9, hn9, hc9, hc92, hR9, g_⟩
        have hsz9 := zC1 hc105
        replace hc4 := g_.heap hc4
        replace hc105 := g_.heap hc105
        replace hBw := Nat.le_trans hBw g_.size
        replace ownk := zB7 ownk g_
        replace hV := vlt hV g_.size
        replace hK := hK.sees (Sees.grow g_)
        replace G := G.tr g_
        clear g_
        obtain ⟨y0, y1, ya, yn, yc, za, zn, zc, ua, un, uc, rfl⟩ := hT9.cells
        have hT8 := hT9.sees (Sees.more (V' := fun x => V x ∨ (w112.heap.size ≤ x ∧ x < w114.heap.size)) w114 (fun x h1_ h2_ => .inr ⟨h2_, h1_⟩))
        clear hT9
        replace hK := hK.sees (Sees.more (V' := fun x => V x ∨ (w112.heap.size ≤ x ∧ x < w114.heap.size)) w114 (fun x _ h2_ => .inl h2_))
        have hV9 : ∀ x, (V x ∨ (w112.heap.size ≤ x ∧ x < w114.heap.size)) → B ≤ x ∧ x < w114.heap.size := fun x hx_ => hx_.elim (fun h_ => hV x h_) (fun h_ => ⟨Nat.le_trans hBw0 h_.1, h_.2⟩)
        have hVo9 : ∀ x, (Value.slice ad6 n6 c6).ownBlock = some x → ¬ (V x ∨ (w112.heap.size ≤ x ∧ x < w114.heap.size)) := fun x hx_ hv_ => hv_.elim (hVo x hx_) (fun h_ => by have := (hol x hx_); omega)
        clear hV hVo
        obtain ⟨V9, hV9e⟩ : ∃ V9 : Nat → Prop, V9 = fun x => V x ∨ (w112.heap.size ≤ x ∧ x < w114.heap.size) := ⟨_, rfl⟩
        rw [← hV9e] at hT8 hK
        have hV : ∀ x, V9 x → B ≤ x ∧ x < w114.heap.size := by rw [hV9e]; exact hV9
        have hVo : ∀ x, (Value.slice ad6 n6 c6).ownBlock = some x → ¬ V9 x := by rw [hV9e]; exact hVo9
        clear hV9 hVo9 hV9e hBw0 hol
        refine qZ 3 ?_
        refine stp (zA7 ?_)
        intro b115 w116 hb117 hc118 g119
        refine stn (qS hc118 ?_)
        intro w120 hc121 u122
        have g123 := g119.upd u122 hb117
        have hge124 := Nat.le_trans G.size hb117
        have ne125 := qN hc4 hb117
        have ne126 := qN hc105 hb117
        replace hc4 := g123.heap hc4
        replace hc105 := g123.heap hc105
        replace hBw := Nat.le_trans hBw g123.size
        replace ownk := zB7 ownk g123
        replace hK := hK.sees (Sees.grow g123)
        replace hT8 := hT8.sees (Sees.grow g123)
        replace hV := vlt hV g123.size
        replace G := G.tr g123
        clear u122 g119 hb117 hc118
        refine qZ 11 ?_
        refine stp (zC3 (cs := #[.int .i64 y0, .int .i64 y1, .slice ya yn yc, .slice za zn zc, .slice ua un uc]) (el := 48) (fun w => by kernel_rfl) ?_)
        intro bs127 w128 hb129 hc130 g131
        have hge132 := Nat.le_trans G.size hb129
        have ne133 := qN hc4 hb129
        have ne134 := qN hc105 hb129
        have ne135 := qN hc121 hb129
        replace hc4 := g131.heap hc4
        replace hc105 := g131.heap hc105
        replace hBw := Nat.le_trans hBw g131.size
        replace ownk := zB7 ownk g131
        replace hK := hK.sees (Sees.grow g131)
        replace hT8 := hT8.sees (Sees.grow g131)
        replace hV := vlt hV g131.size
        replace hc121 := g131.heap hc121
        replace G := G.tr g131
        clear g131
        refine stp (qG6 rfl rfl rfl rfl ownk (Row.of_block (n := 1) hc130 rfl rfl (by omega)) (fun q_ hq_ => by simp at hq_; rcases hq_ with rfl | rfl | rfl | rfl | rfl <;> rfl) (by simp only [maxLen]; omega) (by omega) hBw ?_)
        intro v136 w137 own6 gr6 hbk6
        have k6_ : Kp (Value.slice ad6 n6 c6).ownBlock.toList w128 w137 := Kp.of_grownBy gr6 (fun k_ hk_ => by rw [Option.mem_toList]; exact hk_)
        have hF6 : ∀ x ∈ (Value.slice ad6 n6 c6).ownBlock.toList, B ≤ x := fun x hx_ => zH8 ownk x (Option.mem_toList.1 hx_)
        have hF7 : ∀ x ∈ (Value.slice ad6 n6 c6).ownBlock.toList, ¬ V9 x := fun x hx_ => hVo x (Option.mem_toList.1 hx_)
        replace hT8 := hT8.sees (Sees.kp k6_ hF7)
        replace hK := hK.sees (Sees.kp k6_ hF7)
        have hVo6 : ∀ x, v136.ownBlock = some x → ¬ V9 x := fun x hx_ hv_ => hbk6.elim (fun h_ => hVo x (h_ ▸ hx_) hv_) (fun h_ => by rw [h_] at hx_; simp only [Option.some.injEq] at hx_; have := (hV x hv_).2; omega)
        replace hV := fun x hx_ => (⟨(hV x hx_).1, Nat.lt_of_lt_of_le (hV x hx_).2 k6_.size⟩ : B ≤ x ∧ x < w137.heap.size)
        replace G := G.trK k6_ (fun x hx_ => Nat.le_trans hwB (hF6 x hx_))
        clear hc121
        replace hc4 := k6_.heap hc4 (fun hm_ => by have h1_ := hF6 _ hm_; have := hB4; omega)
        replace hc105 := k6_.heap hc105 (fun hm_ => by have h1_ := hF6 _ hm_; omega)
        replace hBw := Nat.le_trans hBw k6_.size
        clear ownk gr6 hVo k6_ hF6 hF7 hbk6
        obtain ⟨ad7, n7, c7, rfl⟩ := zE0 own6
        refine qZ 1 ?_
        refine stn (zB9 (v := .slice ad7 n7 c7) rfl rfl (by rfl) hc105 (by rfl) (by rfl) ?_)
        intro w138 hc139 u140
        replace hc4 := u140.heap hc4 ne22
        replace own6 := zG5 own6 u140 (fun he_ => by have := zH8 own6 _ he_; omega)
        replace hT8 := hT8.sees (Sees.upd u140 (fun h_ => by have := (hV _ h_).1; omega))
        replace hK := hK.sees (Sees.upd u140 (fun h_ => by have := (hV _ h_).1; omega))
        replace hV := fun x hx_ => (⟨(hV x hx_).1, Nat.lt_of_lt_of_le (hV x hx_).2 (Nat.le_of_eq u140.size.symm)⟩ : B ≤ x ∧ x < w138.heap.size)
        replace hBw : B ≤ w138.heap.size := by rw [u140.size]; exact hBw
        replace G := G.upd u140 hge21
        clear hc105
        refine qZ 3 ?_
        refine stp (zB5 rfl rfl ?_ ?_); constructor <;> omega
        refine qZ 2 ?_
        refine ⟨_, ?_, j + 1, ad9, n9, c9, ad7, n7, c7, _, V9, rfl, zC6 ⟨rfl, rfl, rfl, rfl, rfl, congrArg (Value.int .i64) (by omega), rfl, trivial⟩, by omega, hn9, hc9, hc92, hR9, hVo6, hc4, hc139, hBw, own6, hV, (KidsR.append hK (by have := KidsR.cons hT8 .nil; simpa using this)), G⟩
        omega
       ·
        replace hlt := qF hlt
        have hj2 : j = (k / 8 % 5).toNat := by omega
        have hlk := zN2 (zE9 d) j c
        have hrk : Row (hide B w112) 5 (.slice ad6 n6 c6) (zH0 (zE9 d) j c).1.length kc := by rw [hlk]; exact zX1 ownk (by omega)
        have hK9 := hK.sees (Sees.more (V' := fun x => B ≤ x) _ (fun x _ hx_ => (hV x hx_).1))
        clear hK hV
        have ht : zE9 (d + 1) (k :: c) = (.mk 2 6 [] [] (zH0 (zE9 d) j c).1, (zH0 (zE9 d) j c).2) := by simp only [zE9]; rw [if_neg h2, if_neg (by omega), if_neg h5, if_pos h6, ← hj2]
        refine qZ 5 ?_
        refine stn (qS hc4 ?_)
        intro w141 hc142 u143
        replace hc105 := u143.heap hc105 ne22.symm
        replace hrk := hrk.sees (Sees.upd u143 (fun h_ => by omega))
        replace hK9 := hK9.sees (Sees.upd u143 (fun h_ => by omega))
        replace G := G.upd u143 hge8
        clear u143 hc4
        refine qZ 3 ?_
        rw [ht]
        refine ret2 (zA5 rfl hc142 (by rfl)) (zA1 (v := .slice ad5 n5 c5) rfl) ⟨[_, _, _, _, _], _, _, _, rfl, .mk (by simp [inR]) (by simp [inR]) (Row.nil _ _) (by simp) (Row.nil _ _) (by simp) (hrk.sees (Sees.low hwB _)) (hK9.sees (Sees.low hwB _)), hn5, hc5, hc52, hR5, G⟩
      ·
       replace h6 := qF h6
       have hkd6 : ¬ k % 8 > 6 := h6
       refine qZ 7 ?_
       refine zF5 (fun m_ e_ w_ => ∃ (m : Nat) (ad3 : Option Addr) (n3 : Nat) (c3 : Nat), m_ = ((k / 64)).toNat - m ∧ Fr [(0, .slice ad1 (n - 1) (cp - 1)), (1, .int .i64 ((d + 1 : Nat) : Int)), (4, .pointer (some ⟨b1, 0, none⟩)), (5, .slice none 0 0), (6, .int .u8 k), (7, .pointer (some ⟨b12, 0, none⟩)), (8, .int .i64 ((k / 8) % 5)), (11, .int .i64 (m : Int))] e_ ∧ ((m : Int) ≤ (k / 64)) ∧ (w_.heap[b1]? = some (.cells #[.int .i64 0, .int .i64 0, .slice none 0 0, .slice none 0 0, .slice none 0 0] 48 (0, 0))) ∧ (w_.heap[b12]? = some (.cells #[.int .i64 1, .int .i64 0, .slice ad3 n3 c3, .slice none 0 0, .slice none 0 0] 48 (0, 0))) ∧ (w_.ownsRow w.heap.size 23 1 (.slice ad3 n3 c3) m ((List.range m).map fun i => .int .u64 (qK4 k i))) ∧ Grow w w_) _ ⟨0, none, 0, 0, rfl, zC6 ⟨rfl, rfl, rfl, rfl, rfl, rfl, rfl, rfl, trivial⟩, by omega, hc4, hc99, World.ownsRow_nil _ _ _ _, G⟩ ?_
       clear hc4 hc99
       clear G
       rintro m_ e_ w144 ⟨m, ad3, n3, c3, rfl, ⟨e145, rfl⟩, hm, hc4, hc99, own, G⟩
       refine qZ 5 ?_
       refine stp (qA0 rfl rfl ?_ ?_ ?_ ?_); omega; omega; (constructor <;> omega)
       refine stp (zF7 rfl ?_ ?_); constructor <;> omega
       refine stp (zF6 rfl rfl ?_)
       refine qZ 1 ?_
       refine qG 2 ?_
       refine zA3 (zB2 (s := .bool _) (v := .bool true) rfl (zE2 _) (fun hc148 => ?_) ?_)
       ·
        have hc148_ := qT hc148
        refine zT1 (gvt hc148) rfl (by decide) ?_
        exact ⟨rfl, rfl⟩
       refine stp (zG8 rfl rfl rfl ?_)
       refine zA6 ?_
       refine zA2 (b := ((decide ((m : Int) < (k / 64))) && true)) rfl (fun hlt => ?_) (fun hlt => ?_)
       ·
        simp only [sb] at hlt
        refine qZ 7 ?_
        refine stp (zF7 rfl ?_ ?_); constructor <;> omega
        refine qZ 1 ?_
        refine stp (zZ9 rfl rfl ?_ ?_); constructor <;> omega
        refine stp (zF7 rfl ?_ ?_); constructor <;> omega
        refine stp (yH6 rfl rfl ?_ ?_); omega
        refine qZ 1 ?_
        refine stp (zF7 rfl ?_ ?_); constructor <;> omega
        refine stp (zG6 rfl rfl ?_)
        refine stp (zC3 (cs := #[.int .u64 (qK4 k m)]) (el := 23) (fun w => by kernel_rfl) ?_)
        intro bs149 w150 hb151 hc152 g153
        have hge154 := Nat.le_trans G.size hb151
        have ne155 := qN hc4 hb151
        have ne156 := qN hc99 hb151
        replace hc4 := g153.heap hc4
        replace hc99 := g153.heap hc99
        replace own := zB7 own g153
        replace G := G.tr g153
        clear g153
        refine stp (zG1 rfl rfl rfl rfl own (Row.of_block (n := 1) hc152 rfl rfl (by omega)) (fun q_ hq_ => by simp at hq_; subst hq_; rfl) (by simp only [maxLen]; omega) (by omega) G.size ?_)
        intro v157 w158 own6 gr6
        replace G := G.grown gr6 (zH8 own)
        replace hc4 := zI1 gr6 hc4 (zF3 own hc4 (by decide))
        replace hc99 := zI1 gr6 hc99 (zF3 own hc99 (by decide))
        clear own gr6
        obtain ⟨ad4, n4, c4, rfl⟩ := zE0 own6
        refine qZ 1 ?_
        refine stn (zB9 (v := .slice ad4 n4 c4) rfl rfl (by rfl) hc99 (by rfl) (by rfl) ?_)
        intro w159 hc160 u161
        replace hc4 := u161.heap hc4 ne22
        replace own6 := zG5 own6 u161 (zF3 own6 hc99 (by decide))
        replace G := G.upd u161 hge21
        clear u161 hc99
        refine qZ 3 ?_
        refine stp (zB5 rfl rfl ?_ ?_); constructor <;> omega
        refine qZ 2 ?_
        refine ⟨_, ?_, m + 1, ad4, n4, c4, rfl, zC6 ⟨rfl, rfl, rfl, rfl, rfl, rfl, rfl, congrArg (Value.int .i64) (by omega), trivial⟩, by omega, hc4, hc160, (by rw [List.range_succ, List.map_append]; exact own6), G⟩
        omega
       ·
        simp only [sb] at hlt
        have hm2 : m = (k / 64).toNat := by omega
        refine qZ 6 ?_
        obtain ⟨B, hB⟩ : ∃ B, B = w144.heap.size := ⟨_, rfl⟩
        have hB7 : b12 < B := by rw [hB]; exact zC1 hc99
        have hwB : w.heap.size ≤ B := by rw [hB]; exact G.size
        have hBw : B ≤ w144.heap.size := by rw [hB]; exact Nat.le_refl _
        have hB4 : b1 < B := by rw [hB]; exact zC1 hc4
        clear hB
        have hc1 : (zH0 (zE9 d) 0 c).2 = c := rfl
        refine zF5 (fun m_ e_ w_ => ∃ (j : Nat) (ad5 : Option Addr) (n5 : Nat) (c5 : Nat) (ad6 : Option Addr) (n6 : Nat) (c6 : Nat) (kc : List Value) (V : Nat → Prop), m_ = (k / 8 % 5).toNat - j ∧ Fr [(1, .int .i64 ((d + 1 : Nat) : Int)), (4, .pointer (some ⟨b1, 0, none⟩)), (5, .slice none 0 0), (7, .pointer (some ⟨b12, 0, none⟩)), (8, .int .i64 ((k / 8) % 5)), (12, .int .i64 (j : Int)), (0, .slice ad5 n5 c5)] e_ ∧ ((j : Int) ≤ (k / 8 % 5)) ∧ (n5 = (zH0 (zE9 d) j c).2.length) ∧ (n5 ≤ c5) ∧ (c5 ≤ maxLen) ∧ (RowAt w0 1 ad5 n5 ((zH0 (zE9 d) j c).2.map (.int .u8))) ∧ (∀ x, (Value.slice ad6 n6 c6).ownBlock = some x → ¬ V x) ∧ (w_.heap[b1]? = some (.cells #[.int .i64 0, .int .i64 0, .slice none 0 0, .slice none 0 0, .slice none 0 0] 48 (0, 0))) ∧ (w_.ownsRow w.heap.size 23 1 (.slice ad3 n3 c3) m ((List.range m).map fun i => .int .u64 (qK4 k i))) ∧ (w_.heap[b12]? = some (.cells #[.int .i64 1, .int .i64 0, .slice ad3 n3 c3, .slice none 0 0, .slice ad6 n6 c6] 48 (0, 0))) ∧ (B ≤ w_.heap.size) ∧ (w_.ownsRow B 48 5 (.slice ad6 n6 c6) j kc) ∧ (∀ x, V x → B ≤ x ∧ x < w_.heap.size) ∧ (KidsR (see V w_) kc (zH0 (zE9 d) j c).1) ∧ Grow w w_) _ ⟨0, ad1, n - 1, cp - 1, none, 0, 0, [], fun _ => False, rfl, zC6 ⟨rfl, rfl, rfl, rfl, rfl, rfl, rfl, trivial⟩, by omega, hnc, by omega, by omega, R2, fun x _ h_ => h_, hc4, own, hc99, hBw, World.ownsRow_nil _ _ _ _, fun x h_ => h_.elim, .nil, G⟩ ?_
        clear hc4 hc99 own
        clear G
        rintro m_ e_ w162 ⟨j, ad5, n5, c5, ad6, n6, c6, kc, V, rfl, ⟨e163, rfl⟩, hj, hn5, hc5, hc52, hR5, hVo, hc4, own, hc99, hBw, ownk, hV, hK, G⟩
        refine qZ 5 ?_
        refine stp (zF6 rfl rfl ?_)
        refine zA6 ?_
        refine zA2 (b := (decide ((j : Int) < ((k / 8) % 5)))) rfl (fun hlt => ?_) (fun hlt => ?_)
        ·
         replace hlt := qT hlt
         refine qZ 7 ?_
         refine stp (zM9 rfl rfl ?_ ?_); constructor <;> omega
         refine stp ?_
         have hBw0 := hBw
         have hol := fun x hx_ => (ownk.lt x hx_).2
         have hcal := ih_ _ (d := d) hR5 (g0.tr G) hn5 (zY8 d j c hxc) hc5 hc52 (by omega) (by omega)
         rw [show ((d : Nat) : Int) = ((d + 1 : Nat) : Int) - 1 from by omega] at hcal
         refine zD7 rfl hcal ?_
         rintro v_ w164 ⟨cells, ad9, n9, c9, rfl, hT9, hn9, hc9, hc92, hR9, g_⟩
         have hsz9 := zC1 hc99
         replace hc4 := g_.heap hc4
         replace own := zB7 own g_
         replace hc99 := g_.heap hc99
         replace hBw := Nat.le_trans hBw g_.size
         replace ownk := zB7 ownk g_
         replace hV := vlt hV g_.size
         replace hK := hK.sees (Sees.grow g_)
         replace G := G.tr g_
         clear g_
         obtain ⟨y0, y1, ya, yn, yc, za, zn, zc, ua, un, uc, rfl⟩ := hT9.cells
         have hT8 := hT9.sees (Sees.more (V' := fun x => V x ∨ (w162.heap.size ≤ x ∧ x < w164.heap.size)) w164 (fun x h1_ h2_ => .inr ⟨h2_, h1_⟩))
         clear hT9
         replace hK := hK.sees (Sees.more (V' := fun x => V x ∨ (w162.heap.size ≤ x ∧ x < w164.heap.size)) w164 (fun x _ h2_ => .inl h2_))
         have hV9 : ∀ x, (V x ∨ (w162.heap.size ≤ x ∧ x < w164.heap.size)) → B ≤ x ∧ x < w164.heap.size := fun x hx_ => hx_.elim (fun h_ => hV x h_) (fun h_ => ⟨Nat.le_trans hBw0 h_.1, h_.2⟩)
         have hVo9 : ∀ x, (Value.slice ad6 n6 c6).ownBlock = some x → ¬ (V x ∨ (w162.heap.size ≤ x ∧ x < w164.heap.size)) := fun x hx_ hv_ => hv_.elim (hVo x hx_) (fun h_ => by have := (hol x hx_); omega)
         clear hV hVo
         obtain ⟨V9, hV9e⟩ : ∃ V9 : Nat → Prop, V9 = fun x => V x ∨ (w162.heap.size ≤ x ∧ x < w164.heap.size) := ⟨_, rfl⟩
         rw [← hV9e] at hT8 hK
         have hV : ∀ x, V9 x → B ≤ x ∧ x < w164.heap.size := by rw [hV9e]; exact hV9
         have hVo : ∀ x, (Value.slice ad6 n6 c6).ownBlock = some x → ¬ V9 x := by rw [hV9e]; exact hVo9
         clear hV9 hVo9 hV9e hBw0 hol
         refine qZ 3 ?_
         refine stp (zA7 ?_)
         intro b165 w166 hb167 hc168 g169
         refine stn (qS hc168 ?_)
         intro w170 hc171 u172
         have g173 := g169.upd u172 hb167
         have hge174 := Nat.le_trans G.size hb167
         have ne175 := qN hc4 hb167
         have ne176 := qN hc99 hb167
         replace hc4 := g173.heap hc4
         replace own := zB7 own g173
         replace hc99 := g173.heap hc99
         replace hBw := Nat.le_trans hBw g173.size
         replace ownk := zB7 ownk g173
         replace hK := hK.sees (Sees.grow g173)
         replace hT8 := hT8.sees (Sees.grow g173)
         replace hV := vlt hV g173.size
         replace G := G.tr g173
         clear u172 g169 hb167 hc168
         refine qZ 11 ?_
         refine stp (zC3 (cs := #[.int .i64 y0, .int .i64 y1, .slice ya yn yc, .slice za zn zc, .slice ua un uc]) (el := 48) (fun w => by kernel_rfl) ?_)
         intro bs177 w178 hb179 hc180 g181
         have hge182 := Nat.le_trans G.size hb179
         have ne183 := qN hc4 hb179
         have ne184 := qN hc99 hb179
         have ne185 := qN hc171 hb179
         replace hc4 := g181.heap hc4
         replace own := zB7 own g181
         replace hc99 := g181.heap hc99
         replace hBw := Nat.le_trans hBw g181.size
         replace ownk := zB7 ownk g181
         replace hK := hK.sees (Sees.grow g181)
         replace hT8 := hT8.sees (Sees.grow g181)
         replace hV := vlt hV g181.size
         replace hc171 := g181.heap hc171
         replace G := G.tr g181
         clear g181
         refine stp (qG6 rfl rfl rfl rfl ownk (Row.of_block (n := 1) hc180 rfl rfl (by omega)) (fun q_ hq_ => by simp at hq_; rcases hq_ with rfl | rfl | rfl | rfl | rfl <;> rfl) (by simp only [maxLen]; omega) (by omega) hBw ?_)
         intro v186 w187 own6 gr6 hbk6
         have k6_ : Kp (Value.slice ad6 n6 c6).ownBlock.toList w178 w187 := Kp.of_grownBy gr6 (fun k_ hk_ => by rw [Option.mem_toList]; exact hk_)
         have hF6 : ∀ x ∈ (Value.slice ad6 n6 c6).ownBlock.toList, B ≤ x := fun x hx_ => zH8 ownk x (Option.mem_toList.1 hx_)
         have hF7 : ∀ x ∈ (Value.slice ad6 n6 c6).ownBlock.toList, ¬ V9 x := fun x hx_ => hVo x (Option.mem_toList.1 hx_)
         replace hT8 := hT8.sees (Sees.kp k6_ hF7)
         replace hK := hK.sees (Sees.kp k6_ hF7)
         have hVo6 : ∀ x, v186.ownBlock = some x → ¬ V9 x := fun x hx_ hv_ => hbk6.elim (fun h_ => hVo x (h_ ▸ hx_) hv_) (fun h_ => by rw [h_] at hx_; simp only [Option.some.injEq] at hx_; have := (hV x hv_).2; omega)
         replace hV := fun x hx_ => (⟨(hV x hx_).1, Nat.lt_of_lt_of_le (hV x hx_).2 k6_.size⟩ : B ≤ x ∧ x < w187.heap.size)
         replace G := G.trK k6_ (fun x hx_ => Nat.le_trans hwB (hF6 x hx_))
         replace own := yA5 own ownk (by decide) gr6
         clear hc171
         replace hc4 := k6_.heap hc4 (fun hm_ => by have h1_ := hF6 _ hm_; have := hB4; omega)
         replace hc99 := k6_.heap hc99 (fun hm_ => by have h1_ := hF6 _ hm_; omega)
         replace hBw := Nat.le_trans hBw k6_.size
         clear ownk gr6 hVo k6_ hF6 hF7 hbk6
         obtain ⟨ad7, n7, c7, rfl⟩ := zE0 own6
         refine qZ 1 ?_
         refine stn (zB9 (v := .slice ad7 n7 c7) rfl rfl (by rfl) hc99 (by rfl) (by rfl) ?_)
         intro w188 hc189 u190
         replace hc4 := u190.heap hc4 ne22
         replace own := zG5 own u190 (zF3 own hc99 (by decide))
         replace own6 := zG5 own6 u190 (fun he_ => by have := zH8 own6 _ he_; omega)
         replace hT8 := hT8.sees (Sees.upd u190 (fun h_ => by have := (hV _ h_).1; omega))
         replace hK := hK.sees (Sees.upd u190 (fun h_ => by have := (hV _ h_).1; omega))
         replace hV := fun x hx_ => (⟨(hV x hx_).1, Nat.lt_of_lt_of_le (hV x hx_).2 (Nat.le_of_eq u190.size.symm)⟩ : B ≤ x ∧ x < w188.heap.size)
         replace hBw : B ≤ w188.heap.size := by rw [u190.size]; exact hBw
         replace G := G.upd u190 hge21
         clear hc99
         refine qZ 3 ?_
         refine stp (zB5 rfl rfl ?_ ?_); constructor <;> omega
         refine qZ 2 ?_
         refine ⟨_, ?_, j + 1, ad9, n9, c9, ad7, n7, c7, _, V9, rfl, zC6 ⟨rfl, rfl, rfl, rfl, rfl, congrArg (Value.int .i64) (by omega), rfl, trivial⟩, by omega, hn9, hc9, hc92, hR9, hVo6, hc4, own, hc189, hBw, own6, hV, (KidsR.append hK (by have := KidsR.cons hT8 .nil; simpa using this)), G⟩
         omega
        ·
         replace hlt := qF hlt
         have hj2 : j = (k / 8 % 5).toNat := by omega
         have hlk := zN2 (zE9 d) j c
         have hrk : Row (hide B w162) 5 (.slice ad6 n6 c6) (zH0 (zE9 d) j c).1.length kc := by rw [hlk]; exact zX1 ownk (by omega)
         have hK9 := hK.sees (Sees.more (V' := fun x => B ≤ x) _ (fun x _ hx_ => (hV x hx_).1))
         clear hK hV
         have ht : zE9 (d + 1) (k :: c) = (.mk 1 0 ((List.range (k / 64).toNat).map (qK4 k)) [] (zH0 (zE9 d) j c).1, (zH0 (zE9 d) j c).2) := by simp only [zE9]; rw [if_neg h2, if_neg (by omega), if_neg h5, if_neg h6, ← hj2]
         refine qZ 5 ?_
         refine stn (qS hc4 ?_)
         intro w191 hc192 u193
         replace own := zG5 own u193 (zF3 own hc4 (by decide))
         replace hc99 := u193.heap hc99 ne22.symm
         replace hrk := hrk.sees (Sees.upd u193 (fun h_ => by omega))
         replace hK9 := hK9.sees (Sees.upd u193 (fun h_ => by omega))
         replace G := G.upd u193 hge8
         clear u193 hc4
         refine qZ 3 ?_
         rw [ht]
         refine ret2 (zA5 rfl hc192 (by rfl)) (zA1 (v := .slice ad5 n5 c5) rfl) ⟨[_, _, _, _, _], _, _, _, rfl, .mk (by simp [inR]) (by simp [inR]) (zO4 own hm2 (by omega)) (fun x hx_ => by obtain ⟨i, _, rfl⟩ := List.mem_map.1 hx_; exact zV6 _) (Row.nil _ _) (by simp) (hrk.sees (Sees.low hwB _)) (hK9.sees (Sees.low hwB _)), hn5, hc5, hc52, hR5, G⟩
end Go.Proofs.YtkkbbhpbcfcplaaGreat.K
namespace Go.Proofs.YtkkbbhpbcfcplaaGreat.K
open Go Go.RowKit
theorem qS4 {c : List Int} (hx : isU8 c) (j : Nat) : 0 ≤ zV2 c j ∧ zV2 c j ≤ 18446744073709551615 := by
  have h := qC5 ((c.drop (8 * j)).take 8) (fun x hx2 => hx x (List.mem_of_mem_drop (List.mem_of_mem_take hx2)))
  have hl : ((c.drop (8 * j)).take 8).length ≤ 8 := by rw [List.length_take]; omega
  have h2 : (256 : Int) ^ ((c.drop (8 * j)).take 8).length ≤ 256 ^ 8 := by
    generalize ((c.drop (8 * j)).take 8).length = n at hl
    have : n = 0 ∨ n = 1 ∨ n = 2 ∨ n = 3 ∨ n = 4 ∨ n = 5 ∨ n = 6 ∨ n = 7 ∨ n = 8 := by omega
    rcases this with rfl | rfl | rfl | rfl | rfl | rfl | rfl | rfl | rfl <;> decide
  have h3 : (256 : Int) ^ 8 = 18446744073709551616 := by decide
  unfold zV2
  omega
/-! ### the three arenas -/
theorem zX3 (p : Pt) : inR .u64 (encR p) := by
  obtain ⟨h0, h1⟩ := zO6 p
  unfold encR
  split
  · exact ⟨h0, h1⟩
  · simp [inR]
def qH6 : Nd := .mk 1 0 [7] [] []
theorem jB1 {x : Int × Nd × Int} {p : Int} {t : Nd} {e : Int} (h : (decide (x.1 = p) && x.2.1.beq t && decide (x.2.2 = e)) = true) : x = (p, t, e) := by
  simp only [Bool.and_eq_true, decide_eq_true_eq, Nd.beq_iff] at h
  obtain ⟨⟨h1, h2⟩, h3⟩ := h
  exact Prod.ext h1 (Prod.ext h2 h3)
theorem qW8 : zJ8 (zB0 zS1) 32 0 0 0 = (2, qH6, 0) := jB1 (by decide +kernel)
theorem yR1 (t : Nd) : t.beq t = true := (Nd.beq_iff _ _).2 rfl
/-! ### nothing -/
/-! ### how many are set -/
theorem yR2 {sz : List Int} {n k : Nat} (h : k < n) (hl : k < sz.length) : ((sz.map (Value.int .i64)).take (n * 1))[k * 1]? = some (.int .i64 (sz.getD k 0)) := by
  rw [Nat.mul_one, Nat.mul_one, List.getElem?_take_of_lt h, List.getElem?_map, List.getElem?_eq_getElem hl, List.getD_eq_getElem?_getD, List.getElem?_eq_getElem hl]
  rfl
/-! ### sizes -/
def sumL : List Int → Int
  | [] => 0
  | x :: xs => x + sumL xs
theorem zZ3 : ∀ (a b : List Int), sumL (a ++ b) = sumL a + sumL b
  | [], b => by simp [sumL]
  | x :: a, b => by simp only [List.cons_append, sumL, zZ3 a b]; omega
theorem zS3 {sz : List Int} {k : Nat} (h : k < sz.length) : sumL (sz.take (k + 1)) = sumL (sz.take k) + sz.getD k 0 := by
  rw [List.take_succ_eq_append_getElem h, zZ3, List.getD_eq_getElem?_getD, List.getElem?_eq_getElem h]
  simp [sumL]
theorem qN7 : ∀ {sz : List Int}, (∀ x ∈ sz, 0 ≤ x) → 0 ≤ sumL sz
  | [], _ => by simp [sumL]
  | x :: sz, h => by have := qN7 (sz := sz) (fun y hy => h y (by simp [hy])); have := h x (by simp); simp only [sumL]; omega
theorem zL1 {sz : List Int} (h : ∀ x ∈ sz, 0 ≤ x) (k : Nat) : 0 ≤ sumL (sz.take k) ∧ sumL (sz.take k) ≤ sumL sz := by
  have h1 := zZ3 (sz.take k) (sz.drop k)
  rw [List.take_append_drop] at h1
  have h2 := qN7 (sz := sz.take k) (fun x hx => h x (List.mem_of_mem_take hx))
  have h3 := qN7 (sz := sz.drop k) (fun x hx => h x (List.mem_of_mem_drop hx))
  omega
def zL7 (sz : List Int) : Bool := decide (1 ≤ sz.length ∧ sz.length ≤ 16 ∧ 1 ≤ sz.getD 0 0 ∧ (∀ x ∈ sz, 0 ≤ x) ∧ sumL sz ≤ 4096)
theorem zX4 {sz : List Int} (h : zL7 sz = true) : 1 ≤ sz.length ∧ sz.length ≤ 16 ∧ 1 ≤ sz.getD 0 0 ∧ (∀ x ∈ sz, 0 ≤ x) ∧ sumL sz ≤ 4096 := qT h
theorem zS4 {sz : List Int} (h : zL7 sz = true) (i : Nat) : 0 ≤ sz.getD i 0 ∧ sz.getD i 0 ≤ 4096 := by
  obtain ⟨-, -, -, h4, h5⟩ := zX4 h
  by_cases hi : i < sz.length
  · have e : sz.getD i 0 = sz[i] := by rw [List.getD_eq_getElem?_getD, List.getElem?_eq_getElem hi]; rfl
    have h1 := zS3 hi
    have h2 := zL1 h4 i
    have h3 := zL1 h4 (i + 1)
    have := h4 _ (List.getElem_mem hi)
    rw [← e] at this
    omega
  · rw [List.getD_eq_getElem?_getD, List.getElem?_eq_none (by omega)]; simp
theorem yR3 {sz : List Int} (h1 : 1 ≤ sz.length) (h2 : sz.length ≤ 16) (h3 : 1 ≤ sz.getD 0 0) (hn : ∀ j, j < sz.length → 0 ≤ sz.getD j 0) (hs : sumL (sz.take sz.length) ≤ 4096) : zL7 sz = true := by
  rw [List.take_length] at hs
  refine decide_eq_true ⟨h1, h2, h3, fun x hx => ?_, hs⟩
  obtain ⟨j, hj, rfl⟩ := List.getElem_of_mem hx
  have := hn j hj
  rw [List.getD_eq_getElem?_getD, List.getElem?_eq_getElem hj] at this
  exact this
theorem yX0 {sz : List Int} {k : Nat} (hk : k < sz.length) (h : ¬ (0 ≤ sz.getD k 0 ∧ sumL (sz.take k) + sz.getD k 0 ≤ 4096)) : zL7 sz = false := by
  cases hf : zL7 sz with
  | false => rfl
  | true =>
    obtain ⟨-, -, -, h4, h5⟩ := zX4 hf
    have h6 := zS3 hk
    have h7 := zL1 h4 (k + 1)
    have h8 := zS4 hf k
    exact absurd ⟨h8.1, by omega⟩ h
theorem yM0 {sz : List Int} (h : ¬ (1 ≤ sz.length ∧ sz.length ≤ 16 ∧ 1 ≤ sz.getD 0 0)) : zL7 sz = false := decide_eq_false fun ⟨a, b, c, _⟩ => h ⟨a, b, c⟩
def zG4 (sz : List Int) (seg a : Int) : Int := if zL7 sz = true ∧ 0 ≤ seg ∧ seg < sz.length ∧ 0 ≤ a ∧ a < sz.getD seg.toNat 0 then a + sumL (sz.take seg.toNat) else -1
theorem yF4 {sz : List Int} (h : zL7 sz = true) {seg a : Int} : zF8 sz seg a 1 = decide (0 ≤ seg ∧ seg < sz.length ∧ 0 ≤ a ∧ a < sz.getD seg.toNat 0) := by
  have hs := zS4 h seg.toNat
  unfold zF8 zJ2
  rw [← Bool.decide_and]
  exact decide_eq_decide.2 (by omega)
/-! ### sums of bytes -/
def qB9 (sz : List Int) : Nat := if zL7 sz then (sumL sz).toNat else 0
theorem yM1 (sz : List Int) : qB9 sz ≤ 4096 := by
  unfold qB9
  split
  · rename_i h; have := (zX4 h).2.2.2.2; omega
  · omega
theorem qL2 {sz : List Int} (h : zL7 sz = true) : (qB9 sz : Int) = sumL sz ∧ 1 ≤ qB9 sz := by
  obtain ⟨h1, -, h3, h4, -⟩ := zX4 h
  have hn := qN7 h4
  have h5 := zL1 h4 1
  have h6 : sumL (sz.take 1) = sumL (sz.take 0) + sz.getD 0 0 := zS3 (by omega)
  simp only [List.take_zero, sumL, Int.zero_add] at h6
  unfold qB9
  rw [if_pos h]
  omega
def yM2 (sz : List Int) : Nat := (qB9 sz + 7) / 8
section
variable {P : Program} {e : Env} {w : World} {K : Value → World → Prop} {d : Option Nat} {ty : TypeId} {pos : String} {af : Array Edge} {g : Option (Nat × Bool)} {t : TypeId} {x y : Operand} {k : IntKind} {i : Int}
end
theorem zX5 : ∀ (A : List (List Int)), sumL (zB3 A) = zC4 A
  | [] => rfl
  | s :: A => by
    have ih := zX5 A
    simp only [zB3, List.map_cons, sumL, zC4] at ih ⊢
    omega
theorem zS5 (A : List (List Int)) : zL7 (zB3 A) = zC7 A := by
  unfold zL7 zC7
  refine decide_eq_decide.2 ?_
  rw [zF0, zH3, zX5]
  constructor
  · rintro ⟨a, b, c, -, e⟩; exact ⟨a, b, by omega, e⟩
  · rintro ⟨a, b, c, e⟩
    exact ⟨a, b, by omega, fun x hx => by obtain ⟨s, _, rfl⟩ := List.mem_map.1 hx; omega, e⟩
section
variable {TP TI TW TB : TypeId} {w w' : World} {base b g h : Nat} {ses sum : Int} {sz wl kb : List Int}
end
theorem yR4 {sz : List Int} (h : zL7 sz = true) : ∀ x ∈ sz, inR .i64 x := fun x hx => by
  obtain ⟨i, hi, rfl⟩ := List.getElem_of_mem hx
  have := zS4 h i
  rw [List.getD_eq_getElem?_getD, List.getElem?_eq_getElem hi] at this
  simp only [Option.getD_some] at this
  simp only [inR]; omega
/-! ### what a part answers -/
theorem qS5 {sz : List Int} {seg a : Int} (h : 0 ≤ zG4 sz seg a) : zL7 sz = true ∧ 0 ≤ seg ∧ seg < sz.length ∧ 0 ≤ a ∧ a < sz.getD seg.toNat 0 ∧ zG4 sz seg a = a + sumL (sz.take seg.toNat) ∧ zG4 sz seg a < (qB9 sz : Int) := by
  unfold zG4 at h ⊢
  split at h
  · rename_i hc
    rw [if_pos hc]
    obtain ⟨h1, h2, h3, h4, h5⟩ := hc
    have hf := zX4 h1
    have h6 := zS3 (sz := sz) (k := seg.toNat) (by omega)
    have h7 := (zL1 hf.2.2.2.1 (seg.toNat + 1)).2
    have h8 := (qL2 h1).1
    exact ⟨h1, h2, h3, h4, h5, rfl, by omega⟩
  · omega
inductive Own2 (k z : Int) (w b : List Int) (ks : List Nd) (q a : Int) : Prop where
  | st (h1 : k = 1) (h2 : z = 0) (h3 : b = []) (h4 : objP ((Nd.mk k z w b ks).ptr 0) q a = ⟨1, q, a, w.length, ks.length, 0, 0⟩) (h5 : (Nd.mk k z w b ks).need = (w.length : Int) + ks.length) (h6 : w.length ≤ 100 ∧ ks.length ≤ 100)
  | bt (h1 : k = 2) (h2 : z = 2) (h3 : w = []) (h4 : ks = []) (h5 : objP ((Nd.mk k z w b ks).ptr 0) q a = ⟨2, q, a, 0, 0, 2, b.length⟩) (h6 : (Nd.mk k z w b ks).need = ((b.length : Int) + 7) / 8) (h7 : b.length ≤ 4096)
  | wd (h1 : k = 2) (h2 : z = 5) (h3 : b = []) (h4 : ks = []) (h5 : objP ((Nd.mk k z w b ks).ptr 0) q a = ⟨2, q, a, 0, 0, 5, w.length⟩) (h6 : (Nd.mk k z w b ks).need = (w.length : Int)) (h7 : w.length ≤ 4096)
  | pt (h1 : k = 2) (h2 : z = 6) (h3 : w = []) (h4 : b = []) (h5 : objP ((Nd.mk k z w b ks).ptr 0) q a = ⟨2, q, a, 0, 0, 6, ks.length⟩) (h6 : (Nd.mk k z w b ks).need = (ks.length : Int)) (h7 : ks.length ≤ 4096)
theorem own2 {k z : Int} {w b : List Int} {ks : List Nd} (ho : (Nd.mk k z w b ks).own = true) (hk : ¬ k = 0) (q a : Int) : Own2 k z w b ks q a := by
  simp only [Nd.own, if_neg hk] at ho
  split at ho
  · rename_i h1
    simp only [Bool.and_eq_true, decide_eq_true_eq] at ho
    obtain ⟨h2, h3, h4⟩ := ho
    have hb : b = [] := List.eq_nil_of_length_eq_zero (by omega)
    have hm : w.length ≤ 100 ∧ ks.length ≤ 100 := by split at h4 <;> omega
    subst hb
    subst h1
    exact .st rfl h2 rfl (by simp [Nd.ptr, objP]) (by simp [Nd.need]) hm
  · split at ho
    · rename_i h1 h2
      subst h2
      split at ho
      · rename_i h3
        simp only [Bool.and_eq_true, decide_eq_true_eq] at ho
        have hw : w = [] := List.eq_nil_of_length_eq_zero (by omega)
        have hks : ks = [] := List.eq_nil_of_length_eq_zero (by omega)
        subst hw; subst hks; subst h3
        exact .bt rfl rfl rfl rfl (by simp [Nd.ptr, objP]) (by simp [Nd.need]) (by omega)
      · split at ho
        · rename_i h3
          simp only [Bool.and_eq_true, decide_eq_true_eq] at ho
          have hb : b = [] := List.eq_nil_of_length_eq_zero (by omega)
          have hks : ks = [] := List.eq_nil_of_length_eq_zero (by omega)
          subst hb; subst hks; subst h3
          exact .wd rfl rfl rfl rfl (by simp [Nd.ptr, objP]) (by simp [Nd.need]) (by omega)
        · split at ho
          · rename_i h3
            simp only [Bool.and_eq_true, decide_eq_true_eq] at ho
            have hb : b = [] := List.eq_nil_of_length_eq_zero (by omega)
            have hw : w = [] := List.eq_nil_of_length_eq_zero (by omega)
            subst hb; subst hw; subst h3
            exact .pt rfl rfl rfl rfl (by simp [Nd.ptr, objP]) (by simp [Nd.need]) (by omega)
          · cases ho
    · cases ho
abbrev w2 (A : List (List Int)) (s i : Nat) : Int := (A.getD s []).getD i 0
def jC7 : Nd → List Int
  | .mk _ _ w b _ => w ++ qC6 b
/-! ### decoding it -/
mutual
def Nd.cst : Nd → Int
  | .mk k z w b ks => 1 + (Nd.mk k z w b ks).need + Nd.cstL ks
def Nd.cstL : List Nd → Int
  | [] => 0
  | t :: ts => t.cst + Nd.cstL ts
end
/-! ### words and bytes as they lie -/
mutual
def Nd.u8 : Nd → Prop
  | .mk _ _ _ b ks => (∀ x ∈ b, inR .u8 x) ∧ Nd.u8L ks
def Nd.u8L : List Nd → Prop
  | [] => True
  | t :: ts => t.u8 ∧ Nd.u8L ts
end
/-! ### what is built are words -/
def AllU (A : List (List Int)) : Prop := ∀ q ∈ A, ∀ x ∈ q, inR .u64 x
mutual
def Nd.u64 : Nd → Prop
  | .mk _ _ w _ ks => (∀ x ∈ w, inR .u64 x) ∧ Nd.u64L ks
def Nd.u64L : List Nd → Prop
  | [] => True
  | t :: ts => t.u64 ∧ Nd.u64L ts
end
theorem AllU.getD {A : List (List Int)} (h : AllU A) (s : Nat) : ∀ x ∈ A.getD s [], inR .u64 x := by
  by_cases hs : s < A.length
  · rw [zE5 hs]; exact h _ (List.getElem_mem hs)
  · rw [List.getD_eq_getElem?_getD, List.getElem?_eq_none (by omega)]; intro x hx; simp at hx
theorem AllU.set {A : List (List Int)} (h : AllU A) (s i : Nat) {x : Int} (hx : inR .u64 x) : AllU (setP A s i x) := by
  intro q hq y hy
  rcases List.mem_or_eq_of_mem_set hq with hq | rfl
  · exact h q hq y hy
  · rcases List.mem_or_eq_of_mem_set hy with hy | rfl
    · exact h.getD s y hy
    · exact hx
theorem AllU.growB {A : List (List Int)} (h : AllU A) (q : Nat) : AllU (growB A q) := by
  unfold K.growB
  split
  · intro p hp y hy
    rcases List.mem_append.1 hp with hp | hp
    · exact h p hp y hy
    · simp only [List.mem_singleton] at hp; subst hp; simp at hy
  · exact h
theorem AllU.grow {A : List (List Int)} (h : AllU A) (q : Nat) {l : List Int} (hl : ∀ x ∈ l, inR .u64 x) : AllU (zM2 A q l) := by
  intro p hp y hy
  unfold zM2 at hp
  rcases List.mem_or_eq_of_mem_set hp with hp | rfl
  · exact (h.growB q) p hp y hy
  · rcases List.mem_append.1 hy with hy | hy
    · exact (h.growB q).getD q y hy
    · exact hl y hy
theorem qW9 {k z : Int} {w b : List Int} {ks : List Nd} (hw : ∀ x ∈ w, inR .u64 x) (hb : isU8 b) : ∀ x ∈ (Nd.mk k z w b ks).content, inR .u64 x := by
  intro x hx
  simp only [Nd.content, List.mem_append, qC6, List.mem_map, List.mem_replicate] at hx
  rcases hx with (hx | ⟨j, -, rfl⟩) | ⟨-, rfl⟩
  · exact hw x hx
  · have := qS4 hb j
    simp only [inR]; omega
  · simp [inR]
theorem yM3 (size : Int) (t : Nd) (S : Lay) (s i : Nat) (h : AllU S.A) : AllU (zG0 size t S s i).S.A := by
  have h1 : ∀ x ∈ [t.near 0], inR .u64 x := fun x hx => by simp only [List.mem_singleton] at hx; subst hx; exact zX3 _
  unfold zG0
  split
  · exact h.set _ _ (zX3 _)
  · split
    · exact (h.set _ _ (zX3 _)).grow _ h1
    · exact (h.set _ _ (zX3 _)).grow _ h1
mutual
theorem yM4 (size : Int) : ∀ (t : Nd) (S : Lay) (s i : Nat), t.u64 → t.u8 → AllU S.A → AllU (t.lay size S s i).A
  | .mk k z w b ks, S, s, i, hw, hb, h => by
    rw [Nd.u64] at hw
    rw [Nd.u8] at hb
    simp only [Nd.lay]
    split
    · exact h
    · split
      · exact h.set _ _ (zX3 _)
      · exact yB3 size ks _ _ _ hw.2 hb.2 ((yM3 size _ S s i h).grow _ (qW9 hw.1 hb.1))
theorem yB3 (size : Int) : ∀ (ts : List Nd) (S : Lay) (s i : Nat), Nd.u64L ts → Nd.u8L ts → AllU S.A → AllU (Nd.lays size ts S s i).A
  | [], S, s, i, _, _, h => h
  | t :: ts, S, s, i, hw, hb, h => by
    rw [Nd.u64L] at hw
    rw [Nd.u8L] at hb
    simp only [Nd.lays]
    exact yB3 size ts _ _ _ hw.2 hb.2 (yM4 size t S s i hw.1 hb.1 h)
end
theorem yM5 {t : Nd} (size : Int) (hw : t.u64) (hb : t.u8) : ∀ q ∈ (t.build size).1, ∀ x ∈ q, inR .u64 x := by
  unfold Nd.build
  split
  · intro q hq; simp at hq
  · split
    · intro q hq; simp at hq
    · refine yM4 size t _ 0 0 hw hb ?_
      intro q hq x hx
      simp only [List.mem_singleton] at hq
      subst hq
      simp only [List.mem_singleton] at hx
      subst hx
      simp [inR]
theorem qX0 {t : Nd} {size : Int} (h : (t.build size).2 = 0) : zC7 (t.build size).1 = true := by
  have hf := Nd.build_fit h
  have h0 : 1 ≤ len2 (t.build size).1 0 := by
    unfold Nd.build at h ⊢
    by_cases h1 : size < 1 ∨ size > 4096 ∨ t.right 32 = false
    · rw [if_pos h1] at h; exact absurd h (by decide)
    · rw [if_neg h1] at h ⊢
      by_cases h2 : (t.lay size ⟨[[0]], false⟩ 0 0).full = true
      · rw [if_pos h2] at h; exact absurd h (by decide)
      · rw [if_neg h2]
        exact Nat.le_trans (by decide : 1 ≤ len2 [[0]] 0) ((Nd.lay_ok size t ⟨[[0]], false⟩ 0 0 (by simp)).grew.seg 0)
  unfold zC7
  exact decide_eq_true ⟨hf.one, hf.most, h0, hf.all⟩
def yF5 (k : Int) : Int := if k = 0 then 2 else if k = 1 then 5 else if k = 2 then 6 else 3
theorem yR5 (k : Int) (h0 : 0 ≤ k) (h1 : k < 4) : ([.int .i64 2, .int .i64 5, .int .i64 6, .int .i64 3] : List Value)[k.toNat * 1]? = some (.int .i64 (yF5 k)) := by
  have h : k = 0 ∨ k = 1 ∨ k = 2 ∨ k = 3 := by omega
  rcases h with rfl | rfl | rfl | rfl <;> rfl
def qN8 (x y n : Int) : Pt :=
  if x % 3 = 0 then ⟨1, y % 16 - 4, x % 4, x / 64, 0, 0, 0, false⟩
  else if x % 3 = 1 then ⟨2, y % 16 - 4, 0, 0, yF5 (x % 4), x / 16, 0, false⟩
  else ⟨3, y % 12, 0, 0, 0, 0, x / 3 % (n + 1), decide (x % 2 = 1)⟩
inductive BentA (B : List (List Int)) : List (List Int) → Prop
  | refl : BentA B B
  | put {A : List (List Int)} {s i : Nat} {x y : Int} : BentA B A → s < A.length → i < len2 A s → 0 ≤ x → x ≤ 255 → 0 ≤ y → y ≤ 255 → BentA B (setP A s i (encR (qN8 x y A.length)))
def zS6 (xs : List Int) : Nd := (zE9 6 xs).1
def qF1 (xs : List Int) (k : Int) : List (List Int) := if ((zS6 xs).build (3 + k % 30)).2 ≠ 0 then ((zS6 xs).build 4096).1 else ((zS6 xs).build (3 + k % 30)).1
def yM6 (xs : List Int) (k : Int) (A : List (List Int)) : Prop := BentA (qF1 xs k) A
theorem qH7 {xs : List Int} (h : isU8 xs) : (zS6 xs).right 32 = true := qG9 6 xs 32 (by decide) h
theorem qX1 {xs : List Int} (h : isU8 xs) (hl : xs.length ≤ 200) : 0 ≤ (zS6 xs).needs ∧ (zS6 xs).needs ≤ 1400 := by
  have := qH0 6 xs h
  have := Nd.needs_nn (zS6 xs)
  unfold zS6 at *
  omega
theorem yM7 {xs : List Int} (h : isU8 xs) (hl : xs.length ≤ 200) : ∃ s, (zS6 xs).build 4096 = ([s], 0) ∧ (s.length : Int) = 1 + (zS6 xs).needs :=
  Nd.build_one (qH7 h) (by have := qX1 h hl; omega) (by decide)
theorem qH8 : ∀ (d : Nat) (c : List Int), (zE9 d c).1.u64 ∧ (zE9 d c).1.u8
  | 0, c => ⟨⟨by simp, trivial⟩, ⟨by simp [isU8], trivial⟩⟩
  | d + 1, [] => ⟨⟨by simp, trivial⟩, ⟨by simp [isU8], trivial⟩⟩
  | d + 1, k :: c => by
    have hk : ∀ n, Nd.u64L (zH0 (zE9 d) n c).1 ∧ Nd.u8L (zH0 (zE9 d) n c).1 := fun n => by
      have h1 := qD1 (f := zE9 d) (Q := fun _ => True) (R := fun t => t.u64 ∧ t.u8) (fun c _ => ⟨trivial, qH8 d c⟩) n c trivial
      have : ∀ (ts : List Nd), (∀ t ∈ ts, t.u64 ∧ t.u8) → Nd.u64L ts ∧ Nd.u8L ts := by
        intro ts
        induction ts with
        | nil => exact fun _ => ⟨trivial, trivial⟩
        | cons t ts ih => exact fun h => ⟨⟨(h t (by simp)).1, (ih fun u hu => h u (by simp [hu])).1⟩, ⟨(h t (by simp)).2, (ih fun u hu => h u (by simp [hu])).2⟩⟩
      exact this _ h1
    have hb : ∀ n, isU8 ((List.range n).map (qQ1 k)) := fun n x hx => by obtain ⟨i, _, rfl⟩ := List.mem_map.1 hx; exact qM7 _
    have h3 : ∀ n, ∀ x ∈ (List.range n).map (qQ2 k), inR .u64 x := fun n x hx => by obtain ⟨i, _, rfl⟩ := List.mem_map.1 hx; exact zV6 _
    have h4 : ∀ n, ∀ x ∈ (List.range n).map (qK4 k), inR .u64 x := fun n x hx => by obtain ⟨i, _, rfl⟩ := List.mem_map.1 hx; exact zV6 _
    simp only [zE9]
    split
    · exact ⟨⟨by simp, trivial⟩, ⟨by simp [isU8], trivial⟩⟩
    · split
      · exact ⟨⟨by simp, trivial⟩, ⟨hb _, trivial⟩⟩
      · split
        · exact ⟨⟨h3 _, trivial⟩, ⟨by simp [isU8], trivial⟩⟩
        · split
          · exact ⟨⟨by simp, (hk _).1⟩, ⟨by simp [isU8], (hk _).2⟩⟩
          · exact ⟨⟨h4 _, (hk _).1⟩, ⟨by simp [isU8], (hk _).2⟩⟩
theorem yR6 {xs : List Int} (h : isU8 xs) (hl : xs.length ≤ 200) (k : Int) : zC7 (qF1 xs k) = true ∧ AllU (qF1 xs k) ∧ zC4 (qF1 xs k) ≤ 4096 ∧ (∀ i, len2 (qF1 xs k) i ≤ 4096) := by
  obtain ⟨s, h4, -⟩ := yM7 h hl
  have key : ∀ n, ((zS6 xs).build n).2 = 0 → zC7 ((zS6 xs).build n).1 = true ∧ AllU ((zS6 xs).build n).1 ∧ zC4 ((zS6 xs).build n).1 ≤ 4096 ∧ (∀ i, len2 ((zS6 xs).build n).1 i ≤ 4096) := fun n hn => by
    have hr := qX0 hn
    refine ⟨hr, yM5 n (qH8 6 xs).1 (qH8 6 xs).2, ?_⟩
    unfold zC7 at hr
    have h1 := qT hr
    exact ⟨h1.2.2.2, fun i => by have := zK8 ((zS6 xs).build n).1 i; omega⟩
  unfold qF1
  split
  · exact key 4096 (by rw [h4])
  · exact key _ (by omega)
theorem BentA.len {B A : List (List Int)} (h : BentA B A) : A.length = B.length ∧ zC4 A = zC4 B ∧ ∀ i, len2 A i = len2 B i := by
  induction h with
  | refl => exact ⟨rfl, rfl, fun _ => rfl⟩
  | put _ hs hi _ _ _ _ ih => exact ⟨(zE4 _ _ _ _).trans ih.1, (qG7 _ _ _ _).trans ih.2.1, fun j => (zP2 _ _ _ j _).trans (ih.2.2 j)⟩
theorem BentA.allU {B A : List (List Int)} (h : BentA B A) (hB : AllU B) : AllU A := by
  induction h with
  | refl => exact hB
  | put _ hs hi _ _ _ _ ih => exact ih.set _ _ (zX3 _)
theorem BentA.right {B A : List (List Int)} (h : BentA B A) : zC7 A = zC7 B := by
  obtain ⟨h1, h2, h3⟩ := h.len
  unfold zC7
  rw [h1, h2, h3 0]
theorem yM6.ok {xs : List Int} {k : Int} {A : List (List Int)} (hA : yM6 xs k A) (h : isU8 xs) (hl : xs.length ≤ 200) : zC7 A = true ∧ AllU A ∧ zC4 A ≤ 4096 ∧ (∀ i, len2 A i ≤ 4096) ∧ 1 ≤ A.length ∧ A.length ≤ 16 ∧ ∀ s ∈ A, s.length ≤ 100000 := by
  obtain ⟨h1, h2, h3⟩ := BentA.len hA
  obtain ⟨g1, g2, g3, g4⟩ := yR6 h hl k
  have hr : zC7 A = true := by rw [BentA.right hA]; exact g1
  have hr2 := hr
  unfold zC7 at hr2
  obtain ⟨r1, r2, -, -⟩ := qT hr2
  refine ⟨hr, BentA.allU hA g2, by rw [h2]; exact g3, fun i => by rw [h3]; exact g4 i, r1, r2, fun s hs => ?_⟩
  obtain ⟨i, hi, rfl⟩ := List.getElem_of_mem hs
  have := h3 i
  have := g4 i
  rw [← h3 i, len2, zE5 hi] at this
  omega
theorem yM8 {xs : List Int} (h : isU8 xs) (hl : xs.length ≤ 200) (k : Int) : 1 ≤ (qF1 xs k).length ∧ (qF1 xs k).length ≤ 16 := by
  obtain ⟨-, -, -, -, h1, h2, -⟩ := yM6.ok (BentA.refl (B := qF1 xs k)) h hl
  exact ⟨h1, h2⟩
theorem OwnA.push {TO TW : TypeId} {w w' : World} {base : Nat} {so so' v : Value} {segs : List Value} {A : List (List Int)} {ws : List Int} (hOW : TO ≠ TW) (h : OwnA TO TW w base so segs A) (hv : w.ownsRow base TW 1 v ws.length (zJ1 ws)) (hd : ∀ (i : Nat) (u : Value) (b : Nat), segs[i]? = some u → u.ownBlock = some b → v.ownBlock ≠ some b)
    (gr : w.grownBy w' so.ownBlock) (ho : w'.ownsRow base TO 1 so' (A.length + 1) (segs ++ [v])) : OwnA TO TW w' base so' (segs ++ [v]) (A ++ [ws]) := by
  have hl := h.len
  refine ⟨by rw [List.length_append]; exact ho, fun i u wi hu hw => ?_, fun i j u u' b hu hu' hb hb' => ?_⟩
  · by_cases hi : i < A.length
    · rw [List.getElem?_append_left (by omega)] at hu
      rw [List.getElem?_append_left hi] at hw
      exact yA5 (h.seg i u wi hu hw) h.out hOW.symm gr
    · have hb := (List.getElem?_eq_some_iff.1 hw).1
      simp only [List.length_append, List.length_singleton] at hb
      have hie : i = A.length := by omega
      subst hie
      rw [List.getElem?_append_right (by omega), hl, Nat.sub_self] at hu
      rw [List.getElem?_append_right (Nat.le_refl _), Nat.sub_self] at hw
      simp only [List.getElem?_cons_zero, Option.some.injEq] at hu hw
      subst hu; subst hw
      exact yA5 hv h.out hOW.symm gr
  · have key : ∀ k (x : Value), (segs ++ [v])[k]? = some x → (k < segs.length ∧ segs[k]? = some x) ∨ (k = segs.length ∧ x = v) := fun k x hx => by
      by_cases hk : k < segs.length
      · rw [List.getElem?_append_left hk] at hx; exact .inl ⟨hk, hx⟩
      · have hb := (List.getElem?_eq_some_iff.1 hx).1
        simp only [List.length_append, List.length_singleton] at hb
        have hke : k = segs.length := by omega
        subst hke
        rw [List.getElem?_append_right (Nat.le_refl _), Nat.sub_self] at hx
        simp only [List.getElem?_cons_zero, Option.some.injEq] at hx
        exact .inr ⟨rfl, hx.symm⟩
    rcases key i u hu with ⟨hi, hui⟩ | ⟨hi, rfl⟩
    · rcases key j u' hu' with ⟨hj, huj⟩ | ⟨hj, rfl⟩
      · exact h.dis i j u u' b hui huj hb hb'
      · exact absurd hb' (hd i u b hui hb)
    · rcases key j u' hu' with ⟨hj, huj⟩ | ⟨hj, rfl⟩
      · exact absurd hb (hd j u' b huj hb')
      · rw [hi, hj]
theorem OwnA.low {TO TW : TypeId} {w : World} {base : Nat} {so : Value} {segs : List Value} {A : List (List Int)} (h : OwnA TO TW w base so segs A) (i : Nat) (u : Value) (b : Nat) (hu : segs[i]? = some u) (hb : u.ownBlock = some b) : b < w.heap.size := by
  have hi := (List.getElem?_eq_some_iff.1 hu).1
  rw [h.len] at hi
  exact ((h.seg i u _ hu (List.getElem?_eq_getElem hi)).lt b hb).2
/-! ### chunks of an arena, as words -/
theorem yB4 : ∀ (A : List (List Int)), ((A.flatten.length : Nat) : Int) = zC4 A
  | [] => rfl
  | s :: A => by have := yB4 A; rw [List.flatten_cons, List.length_append]; simp only [zC4]; omega
theorem qX2 {A : List (List Int)} (h : zC7 A = true) : qB9 (zB3 A) = A.flatten.length ∧ 1 ≤ yM2 (zB3 A) := by
  have hf : zL7 (zB3 A) = true := by rw [zS5]; exact h
  have h1 := qL2 hf
  rw [zX5] at h1
  have h2 := yB4 A
  have hc : yM2 (zB3 A) = (qB9 (zB3 A) + 7) / 8 := rfl
  omega
/-! ### the chapter's example -/
/-! ### what law12.Arena makes of choices -/
section
variable {s s' : Src}
end
/-! ### the words of an arena, one behind the other -/
theorem yB5 : ∀ (A : List (List Int)) (i j : Nat), i < A.length → j < len2 A i → (A.flatten).getD (j + (zC4 (A.take i)).toNat) 0 = (A.getD i []).getD j 0
  | [], i, j, h, _ => by simp at h
  | s :: A, 0, j, _, hj => by
    simp only [len2, List.getD_cons_zero] at hj
    simp only [List.take_zero, zC4, Int.toNat_zero, Nat.add_zero, List.flatten_cons, List.getD_cons_zero]
    rw [List.getD_eq_getElem?_getD, List.getD_eq_getElem?_getD, List.getElem?_append_left hj]
  | s :: A, i + 1, j, h, hj => by
    have hj' : j < len2 A i := by simpa [len2] using hj
    have ih := yB5 A i j (by simpa using h) hj'
    have hn := zN1 (A.take i)
    simp only [List.take_succ_cons, zC4, List.flatten_cons, List.getD_cons_succ]
    rw [← ih, List.getD_eq_getElem?_getD, List.getD_eq_getElem?_getD, List.getElem?_append_right (by omega), show j + ((s.length : Int) + zC4 (A.take i)).toNat - s.length = j + (zC4 (A.take i)).toNat from by omega]
theorem zU0 {A : List (List Int)} (h : zC7 A = true) (seg a : Int) : (zG4 (zB3 A) seg a < 0 ∧ zH1 A seg a = (0, 20)) ∨ ∃ k : Nat, zG4 (zB3 A) seg a = (k : Int) ∧ k < A.flatten.length ∧ zH1 A seg a = (A.flatten.getD k 0, 0) := by
  have hf : zL7 (zB3 A) = true := by rw [zS5]; exact h
  have hsl := zF0 A
  have hg := zH3 A seg.toNat
  by_cases hc : 0 ≤ seg ∧ seg < A.length ∧ 0 ≤ a ∧ a < len2 A seg.toNat
  · right
    have hp : zG4 (zB3 A) seg a = a + sumL ((zB3 A).take seg.toNat) := by unfold zG4; rw [if_pos ⟨hf, by omega, by omega, by omega, by omega⟩]
    have hst : sumL ((zB3 A).take seg.toNat) = zC4 (A.take seg.toNat) := by
      rw [← zX5]; unfold zB3; rw [List.map_take]
    have hn := zN1 (A.take seg.toNat)
    have hfg := yB5 A seg.toNat a.toNat (by omega) (by omega)
    have hl := (qS5 (sz := zB3 A) (seg := seg) (a := a) (by omega)).2.2.2.2.2.2
    have hw := (qX2 h).1
    refine ⟨a.toNat + (zC4 (A.take seg.toNat)).toNat, by omega, by omega, ?_⟩
    unfold zH1
    rw [if_pos hc, hfg]
  · left
    refine ⟨?_, by unfold zH1; rw [if_neg hc]⟩
    unfold zG4
    rw [if_neg (by omega)]
    decide
abbrev Spn := Int × Int
def encS (s : Spn) : List Value := [.int .i64 s.1, .int .i64 s.2]
def encL (L : List Spn) : List Value := L.flatMap encS
theorem zI6 (L : List Spn) : (encL L).length = L.length * 2 := by
  induction L with
  | nil => rfl
  | cons s L ih => simp only [encL, List.flatMap_cons, List.length_append, List.length_cons] at ih ⊢; rw [ih]; simp [encS]; omega
theorem zK6 (A B : List Spn) : encL (A ++ B) = encL A ++ encL B := by simp [encL]
theorem qX3 : ∀ {L : List Spn} {i : Nat} (h : i < L.length), ((encL L).drop (i * 2)).take 2 = encS L[i]
  | [], i, h => by simp at h
  | s :: L, 0, _ => by simp [encL, encS]
  | s :: L, i + 1, h => by
    have := qX3 (L := L) (i := i) (by simpa using h)
    rw [show (i + 1) * 2 = i * 2 + 1 + 1 from by omega]
    simpa [encL, encS] using this
theorem yR7 {L : List Spn} : ∀ q ∈ encL L, q.oneCell' = true := by
  intro q hq
  obtain ⟨s, -, h⟩ := List.mem_flatMap.1 hq
  simp only [encS, List.mem_cons, List.not_mem_nil, or_false] at h
  rcases h with rfl | rfl <;> rfl
def zU1 (s : Spn) : Bool := decide (s.2 ≤ s.1)
def inS (L : List Spn) (n : Int) : Prop := ∃ s ∈ L, s.1 ≤ n ∧ n < s.2
theorem qX4 (n : Int) : ¬ inS [] n := fun ⟨_, h, _⟩ => by simp at h
theorem zK2 (s : Spn) (L : List Spn) (n : Int) : inS (s :: L) n ↔ (s.1 ≤ n ∧ n < s.2) ∨ inS L n := by simp [inS]
theorem qL3 (A B : List Spn) (n : Int) : inS (A ++ B) n ↔ inS A n ∨ inS B n := by
  unfold inS
  constructor
  · rintro ⟨s, h, h2⟩
    rcases List.mem_append.1 h with h | h
    · exact .inl ⟨s, h, h2⟩
    · exact .inr ⟨s, h, h2⟩
  · rintro (⟨s, h, h2⟩ | ⟨s, h, h2⟩)
    · exact ⟨s, List.mem_append_left _ h, h2⟩
    · exact ⟨s, List.mem_append_right _ h, h2⟩
theorem yB6 {A B : List Spn} (h : A.Perm B) (n : Int) : inS A n ↔ inS B n := by
  unfold inS
  constructor
  · rintro ⟨s, hs, h2⟩; exact ⟨s, h.mem_iff.1 hs, h2⟩
  · rintro ⟨s, hs, h2⟩; exact ⟨s, h.mem_iff.2 hs, h2⟩
theorem yF6 (L : List Spn) (n : Int) : inS (L.filter fun s => !zU1 s) n ↔ inS L n := by
  unfold inS
  constructor
  · rintro ⟨s, hs, h2⟩; exact ⟨s, (List.mem_filter.1 hs).1, h2⟩
  · rintro ⟨s, hs, h2⟩
    exact ⟨s, List.mem_filter.2 ⟨hs, by simp only [zU1, Bool.not_eq_true', decide_eq_false_iff_not]; omega⟩, h2⟩
def zR0 : List Spn → Prop
  | [] => True
  | s :: L => s.1 < s.2 ∧ (∀ t ∈ L, s.2 < t.1) ∧ zR0 L
theorem zR0.lo : ∀ {L : List Spn} {s : Spn}, zR0 (s :: L) → ∀ n, inS (s :: L) n → s.1 ≤ n
  | L, s, ⟨h1, h2, h3⟩, n, h => by
    rcases (zK2 s L n).1 h with h | ⟨t, ht, h4, h5⟩
    · exact h.1
    · have := h2 t ht; omega
theorem qL4 : ∀ (A B : List Spn), zR0 A → zR0 B → (∀ n, inS A n ↔ inS B n) → A = B
  | [], [], _, _, _ => rfl
  | [], t :: B, _, hB, h => absurd ((h t.1).2 ⟨t, by simp, Int.le_refl _, hB.1⟩) (qX4 _)
  | s :: A, [], hA, _, h => absurd ((h s.1).1 ⟨s, by simp, Int.le_refl _, hA.1⟩) (qX4 _)
  | s :: A, t :: B, hA, hB, h => by
    have h1 : s.1 = t.1 := by
      have g1 := hB.lo s.1 ((h s.1).1 ⟨s, by simp, Int.le_refl _, hA.1⟩)
      have g2 := hA.lo t.1 ((h t.1).2 ⟨t, by simp, Int.le_refl _, hB.1⟩)
      omega
    have key : ∀ {s t : Spn} {A B : List Spn}, zR0 (s :: A) → zR0 (t :: B) → (∀ n, inS (s :: A) n ↔ inS (t :: B) n) → s.1 = t.1 → t.2 ≤ s.2 := by
      intro s t A B hA hB h h1
      by_cases hlt : s.2 < t.2
      · exfalso
        have g := (h s.2).2 ⟨t, by simp, by have := hA.1; omega, hlt⟩
        rcases (zK2 s A s.2).1 g with g | ⟨u, hu, g1, g2⟩
        · omega
        · have := hA.2.1 u hu; omega
      · omega
    have h2 : s.2 = t.2 := by
      have g1 := key hA hB h h1
      have g2 := key hB hA (fun n => (h n).symm) h1.symm
      omega
    have h3 : s = t := Prod.ext h1 h2
    subst h3
    congr 1
    refine qL4 A B hA.2.2 hB.2.2 fun n => ?_
    have g := h n
    rw [zK2, zK2] at g
    constructor
    · intro hn
      obtain ⟨u, hu, g1, g2⟩ := hn
      have g3 := hA.2.1 u hu
      rcases g.1 (.inr ⟨u, hu, g1, g2⟩) with g4 | g4
      · omega
      · exact g4
    · intro hn
      obtain ⟨u, hu, g1, g2⟩ := hn
      have g3 := hB.2.1 u hu
      rcases g.2 (.inr ⟨u, hu, g1, g2⟩) with g4 | g4
      · omega
      · exact g4
/-! ### Norm: what is sorted is joined; the last one is at the list's head here -/
def zO0 (out : List Spn) (s : Spn) : List Spn := match out with
  | [] => [s]
  | t :: r => if s.1 ≤ t.2 then (t.1, max t.2 s.2) :: r else s :: t :: r
def yM9 (L : List Spn) : List Spn := L.foldl zO0 []
def RevR : List Spn → Prop
  | [] => True
  | s :: L => s.1 < s.2 ∧ (∀ t ∈ L, t.2 < s.1) ∧ RevR L
theorem qL5 : ∀ {L : List Spn}, RevR L → ∀ {R : List Spn}, zR0 R → (∀ t ∈ L, ∀ u ∈ R, t.2 < u.1) → zR0 (L.reverse ++ R)
  | [], _, R, hR, _ => by simpa using hR
  | s :: L, h, R, hR, hs => by
    rw [List.reverse_cons, List.append_assoc]
    refine qL5 h.2.2 ⟨h.1, fun t ht => hs s (by simp) t ht, hR⟩ ?_
    intro t ht u hu
    rcases List.mem_cons.1 hu with rfl | hu
    · exact h.2.1 t ht
    · exact hs t (by simp [ht]) u hu
theorem yX1 {out : List Spn} {s : Spn} (h : RevR out) (hs : s.1 < s.2) (hle : ∀ t ∈ out, t.1 ≤ s.1) : RevR (zO0 out s) ∧ (∀ t ∈ zO0 out s, t.1 ≤ s.1) ∧ ∀ n, inS (zO0 out s) n ↔ inS out n ∨ (s.1 ≤ n ∧ n < s.2) := by
  cases out with
  | nil => exact ⟨⟨hs, fun t ht => by simp at ht, trivial⟩, fun t ht => by simp [zO0] at ht; subst ht; exact Int.le_refl _, fun n => by simp [zO0, inS]⟩
  | cons t r =>
    obtain ⟨h1, h2, h3⟩ := h
    have h4 := hle t (by simp)
    unfold zO0
    by_cases hc : s.1 ≤ t.2
    · simp only [if_pos hc]
      refine ⟨⟨by simp only []; omega, h2, h3⟩, fun u hu => ?_, fun n => ?_⟩
      · rcases List.mem_cons.1 hu with rfl | hu
        · exact h4
        · exact hle u (by simp [hu])
      · rw [zK2, zK2]
        simp only []
        constructor
        · rintro (g | g)
          · by_cases hn : n < t.2
            · exact .inl (.inl ⟨g.1, hn⟩)
            · exact .inr ⟨by omega, by omega⟩
          · exact .inl (.inr g)
        · rintro ((g | g) | g)
          · exact .inl ⟨g.1, by omega⟩
          · exact .inr g
          · exact .inl ⟨by omega, by omega⟩
    · simp only [if_neg hc]
      refine ⟨⟨hs, fun u hu => ?_, h1, h2, h3⟩, fun u hu => ?_, fun n => ?_⟩
      · rcases List.mem_cons.1 hu with rfl | hu
        · omega
        · have := h2 u hu; omega
      · rcases List.mem_cons.1 hu with rfl | hu
        · exact Int.le_refl _
        · exact hle u hu
      · rw [zK2 s]; exact or_comm
theorem yN0 : ∀ (L out : List Spn), RevR out → (∀ s ∈ L, s.1 < s.2) → (∀ t ∈ out, ∀ s ∈ L, t.1 ≤ s.1) → L.Pairwise (fun a b => a.1 ≤ b.1) → RevR (L.foldl zO0 out) ∧ ∀ n, inS (L.foldl zO0 out) n ↔ inS out n ∨ inS L n
  | [], out, h, _, _, _ => ⟨h, fun n => by simp [inS]⟩
  | s :: L, out, h, hs, hle, hp => by
    obtain ⟨g1, g2, g3⟩ := yX1 h (hs s (by simp)) (fun t ht => hle t ht s (by simp))
    obtain ⟨hp1, hp2⟩ := List.pairwise_cons.1 hp
    obtain ⟨k1, k2⟩ := yN0 L (zO0 out s) g1 (fun t ht => hs t (by simp [ht])) (fun t ht u hu => Int.le_trans (g2 t ht) (hp1 u hu)) hp2
    refine ⟨k1, fun n => ?_⟩
    show inS (L.foldl zO0 (zO0 out s)) n ↔ _
    rw [k2, g3, zK2]
    exact or_assoc
def qX5 (L : List Spn) : List Spn := (yM9 L).reverse
theorem yR8 {L : List Spn} (hs : ∀ s ∈ L, s.1 < s.2) (hp : L.Pairwise (fun a b => a.1 ≤ b.1)) : zR0 (qX5 L) ∧ ∀ n, inS (qX5 L) n ↔ inS L n := by
  obtain ⟨h1, h2⟩ := yN0 L [] trivial hs (fun t ht => by simp at ht) hp
  refine ⟨by have := qL5 h1 (R := []) trivial (fun t _ u hu => by simp at hu); simpa [qX5, yM9] using this, fun n => ?_⟩
  rw [qX5, yB6 (List.reverse_perm _), yM9, h2]
  exact ⟨fun h => h.resolve_left (qX4 n), .inr⟩
structure NormOf (L N : List Spn) : Prop where
  right : zR0 N
  pts : ∀ n, inS N n ↔ inS L n
theorem NormOf.same {L M A B : List Spn} (h : NormOf L A) (k : NormOf M B) (hp : ∀ n, inS L n ↔ inS M n) : A = B := qL4 A B h.right k.right fun n => by rw [h.pts, k.pts, hp]
theorem yN1 {L d : List Spn} (hperm : d.Perm (L.filter fun s => !zU1 s)) (hp : d.Pairwise (fun a b => a.1 ≤ b.1)) : NormOf L (qX5 d) := by
  have hs : ∀ s ∈ d, s.1 < s.2 := fun s hs => by
    have := (List.mem_filter.1 (hperm.mem_iff.1 hs)).2
    simp only [zU1, Bool.not_eq_true', decide_eq_false_iff_not] at this
    omega
  obtain ⟨h1, h2⟩ := yR8 hs hp
  exact ⟨h1, fun n => by rw [h2, yB6 hperm, yF6]⟩
/-! ### holes -/
theorem qF7 {L : List Spn} {i c : Nat} (hi : i < L.length) (hc : c < 2) : (encL L)[i * 2 + c]? = (encS L[i])[c]? := by
  have := congrArg (fun l : List Value => l[c]?) (qX3 hi)
  simp only [List.getElem?_take, hc, if_true, List.getElem?_drop] at this
  exact this
theorem qC0 {w : World} {base n m c sz : Nat} {T : TypeId} {ad : Option Addr} {xs : List Value} (h : w.ownsRow base T sz (.slice ad n c) m xs) : n = m := by
  rcases h.2 with ⟨hv, hm⟩ | ⟨q, cap, cur, hv, _⟩
  · simp only [Value.slice.injEq] at hv
    omega
  · simp only [Value.slice.injEq] at hv
    exact hv.2.1
abbrev gS (L : List Spn) (i : Nat) : Spn := L.getD i (0, 0)
theorem zO1 {L : List Spn} {i : Nat} (h : i < L.length) : gS L i = L[i] := by simp [gS, List.getD_eq_getElem?_getD, h]
theorem yB7 {w : World} {ad : Option Addr} {n i : Nat} {L : List Spn} (R : RowAt w 2 ad n (encL L)) (h : i < n) : ((encL L).drop (i * 2)).take 2 = [.int .i64 (gS L i).1, .int .i64 (gS L i).2] := by
  have hl := R.len
  rw [zI6] at hl
  rw [qX3 (show i < L.length by omega), zO1 (show i < L.length by omega)]; rfl
theorem yX2 {w : World} {ad : Option Addr} {n i : Nat} {L : List Spn} (R : RowAt w 2 ad n (encL L)) (h : i < n) : (encL L)[i * 2]? = some (.int .i64 (gS L i).1) := by
  have hl := R.len
  rw [zI6] at hl
  have := qF7 (L := L) (i := i) (c := 0) (by omega) (by omega)
  rw [zO1 (show i < L.length by omega)]; exact this
theorem yX3 {w : World} {ad : Option Addr} {n i : Nat} {L : List Spn} (R : RowAt w 2 ad n (encL L)) (h : i < n) : (encL L)[i * 2 + 1]? = some (.int .i64 (gS L i).2) := by
  have hl := R.len
  rw [zI6] at hl
  have := qF7 (L := L) (i := i) (c := 1) (by omega) (by omega)
  rw [zO1 (show i < L.length by omega)]; exact this
theorem qC1 {w : World} {ad : Option Addr} {n : Nat} {L : List Spn} (R : RowAt w 2 ad n (encL L)) : L.length = n := by
  have hl := R.len
  rw [zI6] at hl
  omega
def addG : List Spn → Spn → Bool → List Spn
  | [], s, laid => if laid then [] else [s]
  | t :: r, s, laid => if t.2 < s.1 then t :: addG r s laid else if t.1 > s.2 then (if laid then t :: addG r s laid else s :: t :: addG r s true) else addG r (min s.1 t.1, max s.2 t.2) laid
def addS (L : List Spn) (s : Spn) : List Spn := if zU1 s then L else addG L s false
theorem qS6 : ∀ {L : List Spn} {s : Spn}, zR0 L → s.1 < s.2 → (∀ t ∈ L, s.2 < t.1) → addG L s true = L
  | [], _, _, _, _ => rfl
  | t :: r, s, h, hs, hl => by
    have h1 := hl t (by simp)
    have h2 := h.1
    rw [addG, if_neg (by omega), if_pos h1, if_pos rfl, qS6 h.2.2 hs (fun u hu => hl u (by simp [hu]))]
theorem qX6 : ∀ {L : List Spn} {s : Spn}, zR0 L → s.1 < s.2 → zR0 (addG L s false) ∧ (∀ n, inS (addG L s false) n ↔ inS L n ∨ (s.1 ≤ n ∧ n < s.2)) ∧ ∀ b, (b < s.1 ∧ ∀ t ∈ L, b < t.1) → ∀ t ∈ addG L s false, b < t.1
  | [], s, h, hs => by
    simp only [addG, Bool.false_eq_true, if_false]
    exact ⟨⟨hs, fun t ht => by simp at ht, trivial⟩, fun n => by simp [inS], fun b hb t ht => by simp at ht; subst ht; exact hb.1⟩
  | t :: r, s, h, hs => by
    obtain ⟨h1, h2, h3⟩ := h
    rw [addG]
    by_cases c1 : t.2 < s.1
    · rw [if_pos c1]
      obtain ⟨g1, g2, g3⟩ := qX6 h3 hs
      refine ⟨⟨h1, g3 t.2 ⟨c1, h2⟩, g1⟩, fun n => ?_, fun b hb u hu => ?_⟩
      · rw [zK2, g2, zK2, or_assoc]
      · rcases List.mem_cons.1 hu with rfl | hu
        · exact hb.2 u (by simp)
        · exact g3 b ⟨hb.1, fun v hv => hb.2 v (by simp [hv])⟩ u hu
    · rw [if_neg c1]
      by_cases c2 : t.1 > s.2
      · rw [if_pos c2, if_neg (by simp), qS6 h3 hs (fun u hu => by have := h2 u hu; omega)]
        refine ⟨⟨hs, fun u hu => ?_, h1, h2, h3⟩, fun n => ?_, fun b hb u hu => ?_⟩
        · rcases List.mem_cons.1 hu with rfl | hu
          · exact c2
          · have := h2 u hu; omega
        · rw [zK2 s]; exact or_comm
        · rcases List.mem_cons.1 hu with rfl | hu
          · exact hb.1
          · exact hb.2 u hu
      · rw [if_neg c2]
        obtain ⟨g1, g2, g3⟩ := qX6 (s := (min s.1 t.1, max s.2 t.2)) h3 (by simp only []; omega)
        refine ⟨g1, fun n => ?_, fun b hb u hu => ?_⟩
        · rw [g2, zK2]
          simp only []
          constructor
          · rintro (g | g)
            · exact .inl (.inr g)
            · by_cases hn : t.1 ≤ n ∧ n < t.2
              · exact .inl (.inl hn)
              · exact .inr (by omega)
          · rintro ((g | g) | g)
            · exact .inr (by omega)
            · exact .inl g
            · exact .inr (by omega)
        · have hbt := hb.2 t (by simp)
          exact g3 b ⟨by simp only []; omega, fun v hv => hb.2 v (by simp [hv])⟩ u hu
theorem yX4 {L O : List Spn} {s : Spn} (h : NormOf L O) : NormOf (L ++ [s]) (addS O s) := by
  unfold addS zU1
  by_cases hs : s.2 ≤ s.1
  · rw [if_pos (by simpa using hs)]
    refine ⟨h.right, fun n => ?_⟩
    rw [h.pts, qL3]
    exact ⟨.inl, fun g => g.elim id fun ⟨u, hu, g1, g2⟩ => by simp at hu; subst hu; omega⟩
  · rw [if_neg (by simpa using hs)]
    obtain ⟨g1, g2, -⟩ := qX6 h.right (show s.1 < s.2 by omega)
    refine ⟨g1, fun n => ?_⟩
    rw [g2, h.pts, qL3]
    simp [inS]
theorem yR9 : NormOf [] [] := ⟨trivial, fun _ => Iff.rfl⟩
theorem yB8 : ∀ (L : List Spn) (s : Spn) (b : Bool), (addG L s b).length ≤ L.length + 1
  | [], s, b => by unfold addG; cases b <;> simp
  | t :: r, s, b => by
    have h1 := fun s b => yB8 r s b
    unfold addG
    split
    · simp only [List.length_cons]; have := h1 s b; omega
    · split
      · split
        · simp only [List.length_cons]; have := h1 s b; omega
        · rename_i h2 h3
          simp only [List.length_cons]
          have hl : ∀ (r : List Spn) (s : Spn), (addG r s true).length ≤ r.length := by
            intro r
            induction r with
            | nil => intro s; simp [addG]
            | cons u r ih =>
              intro s
              unfold addG
              split
              · simp only [List.length_cons]; have := ih s; omega
              · split
                · simp only [if_true, List.length_cons]; have := ih s; omega
                · have := ih (min s.1 u.1, max s.2 u.2); simp only [List.length_cons]; omega
          have := hl r s
          omega
      · have := h1 (min s.1 t.1, max s.2 t.2) b; simp only [List.length_cons]; omega
theorem yS0 (L : List Spn) (s : Spn) : (addS L s).length ≤ L.length + 1 := by
  unfold addS
  split
  · omega
  · exact yB8 _ _ _
theorem yS1 {w : World} {base : Nat} {T : TypeId} {v : Value} {O : List Spn} {s : Spn} (h : w.ownsRow base T 2 v (O.length + 1) (encL O ++ [.int .i64 s.1, .int .i64 s.2])) : w.ownsRow base T 2 v (O ++ [s]).length (encL (O ++ [s])) := by
  rw [List.length_append, zK6]
  exact h
def nrm (L : List Spn) : List Spn := L.foldl addS []
theorem yS2 (L : List Spn) (s : Spn) : nrm (L ++ [s]) = addS (nrm L) s := by unfold nrm; rw [List.foldl_append]; rfl
theorem yS3 {L : List Spn} {k : Nat} (h : k < L.length) : addS (nrm (L.take k)) (gS L k) = nrm (L.take (k + 1)) := by
  rw [List.take_succ_eq_append_getElem h, yS2, zO1 h]
theorem qN9 : ∀ (L : List Spn) (k : Nat), k ≤ L.length → NormOf (L.take k) (nrm (L.take k)) ∧ (nrm (L.take k)).length ≤ k
  | L, 0, _ => by rw [List.take_zero]; exact ⟨yR9, Nat.le_refl _⟩
  | L, k + 1, h => by
    obtain ⟨h1, h2⟩ := qN9 L k (by omega)
    have h3 := yS0 (nrm (L.take k)) (gS L k)
    rw [← yS3 (show k < L.length by omega)]
    refine ⟨?_, by omega⟩
    rw [List.take_succ_eq_append_getElem (show k < L.length by omega), ← zO1]
    exact yX4 h1
theorem yU0 (L : List Spn) : NormOf L (nrm L) := by have := (qN9 L L.length (Nat.le_refl _)).1; rwa [List.take_length] at this
theorem yX5 (L : List Spn) : (nrm L).length ≤ L.length := by have := (qN9 L L.length (Nat.le_refl _)).2; rwa [List.take_length] at this
def pwT (A : List (List Int)) (seg a : Int) : Pt := decP (zH1 A seg a).1
def zI9 (A : List (List Int)) (l : List Spn) (seg a : Int) : List Spn := if zG4 (zB3 A) seg a < 0 then l else l ++ [(zG4 (zB3 A) seg a, zG4 (zB3 A) seg a + 1)]
def zF2 (A : List (List Int)) (l : List Spn) (seg a : Int) : List Spn :=
  if (pwT A seg a).kind ≠ 3 then zI9 A l seg a
  else if (pwT A seg a).dbl = true then zI9 A (zI9 A (zI9 A l seg a) (pwT A seg a).seg (pwT A seg a).off) (pwT A seg a).seg ((pwT A seg a).off + 1)
  else zI9 A (zI9 A l seg a) (pwT A seg a).seg (pwT A seg a).off
def atT (o : Ob) (k : Int) : Int := if o.kind = 1 then o.at_ + k + o.data else o.at_ + k
def goT (A : List (List Int)) : List Int → List Spn → Ob → List Spn × Ob
  | [], l, o => (l, o)
  | k :: ks, l, o => if o.kind = 0 ∨ (o.kind = 1 ∧ k ≥ o.ptrs) then goT A ks l Ob0 else goT A ks (zF2 A l o.seg (atT o k)) (zA0 (zB0 A) o.seg (atT o k)).1
def endT (A : List (List Int)) (l : List Spn) (o : Ob) (k : Int) : List Spn :=
  if k < 0 ∨ o.kind = 0 ∨ (o.kind = 1 ∧ k ≥ o.data) then l else zI9 A l o.seg (o.at_ + if o.kind = 2 ∧ o.size = 2 then k / 8 else k)
def zJ4 (A : List (List Int)) (ks : List Int) (a : Int) : List Spn :=
  endT A (goT A ks (zF2 A [] 0 0) (zA0 (zB0 A) 0 0).1).1 (goT A ks (zF2 A [] 0 0) (zA0 (zB0 A) 0 0).1).2 a
/-! ### each span is one word of the arena -/
def oneW (A : List (List Int)) (l : List Spn) : Prop := ∀ s ∈ l, ∃ k : Nat, s = ((k : Int), (k : Int) + 1) ∧ k < A.flatten.length
theorem oneW.note {A : List (List Int)} (h : zC7 A = true) {l : List Spn} (hl : oneW A l) (seg a : Int) : oneW A (zI9 A l seg a) ∧ (zI9 A l seg a).length ≤ l.length + 1 := by
  unfold zI9
  rcases zU0 h seg a with ⟨h1, h2⟩ | ⟨k, h1, h2, h3⟩
  · rw [if_pos h1]; exact ⟨hl, by omega⟩
  · have hn : ¬ zG4 (zB3 A) seg a < 0 := by omega
    rw [if_neg hn, h1]
    refine ⟨fun s hs => ?_, by simp⟩
    rcases List.mem_append.1 hs with hs | hs
    · exact hl s hs
    · simp only [List.mem_singleton] at hs; exact ⟨k, hs, h2⟩
theorem oneW.follow {A : List (List Int)} (h : zC7 A = true) {l : List Spn} (hl : oneW A l) (seg a : Int) : oneW A (zF2 A l seg a) ∧ (zF2 A l seg a).length ≤ l.length + 3 := by
  unfold zF2
  obtain ⟨h1, h2⟩ := hl.note h seg a
  obtain ⟨h3, h4⟩ := h1.note h (pwT A seg a).seg (pwT A seg a).off
  obtain ⟨h5, h6⟩ := h3.note h (pwT A seg a).seg ((pwT A seg a).off + 1)
  split
  · exact ⟨h1, by omega⟩
  · split
    · exact ⟨h5, by omega⟩
    · exact ⟨h3, by omega⟩
theorem oneW.go {A : List (List Int)} (h : zC7 A = true) : ∀ (ks : List Int) {l : List Spn} (o : Ob), oneW A l → oneW A (goT A ks l o).1 ∧ (goT A ks l o).1.length ≤ l.length + 3 * ks.length
  | [], l, o, hl => ⟨hl, by simp [goT]⟩
  | k :: ks, l, o, hl => by
    rw [goT]
    split
    · obtain ⟨h1, h2⟩ := oneW.go h ks Ob0 hl; exact ⟨h1, by simp only [List.length_cons]; omega⟩
    · obtain ⟨h1, h2⟩ := hl.follow h o.seg (atT o k)
      obtain ⟨h3, h4⟩ := oneW.go h ks (zA0 (zB0 A) o.seg (atT o k)).1 h1
      exact ⟨h3, by simp only [List.length_cons]; omega⟩
theorem oneW.end_ {A : List (List Int)} (h : zC7 A = true) {l : List Spn} (hl : oneW A l) (o : Ob) (k : Int) : oneW A (endT A l o k) ∧ (endT A l o k).length ≤ l.length + 1 := by
  unfold endT
  split
  · exact ⟨hl, by omega⟩
  · exact hl.note h _ _
theorem yN2 {A : List (List Int)} (h : zC7 A = true) (ks : List Int) (a : Int) : oneW A (zJ4 A ks a) ∧ (zJ4 A ks a).length ≤ 3 * ks.length + 4 := by
  unfold zJ4
  obtain ⟨h1, h2⟩ := oneW.follow h (l := []) (fun s hs => by simp at hs) 0 0
  obtain ⟨h3, h4⟩ := oneW.go h ks (zA0 (zB0 A) 0 0).1 h1
  obtain ⟨h5, h6⟩ := h3.end_ h (goT A ks (zF2 A [] 0 0) (zA0 (zB0 A) 0 0).1).2 a
  simp only [List.length_nil] at h2
  exact ⟨h5, by omega⟩
/-! ### where the touched words are there, the answer is the whole's -/
theorem qH9 (x : Int) : 0 ≤ (decP x).kind ∧ (decP x).kind ≤ 3 := by
  unfold decP
  (repeat' split) <;> simp [Pt0]
section
variable {A : List (List Int)} {wl kb : List Int}
end
/-! ### the chunks of the spans -/
theorem jC3 {s : Src} {ks : List Int} {a c : Int} (h : (zE8 s ks a c).2 = 0) : (∀ k ∈ ks, 0 ≤ k) ∧ ks.length ≤ 32 ∧ ∃ left, (zN9 s a ks (zA0 s 0 0).1 left).2 = 0 := by
  unfold zE8 at h
  by_cases h1 : ∃ k ∈ ks, k < 0
  · rw [if_pos h1] at h; simp at h
  · rw [if_neg h1] at h
    by_cases h2 : (ks.length : Int) > 32
    · rw [if_pos h2] at h; simp at h
    · rw [if_neg h2] at h
      by_cases h3 : (zA0 s 0 0).2 ≠ 0
      · rw [if_pos h3] at h; exact absurd h h3
      · rw [if_neg h3] at h
        by_cases h4 : max c (-1) - (1 + zB8 (zA0 s 0 0).1) < 0
        · rw [if_pos h4] at h; simp at h
        · rw [if_neg h4] at h
          exact ⟨fun k hk => by by_cases g : k < 0; exact absurd ⟨k, hk, g⟩ h1; omega, by omega, _, h⟩
theorem zS7 (A : List (List Int)) (l : List Spn) (seg a : Int) : (zI9 A l seg a).length ≤ l.length + 1 := by unfold zI9; split <;> simp
/-! ### a step, and what is there -/
/-! ### a path -/
theorem yX6 (s : Src) {o : Ob} (hk : ObK o) (k : Int) : ObK (zD9 s o k).1 := by
  unfold zD9
  (repeat' split) <;> first | exact .inl rfl | exact hk | exact zN3 _ _ _
theorem yX7 {s : Src} (hf : ∀ seg a, ObR (zA0 s seg a).1) {o : Ob} (ho : ObR o) (k : Int) : ObR (zD9 s o k).1 := by
  unfold zD9
  (repeat' split) <;> first | exact zD1 | exact ho | exact hf _ _
/-! ### what a path costs -/
/-! ### an arena as a source -/
theorem qS7 {A : List (List Int)} {seg a n : Int} (h : zF8 (zB0 A).sizes seg a n = true) : 0 ≤ seg ∧ seg < A.length ∧ 0 ≤ a ∧ 0 ≤ n ∧ a + n ≤ len2 A seg.toNat := by
  unfold zF8 zJ2 at h
  simp only [Bool.and_eq_true, decide_eq_true_eq] at h
  obtain ⟨⟨h3, h4⟩, h5, h6, h7, h8⟩ := h
  have hl : (zB0 A).sizes.length = A.length := by simp [zB0]
  have hz : (zB0 A).sizes.getD seg.toNat 0 = (len2 A seg.toNat : Int) := zH3 A seg.toNat
  rw [hl] at h4
  rw [hz] at h7 h8
  omega
/-! ### small things -/
theorem zZ4 {A : List (List Int)} (hA : A.length ≤ 16) (hl : ∀ q, len2 A q ≤ 4096) {p : Pt} (hp : PtR p) (hn : zH4 p = true) (seg a : Int) : ObR (zB4 (zB0 A) p seg a).1 := by
  unfold zB4
  split
  · exact zD1
  · split
    · exact zD1
    · rename_i hw
      obtain ⟨h1, h2, h3, h4, h5⟩ := qS7 (by simpa using hw)
      have h6 := hl seg.toNat
      have hk : p.kind = 1 ∨ p.kind = 2 := by simpa [zH4] using hn
      exact ⟨by show 0 ≤ p.kind ∧ p.kind ≤ 2; omega, by show 0 ≤ seg ∧ seg ≤ _; omega, by show 0 ≤ a ∧ a ≤ _; omega, hp.data, hp.ptrs, hp.size, hp.count⟩
theorem yN3 {A : List (List Int)} (hA : A.length ≤ 16) (hl : ∀ q, len2 A q ≤ 4096) (hx : ∀ q ∈ A, ∀ x ∈ q, inR .u64 x) (seg a : Int) : ObR (zA0 (zB0 A) seg a).1 := by
  have hp : ∀ seg a, PtR (ptrS (zB0 A) seg a).1 := fun seg a => by
    obtain ⟨h1, h2, -, -⟩ := zV5 hx seg a
    unfold ptrS
    split
    · exact zV3
    · exact zH7 _ h1 h2
  unfold zA0
  split
  · exact zD1
  · split
    · rename_i h; exact zZ4 hA hl (hp _ _) h _ _
    · split
      · unfold zD6
        split
        · exact zD1
        · split
          · exact zD1
          · split
            · exact zD1
            · split
              · exact zD1
              · split
                · exact zD1
                · rename_i h
                  obtain ⟨n1, n2, -, -⟩ := zV5 hx (ptrS (zB0 A) seg a).1.seg ((ptrS (zB0 A) seg a).1.off + 1)
                  refine zZ4 hA hl (zH7 _ n1 n2) ?_ _ _
                  cases hq : zH4 (decP (zH1 A (ptrS (zB0 A) seg a).1.seg ((ptrS (zB0 A) seg a).1.off + 1)).1) with
                  | true => rfl
                  | false => exact absurd (.inr (.inr (.inl hq))) h
      · unfold zD0
        split
        · exact zD1
        · split
          · exact zD1
          · rename_i h
            exact zZ4 hA hl (hp _ _) (by simpa using h) _ _
theorem zO7 {A : List (List Int)} (h : zC7 A = true) : A.length ≤ 16 ∧ ∀ q, len2 A q ≤ 4096 := by
  unfold zC7 at h
  obtain ⟨-, h2, -, h4⟩ := qT h
  exact ⟨h2, fun q => by have := zK8 A q; omega⟩
def decV (A : List (List Int)) : Nd × Int := if (decT A).2 ≠ 0 then (.nil, (decT A).2) else if (decT A).1.right 32 = false then (.nil, 23) else ((decT A).1, 0)
def eqT (A B : List (List Int)) : Bool := decide ((decV A).2 = 0) && (decide ((decV B).2 = 0) && (decV A).1.beq (decV B).1)
theorem qX7 : decT zS1 = (qH6, 0) := by
  unfold decT
  rw [if_neg (by decide), qW8]
theorem qI0 : decV zS1 = (qH6, 0) := by
  unfold decV
  rw [qX7, if_neg (by decide), if_neg (by decide +kernel)]
theorem yS4 : decV [] = (.nil, 1) := rfl
theorem yF7 : eqT zS1 zS1 = true := by unfold eqT; rw [qI0]; simp [yR1]
theorem qS8 : nrm (zJ4 zS1 [] 0) = [(0, 2)] := by decide +kernel
theorem qI1 : (zE8 (zB0 zS1) [] 0 8192).2 = 0 := by decide +kernel
theorem qS9 : zC7 zS1 = true := by decide
theorem qF8 : AllU zS1 := by
  intro q hq x hx
  simp only [zS1, List.mem_singleton] at hq
  subst hq
  simp only [List.mem_cons, List.not_mem_nil, or_false] at hx
  rcases hx with rfl | rfl <;> simp [inR]
end Go.Proofs.YtkkbbhpbcfcplaaGreat.K
namespace Go.Proofs.YtkkbbhpbcfcplaaGreat.K
open Go Go.RowKit Go.Proofs
attribute [local irreducible] Run1 OpG WL W AO zB6
theorem zU2 (w : World) {u : Value} {A : List (List Int)} (hA : zG2 w u A) (hn : A.length ≤ 8796093022208) (hx : ∀ q ∈ A, ∀ x ∈ q, inR .u64 x) : Calls Tryz.prog 36 #[u] w (Ret fun v w' => ∃ cells, v = .tuple #[.agg cells.toArray, .int .u16 (decV A).2] ∧ NodeR (hide w.heap.size w') cells (decV A).1 ∧ Grow w w') := by
 have G := Grow.rfl' w
 refine zC2 Tryz.func36 Tryz.ntmps36 Tryz.results36 rfl rfl ?_
 refine qZ 2 ?_
 refine stp (zA7 ?_)
 intro b1 w2 hb3 hc4 g5
 refine qZ 2 ?_
 have hge6 := Nat.le_trans G.size hb3
 replace G := G.tr g5
 clear g5 hb3
 refine qZ 2 ?_
 refine stp (zH5 (v := u) rfl ?_)
 refine stp ?_
 obtain ⟨B, hB⟩ : ∃ B, B = w2.heap.size := ⟨_, rfl⟩
 have hwB : w.heap.size ≤ B := by rw [hB]; exact G.size
 have hlt_b1 : b1 < B := by rw [hB]; exact zC1 hc4
 refine zD7 rfl (qN2 _ (hA.grow G) hn hx) ?_
 rintro v_ w7 ⟨cells_, rfl, hU_, g_⟩
 rw [← hB] at hU_
 have hU := hU_
 clear hU_
 replace hc4 := g_.heap hc4
 replace G := G.tr g_
 clear g_
 obtain ⟨y08, y19, ya10, yn11, yc12, za13, zn14, zc15, ua16, un17, uc18, rfl⟩ := hU.cells
 refine qZ 3 ?_
 refine stp (zA7 ?_)
 intro b19 w20 hb21 hc22 g23
 refine stn (qS hc22 ?_)
 intro w24 hc25 u26
 have g27 := g23.upd u26 hb21
 have hge28 := Nat.le_trans G.size hb21
 have ne29 := qN hc4 hb21
 replace hc4 := g27.heap hc4
 replace hU := hU.sees (Sees.grow g27)
 replace G := G.tr g27
 clear u26 g23 hb21 hc22
 refine qZ 7 ?_
 refine stp (zG9 rfl rfl ?_)
 refine qZ 2 ?_
 refine zA2 (b := (decide (((decT A).2) ≠ 0))) rfl (fun h1 => ?_) (fun h1 => ?_)
 ·
  replace h1 := qT h1
  refine qZ 2 ?_
  refine stp (zA9 (v := .agg #[.int .i64 0, .int .i64 0, .slice none 0 0, .slice none 0 0, .slice none 0 0]) (fun w => by kernel_rfl) ?_)
  refine qZ 1 ?_
  refine stn (qS hc4 ?_)
  intro w30 hc31 u32
  replace hU := hU.sees (Sees.upd u32 (fun h_ => by omega))
  replace hc25 := u32.heap hc25 ne29.symm
  replace G := G.upd u32 hge6
  clear u32 hc4
  refine qZ 3 ?_
  have h9 : decV A = (.nil, (decT A).2) := by unfold decV; rw [if_pos h1]
  rw [h9]
  refine ret2 (zA5 rfl hc31 (by rfl)) (zA1 (v := .int .u16 ((decT A).2)) rfl) ⟨[_, _, _, _, _], rfl, NodeR.zero _, G⟩
 ·
  replace h1 := qF h1
  refine qZ 3 ?_
  refine stp (zA4 (v := .bool ((decT A).1.right 32)) rfl (qW0 _ (hU.sees (Sees.seen _ _))) ?_)
  intro w33 g34
  replace hc4 := g34.heap hc4
  replace hU := hU.sees (Sees.grow g34)
  replace hc25 := g34.heap hc25
  replace G := G.tr g34
  clear g34
  refine stp (zN8 rfl ?_)
  refine qZ 2 ?_
  refine zA2 (b := (!((decT A).1.right 32))) rfl (fun h2 => ?_) (fun h2 => ?_)
  ·
   simp only [sb] at h2
   refine qZ 2 ?_
   refine stp (zA9 (v := .agg #[.int .i64 0, .int .i64 0, .slice none 0 0, .slice none 0 0, .slice none 0 0]) (fun w => by kernel_rfl) ?_)
   refine stn (qS hc4 ?_)
   intro w35 hc36 u37
   replace hU := hU.sees (Sees.upd u37 (fun h_ => by omega))
   replace hc25 := u37.heap hc25 ne29.symm
   replace G := G.upd u37 hge6
   clear u37 hc4
   refine qZ 3 ?_
   have h9 : decV A = (.nil, 23) := by unfold decV; rw [if_neg h1, if_pos (by simpa using h2)]
   rw [h9]
   refine ret2 (zA5 rfl hc36 (by rfl)) (zA1 (v := .int .u16 23) rfl) ⟨[_, _, _, _, _], rfl, NodeR.zero _, G⟩
  ·
   simp only [sb] at h2
   refine qZ 4 ?_
   refine stn (qS hc4 ?_)
   intro w38 hc39 u40
   replace hU := hU.sees (Sees.upd u40 (fun h_ => by omega))
   replace hc25 := u40.heap hc25 ne29.symm
   replace G := G.upd u40 hge6
   clear u40 hc4
   refine qZ 3 ?_
   have h9 : decV A = ((decT A).1, 0) := by unfold decV; rw [if_neg h1, if_neg (by simpa using h2)]
   rw [h9]
   refine ret2 (zA5 rfl hc39 (by rfl)) (zA1 (v := .int .u16 0) rfl) ⟨[_, _, _, _, _], rfl, hU.sees (Sees.low hwB _), G⟩
theorem qI2 (w : World) {u : Value} {A : List (List Int)} (hA : zG2 w u A) (hn : A.length ≤ 8796093022208) (hx : ∀ q ∈ A, ∀ x ∈ q, inR .u64 x) : zB6 Tryz.prog 16 #[u] w (.int .u16 ((decV A).2)) := by
 have G := Grow.rfl' w
 refine zA8 Tryz.func16 Tryz.ntmps16 Tryz.results16 rfl rfl ?_
 refine qZ 6 ?_
 refine stp (zH5 (v := u) rfl ?_)
 refine stp ?_
 refine zD7 rfl (zU2 _ (hA.grow G) hn hx) ?_
 rintro v_ w1 ⟨cells_, rfl, hU_, g_⟩
 have hU := hU_.sees (Sees.seen _ _)
 clear hU_
 replace G := G.tr g_
 clear g_
 obtain ⟨y02, y13, ya4, yn5, yc6, za7, zn8, zc9, ua10, un11, uc12, rfl⟩ := hU.cells
 refine qZ 3 ?_
 refine stp (zA7 ?_)
 intro b13 w14 hb15 hc16 g17
 refine stn (qS hc16 ?_)
 intro w18 hc19 u20
 have g21 := g17.upd u20 hb15
 have hge22 := Nat.le_trans G.size hb15
 replace hU := hU.grow g21
 replace G := G.tr g21
 clear u20 g17 hb15 hc16
 refine qZ 8 ?_
 refine ret1 (zA1 (v := .int .u16 ((decV A).2)) rfl) ⟨?_, G⟩
 rfl
theorem qX8 (w : World) {u : Value} {A : List (List Int)} (hA : zG2 w u A) (hn : A.length ≤ 8796093022208) (hx : ∀ q ∈ A, ∀ x ∈ q, inR .u64 x) {v : Value} {B : List (List Int)} (hB : zG2 w v B) (hnB : B.length ≤ 8796093022208) (hxB : ∀ q ∈ B, ∀ x ∈ q, inR .u64 x) : zB6 Tryz.prog 27 #[u, v] w (.bool (eqT A B)) := by
 have G := Grow.rfl' w
 refine zA8 Tryz.func27 Tryz.ntmps27 Tryz.results27 rfl rfl ?_
 refine qZ 6 ?_
 refine stp (zH5 (v := u) rfl ?_)
 refine stp ?_
 refine zD7 rfl (zU2 _ (hA.grow G) hn hx) ?_
 rintro v_ w1 ⟨cells_, rfl, hU_, g_⟩
 have hU := hU_.sees (Sees.seen _ _)
 clear hU_
 replace G := G.tr g_
 clear g_
 obtain ⟨y02, y13, ya4, yn5, yc6, za7, zn8, zc9, ua10, un11, uc12, rfl⟩ := hU.cells
 refine qZ 3 ?_
 refine stp (zA7 ?_)
 intro b13 w14 hb15 hc16 g17
 refine stn (qS hc16 ?_)
 intro w18 hc19 u20
 have g21 := g17.upd u20 hb15
 have hge22 := Nat.le_trans G.size hb15
 replace hU := hU.grow g21
 replace G := G.tr g21
 clear u20 g17 hb15 hc16
 refine qZ 4 ?_
 refine stp (zH5 (v := v) rfl ?_)
 refine stp ?_
 refine zD7 rfl (zU2 _ (hB.grow G) hnB hxB) ?_
 rintro v_ w23 ⟨cells_, rfl, hU_, g_⟩
 have hV := hU_.sees (Sees.seen _ _)
 clear hU_
 replace hU := hU.grow g_
 replace hc19 := g_.heap hc19
 replace G := G.tr g_
 clear g_
 obtain ⟨y024, y125, ya26, yn27, yc28, za29, zn30, zc31, ua32, un33, uc34, rfl⟩ := hV.cells
 refine qZ 3 ?_
 refine stp (zA7 ?_)
 intro b35 w36 hb37 hc38 g39
 refine stn (qS hc38 ?_)
 intro w40 hc41 u42
 have g43 := g39.upd u42 hb37
 have hge44 := Nat.le_trans G.size hb37
 have ne45 := qN hc19 hb37
 replace hU := hU.grow g43
 replace hc19 := g43.heap hc19
 replace hV := hV.grow g43
 replace G := G.tr g43
 clear u42 g39 hb37 hc38
 refine qZ 5 ?_
 refine stp (zD5 rfl rfl ?_)
 refine qZ 1 ?_
 refine qG 1 ?_
 refine zA3 (zB2 (s := .bool _) (v := .bool (decide (((decV B).2) = 0))) rfl (zE2 _) (fun hc47 => ?_) ?_)
 ·
  have hc47_ := qT hc47
  refine zD5 (gvt hc47) rfl ?_
  exact ⟨rfl, rfl⟩
 refine stp (zG8 rfl rfl rfl ?_)
 refine qZ 1 ?_
 refine zA3 (zB2 (s := .bool _) (v := .agg #[.int .i64 y02, .int .i64 y13, .slice ya4 yn5 yc6, .slice za7 zn8 zc9, .slice ua10 un11 uc12]) rfl (zE2 _) (fun hc48 => ?_) ?_)
 ·
  obtain ⟨hc48a, hc48b⟩ := and_t hc48
  have hc48a_ := qT hc48a
  have hc48b_ := qT hc48b
  refine zD8 rfl hc19 (by rfl) ?_
  exact ⟨rfl, rfl⟩
 refine zA3 (zB2 (s := .bool _) (v := .agg #[.int .i64 y024, .int .i64 y125, .slice ya26 yn27 yc28, .slice za29 zn30 zc31, .slice ua32 un33 uc34]) rfl (zE2 _) (fun hc49 => ?_) ?_)
 ·
  obtain ⟨hc49a, hc49b⟩ := and_t hc49
  have hc49a_ := qT hc49a
  have hc49b_ := qT hc49b
  refine zD8 rfl hc41 (by rfl) ?_
  exact ⟨rfl, rfl⟩
 refine zA3 (zX8 (s := .bool ((decide (((decV A).2) = 0)) && (decide (((decV B).2) = 0)))) (b := true) (v := .bool ((decV A).1.beq (decV B).1)) rfl (zE2 _) (fun hc50 => ?_) ?_)
 ·
  obtain ⟨hc50a, hc50b⟩ := and_t hc50
  have hc50a_ := qT hc50a
  have hc50b_ := qT hc50b
  exact zM7 (l := ([.agg #[.int .i64 y02, .int .i64 y13, .slice ya4 yn5 yc6, .slice za7 zn8 zc9, .slice ua10 un11 uc12], .agg #[.int .i64 y024, .int .i64 y125, .slice ya26 yn27 yc28, .slice za29 zn30 zc31, .slice ua32 un33 uc34]] : List Value)) rfl (by show ([gv ((decide (((decV A).2) = 0)) && (decide (((decV B).2) = 0))) (.agg #[.int .i64 y02, .int .i64 y13, .slice ya4 yn5 yc6, .slice za7 zn8 zc9, .slice ua10 un11 uc12]), gv ((decide (((decV A).2) = 0)) && (decide (((decV B).2) = 0))) (.agg #[.int .i64 y024, .int .i64 y125, .slice ya26 yn27 yc28, .slice za29 zn30 zc31, .slice ua32 un33 uc34])] : List Value) = _; rw [gvt hc50, gvt hc50]) (yF2 _ _ hU hV (Nat.le_refl _)) (fun w2_ g2_ => ⟨rfl, g2_⟩)
 intro w51 g52
 replace hU := hU.grow g52
 replace hc19 := g52.heap hc19
 replace hV := hV.grow g52
 replace hc41 := g52.heap hc41
 replace G := G.tr g52
 clear g52
 refine stp (zG8 rfl rfl rfl ?_)
 refine qZ 3 ?_
 refine ret1 (zA1 (v := .bool (((decide (((decV A).2) = 0)) && (decide (((decV B).2) = 0))) && ((decV A).1.beq (decV B).1))) rfl) ⟨?_, G⟩
 unfold eqT; rw [Bool.and_assoc]
end Go.Proofs.YtkkbbhpbcfcplaaGreat.K
namespace Go.Proofs.YtkkbbhpbcfcplaaGreat.K
open Go Go.RowKit
def viaS (P : Program) (t : TypeId) (name : String) : Option (TypeId × Nat) :=
  match P.info? t with
  | some i => (match i.methods.find? (·.name == name) with
    | some m => (match m.path.toList, m.func with
      | [s], none => if s.deref then some (s.struct, s.index) else none
      | _, _ => none)
    | none => none)
  | none => none
class ViaI (P : Program) (t : TypeId) (name : String) (S : outParam TypeId) (j : outParam Nat) : Prop where
  h : viaS P t name = some (S, j)
class MethN (P : Program) (t : TypeId) (name : String) (f : FuncId) : Prop where
  m : ∀ (v : Value) (w : World), (method (P.types.size + 99) t v name).run P w = .ok (f, v) w
  c : ∀ (args : Array Value) (w : World), (callFunc f args).run P w = .ok (.enter f args) w
theorem yX8 {P : Program} {w : World} {t t' S ft : TypeId} {name : String} {j off n b o : Nat} {f : FuncId} {cs : Array Value} {T : TypeId} {fr : Nat × Nat} {v' : Value} {args : Array Value}
    [hv : ViaI P t name S j] [hfi : FldI P S j off] [hft : FtI P S j ft] [hti : TyI P ft n false] (hm : MethN P t' name f)
    (hb : w.heap[b]? = some (.cells cs T fr)) (hc : cs[o + off]? = some (.iface t' v')) :
    (callMethod (.iface t (.pointer (some ⟨b, o, none⟩))) name args).run P w = .ok (.enter f (#[v'] ++ args)) w := by
  have hl : (loadVar ft ⟨b, o + off, none⟩).run P w = .ok (.iface t' v') w := by
    have ht := hti.h
    unfold tyS at ht
    split at ht
    · rename_i i dd hi hu
      simp only [Option.some.injEq, Prod.mk.injEq] at ht
      have hagg : (isAgg ft).run P w = .ok false w := by
        simp only [isAgg, underlying, program, Sem.run_bind, Sem.run, hu, Result.andThen_ok]
        cases dd <;> first | rfl | simp at ht
      simp only [loadVar, Sem.run_bind, hagg, Result.andThen_ok]
      simp [zV0 hb, hc]
    · cases ht
  have hs := hv.h
  unfold viaS at hs
  split at hs
  · rename_i i hi
    split at hs
    · rename_i m hmt
      split at hs
      · rename_i s hp hf
        split at hs
        · rename_i hd
          simp only [Option.some.injEq, Prod.mk.injEq] at hs
          obtain ⟨rfl, rfl⟩ := hs
          have hff := hfi.h
          have hft2 := hft.h
          unfold fldS at hff
          unfold ftS at hft2
          have hfol : (follow m.path.toList t (.val (.pointer (some ⟨b, o, none⟩)))).run P w = .ok (ft, .var ⟨b, o + off, none⟩) w := by
            rw [hp]
            split at hff
            · rename_i fs hu
              split at hff
              · rename_i fl hfl
                split at hff
                · rename_i i2 hi2
                  split at hff
                  · cases hff
                  · rename_i hz
                    simp only [Option.some.injEq] at hff
                    simp only [hu, hfl, Option.map_some, Option.some.injEq] at hft2
                    subst hff
                    have h1 : (underlying s.struct).run P w = .ok (.struct fs) w := by simp only [underlying, program, Sem.run_bind, Sem.run, hu, Result.andThen_ok, Sem.run_pure]
                    have h2 : (fieldPlace ⟨b, o, none⟩ fl).run P w = .ok ⟨b, o + fl.offset, none⟩ w := by
                      simp only [fieldPlace, sizeOf, typeInfo, program, Sem.run_bind, Sem.run, hi2, Result.andThen_ok, Sem.run_pure, hz, if_false, add_lit]
                    simp only [follow, hd, if_true, Place.get, asAddr, Sem.run_bind, Sem.run_pure, Result.andThen_ok, h1, hfl, h2, hft2]
                · cases hff
              · cases hff
            · cases hff
          have hin : (typeInfo t).run P w = .ok i w := by simp only [typeInfo, program, Sem.run_bind, Sem.run, hi, Result.andThen_ok, Sem.run_pure]
          have hme : (method (P.types.size + 99 + 1) t (.pointer (some ⟨b, o, none⟩)) name).run P w = .ok (f, v') w := by
            have hm' := hm.m v' w
            generalize P.types.size + 99 = k at hm' ⊢
            simp only [method, Sem.run_bind, hin, Result.andThen_ok, hmt, hfol, hf, Place.get, hl]
            exact hm'
          show ((method (P.types.size + 99 + 1) t (.pointer (some ⟨b, o, none⟩)) name >>= fun x => callFunc x.1 (#[x.2] ++ args)) : Sem Next).run P w = _
          rw [Sem.run_bind, hme, Result.andThen_ok]
          exact hm.c _ w
        · cases hs
      · cases hs
    · cases hs
  · cases hs
structure NkP (F : List Nat) (T : TypeId) (base : Nat) (w w' : World) : Prop where
  os : w'.os = w.os
  tape : w'.tape = w.tape
  output : w'.output = w.output
  size : w.heap.size ≤ w'.heap.size
  old : ∀ k : Nat, k < w.heap.size → k ∉ F → (k < base ∨ ¬ ∃ cs, w.heap[k]? = some (.cells cs T (0, 0))) → w'.heap[k]? = w.heap[k]?
section
variable {F : List Nat} {T : TypeId} {base : Nat} {a b c w w' w0 : World}
theorem NkP.refl (F : List Nat) (T : TypeId) (base : Nat) (w : World) : NkP F T base w w := ⟨rfl, rfl, rfl, Nat.le_refl _, fun _ _ _ _ => rfl⟩
theorem NkP.tr (h : NkP F T base a b) (k : NkP F T base b c) : NkP F T base a c :=
  ⟨k.os.trans h.os, k.tape.trans h.tape, k.output.trans h.output, Nat.le_trans h.size k.size, fun i hi hF hc => by
    have h1 := h.old i hi hF hc
    rw [k.old i (Nat.lt_of_lt_of_le hi h.size) hF (by rw [h1]; exact hc), h1]⟩
theorem NkP.of_grow (g : Grow a b) : NkP F T base a b := ⟨g.os, g.tape, g.output, g.size, fun k hk _ _ => g.block k hk⟩
theorem NkP.mono {F2 : List Nat} (h : NkP F T base a b) (hs : ∀ x ∈ F, x ∈ F2) : NkP F2 T base a b := ⟨h.os, h.tape, h.output, h.size, fun k hk hF hc => h.old k hk (fun hm => hF (hs k hm)) hc⟩
theorem NkP.of_upd {b : Nat} (u : Upd b w w') (hb : b ∈ F) : NkP F T base w w' := ⟨u.os, u.tape, u.output, by rw [u.size]; exact Nat.le_refl _, fun k hk hF _ => u.other k (fun he => hF (he ▸ hb))⟩
theorem NkP.upd_new {b : Nat} (h : NkP F T base a w) (u : Upd b w w') (hb : a.heap.size ≤ b) : NkP F T base a w' :=
  ⟨u.os.trans h.os, u.tape.trans h.tape, u.output.trans h.output, by rw [u.size]; exact h.size, fun k hk hF hc => by rw [u.other k (fun he => by omega), h.old k hk hF hc]⟩
theorem NkP.new_kp {G : List Nat} (h : NkP F T base a w) (u : Kp G w w') (hb : ∀ x ∈ G, a.heap.size ≤ x ∨ x ∈ F) : NkP F T base a w' :=
  ⟨u.os.trans h.os, u.tape.trans h.tape, u.output.trans h.output, Nat.le_trans h.size u.size, fun k hk hF hc => by
    rw [u.block k (Nat.lt_of_lt_of_le hk h.size) (fun hm => by rcases hb k hm with h1 | h1; omega; exact hF h1), h.old k hk hF hc]⟩
theorem NkP.new_nk {G : List Nat} (h : NkP F T base a w) (u : NkP G T base w w') (hb : ∀ x ∈ G, a.heap.size ≤ x ∨ x ∈ F) : NkP F T base a w' :=
  ⟨u.os.trans h.os, u.tape.trans h.tape, u.output.trans h.output, Nat.le_trans h.size u.size, fun k hk hF hc => by
    have h1 := h.old k hk hF hc
    rw [u.old k (Nat.lt_of_lt_of_le hk h.size) (fun hm => by rcases hb k hm with h2 | h2; omega; exact hF h2) (by rw [h1]; exact hc), h1]⟩
theorem NkP.heap {k : Nat} {cs : Array Value} {T2 : TypeId} {fr : Nat × Nat} (h : NkP F T base w w') (hk : w.heap[k]? = some (.cells cs T2 fr)) (hF : k ∉ F) (hT : T2 ≠ T) : w'.heap[k]? = some (.cells cs T2 fr) := by
  rw [h.old k (zC1 hk) hF (.inr fun ⟨cs2, h2⟩ => by rw [hk] at h2; simp only [Option.some.injEq, Obj.cells.injEq] at h2; exact hT h2.2.1)]
  exact hk
theorem NkP.to_grow (k : NkP F T base w w') (g : Grow w0 w) (hF : ∀ x ∈ F, w0.heap.size ≤ x) (hb : w0.heap.size ≤ base) : Grow w0 w' :=
  ⟨k.os.trans g.os, k.tape.trans g.tape, k.output.trans g.output, Nat.le_trans g.size k.size, fun i hi => by
    rw [k.old i (Nat.lt_of_lt_of_le hi g.size) (fun hm => by have := hF i hm; omega) (.inl (by omega)), g.block i hi]⟩
theorem NkP.of_grown {sz n : Nat} {v : Value} {xs : List Value} (own : w.ownsRow base T sz v n xs) (gr : w.grownBy w' v.ownBlock) : NkP F T base w w' :=
  ⟨gr.os, gr.tape, gr.output, gr.size, fun k hk _ hc => gr.block k hk (fun he => by
    rcases own.2 with ⟨rfl, _⟩ | ⟨q, cap, cur, rfl, hq, hg, _⟩
    · simp [Value.ownBlock] at he
    · simp only [Value.ownBlock, Option.some.injEq] at he
      subst he
      rcases hc with hc | hc
      · omega
      · exact hc ⟨cur, hg⟩)⟩
end
def nkR (F : List Nat) (T : TypeId) (base : Nat) : KpR := ⟨NkP F T base, NkP.refl F T base, NkP.tr, NkP.of_grow⟩
theorem zP5 {w : World} {k b : Nat} {cs cs2 : Array Value} {T T2 : TypeId} {fr fr2 : Nat × Nat} (h : w.heap[k]? = some (.cells cs T fr)) (h2 : w.heap[b]? = some (.cells cs2 T2 fr2)) (hT : T ≠ T2) : k ≠ b := by
  intro he; subst he; rw [h] at h2; simp only [Option.some.injEq, Obj.cells.injEq] at h2; exact hT h2.2.1
def NtS (TS TN TE : TypeId) (base : Nat) (w : World) (u : Value) (bn : Nat) (L : List Spn) : Prop :=
  ∃ ad c, w.heap[bn]? = some (.cells #[.iface TS (.agg #[u]), .slice ad L.length c] TN (0, 0)) ∧ w.ownsRow base TE 2 (.slice ad L.length c) L.length (encL L)
section
variable {TS TN TE : TypeId} {base : Nat} {w w' : World} {u : Value} {bn : Nat} {L : List Spn}
theorem NtS.grow (h : NtS TS TN TE base w u bn L) (g : Grow w w') : NtS TS TN TE base w' u bn L := by
  obtain ⟨ad, c, h1, h2⟩ := h
  exact ⟨ad, c, g.heap h1, zB7 h2 g⟩
theorem NtS.upd {b : Nat} {cs : Array Value} {T : TypeId} {fr : Nat × Nat} (h : NtS TS TN TE base w u bn L) (up : Upd b w w') (hb : w.heap[b]? = some (.cells cs T fr)) (h1 : T ≠ TN) (h2 : T ≠ TE) : NtS TS TN TE base w' u bn L := by
  obtain ⟨ad, c, g1, g2⟩ := h
  exact ⟨ad, c, up.heap g1 (zP5 g1 hb (Ne.symm h1)), zG5 g2 up (zF3 g2 hb (Ne.symm h2))⟩
theorem yX9 {b sz n : Nat} {T : TypeId} {cs : Array Value} {T2 : TypeId} {fr : Nat × Nat} {v : Value} {xs : List Value} (h : w.ownsRow base T sz v n xs) (k : Kp [b] w w') (hb : w.heap[b]? = some (.cells cs T2 fr)) (hT : T2 ≠ T) : w'.ownsRow base T sz v n xs := by
  refine ⟨h.1, ?_⟩
  have hne := zF3 h hb (Ne.symm hT)
  rcases h.2 with hn | ⟨q, cap, cur, rfl, hq, hg, rest⟩
  · exact .inl hn
  · exact .inr ⟨q, cap, cur, rfl, hq, k.heap hg (fun hm => hne (by simp only [List.mem_singleton] at hm; rw [hm]; rfl)), rest⟩
theorem NtS.kp {b : Nat} {cs : Array Value} {T : TypeId} {fr : Nat × Nat} (h : NtS TS TN TE base w u bn L) (k : Kp [b] w w') (hb : w.heap[b]? = some (.cells cs T fr)) (h1 : T ≠ TN) (h2 : T ≠ TE) : NtS TS TN TE base w' u bn L := by
  obtain ⟨ad, c, g1, g2⟩ := h
  exact ⟨ad, c, k.heap g1 (fun hm => by simp only [List.mem_singleton] at hm; exact zP5 g1 hb (Ne.symm h1) hm), yX9 g2 k hb h2⟩
theorem NkP.hpN {k : Nat} {cs : Array Value} {T : TypeId} {fr : Nat × Nat} (r : NkP [bn] TE base w w') (st : NtS TS TN TE base w u bn L) (h : w.heap[k]? = some (.cells cs T fr)) (h1 : T ≠ TN) (h2 : T ≠ TE) : w'.heap[k]? = some (.cells cs T fr) := by
  obtain ⟨ad, c, g1, -⟩ := st
  exact r.heap h (fun hm => by simp only [List.mem_singleton] at hm; exact zP5 h g1 h1 hm) h2
theorem NkP.hpN2 {k b : Nat} {cs cb : Array Value} {T TB : TypeId} {fr fb : Nat × Nat} (r : NkP [bn, b] TE base w w') (st : NtS TS TN TE base w u bn L) (hb : w.heap[b]? = some (.cells cb TB fb)) (h : w.heap[k]? = some (.cells cs T fr)) (h1 : T ≠ TN) (h2 : T ≠ TE) (h3 : T ≠ TB) : w'.heap[k]? = some (.cells cs T fr) := by
  obtain ⟨ad, c, g1, -⟩ := st
  exact r.heap h (fun hm => by
    simp only [List.mem_cons, List.not_mem_nil, or_false] at hm
    rcases hm with hm | hm
    · exact zP5 h g1 h1 hm
    · exact zP5 h hb h3 hm) h2
end
section
variable {P : Program} {ops : Array Oper} {e : Env} {w : World} {K : Value → World → Prop} {d : Option Nat} {ty : TypeId} {pos : String} {af : Array Edge} {g : Option (Nat × Bool)} {x : Operand}
theorem jC4 {name : String} {args : Array Operand} {at_ : Array TypeId} {f : FuncId} {v' : Value} {F : Value → World → Prop} {t t' S ft : TypeId} {j off n b : Nat} {cs : Array Value} {T : TypeId} {fr : Nat × Nat}
    [hv : ViaI P t name S j] [hfi : FldI P S j off] [hft : FtI P S j ft] [hti : TyI P ft n false] (hm : MethN P t' name f) (hx : ev e x = .iface t (.pointer (some ⟨b, 0, none⟩)))
    (hb : w.heap[b]? = some (.cells cs T fr)) (hc0 : cs[off]? = some (.iface t' v'))
    (hc : Calls P f (v' :: args.toList.map (ev e)).toArray w (Ret F)) (h : ∀ v w', F v w' → K v w') : Run1 P ⟨d, .call ⟨.invoke x name, args, at_⟩, ty, pos, af, g⟩ e w K := by
  have ha : ((#[ev e x] ++ args.map (ev e)).extract 1 (#[ev e x] ++ args.map (ev e)).size) = args.map (ev e) := by
    apply Array.ext'
    simp
    exact List.take_of_length_le (by simp)
  have h0 : (#[ev e x] ++ args.map (ev e))[0]? = some (.iface t (.pointer (some ⟨b, 0, none⟩))) := by rw [hx, Array.getElem?_append_left (by simp)]; rfl
  have hbb : #[v'] ++ args.map (ev e) = (v' :: args.toList.map (ev e)).toArray := by
    apply Array.ext'
    simp
  have hr : (execOp (ev e) ⟨d, .call ⟨.invoke x name, args, at_⟩, ty, pos, af, g⟩).run P w = .ok (.enter f (v' :: args.toList.map (ev e)).toArray) w := by
    simp only [execOp, resolve, Sem.run_bind, Sem.run_pure, Result.andThen_ok, invoke, h0, ha]
    rw [yX8 (o := 0) hm hb (by rw [Nat.zero_add]; exact hc0), hbb]
  unfold Run1
  rw [hr]
  exact hc.mono fun r w' ⟨v, hv, hF⟩ => ⟨v, hv, h v w' hF⟩
variable {y z : Operand}
theorem zB6.c {f : FuncId} {a : Array Value} {v : Value} (h : zB6 P f a w v) : Calls P f a w (Ret fun r w' => r = v ∧ Grow w w') := h
theorem zN4 {name : String} {at_ : Array TypeId} {f : FuncId} {v a b : Value} {F : Value → World → Prop} {T : TypeId} (hm : MethI P T name f) (hx : ev e x = .iface T v) (hy : ev e y = a) (hz : ev e z = b)
    (hc : Calls P f #[v, a, b] w (Ret F)) (h : ∀ v w', F v w' → K v w') : Run1 P ⟨d, .call ⟨.invoke x name, #[y, z], at_⟩, ty, pos, af, g⟩ e w K := by
  refine qF5 hm hx ?_ h
  rw [show ((v :: (#[y, z] : Array Operand).toList.map (ev e)).toArray) = #[v, a, b] from by simp [hy, hz]]
  exact hc
theorem jB2 {name : String} {at_ : Array TypeId} {f : FuncId} {v' : Value} {F : Value → World → Prop} {t t' S ft : TypeId} {j off n b : Nat} {cs : Array Value} {T : TypeId} {fr : Nat × Nat}
    [hv : ViaI P t name S j] [hfi : FldI P S j off] [hft : FtI P S j ft] [hti : TyI P ft n false] (hm : MethN P t' name f) (hx : ev e x = .iface t (.pointer (some ⟨b, 0, none⟩)))
    (hb : w.heap[b]? = some (.cells cs T fr)) (hc0 : cs[off]? = some (.iface t' v'))
    (hc : Calls P f #[v'] w (Ret F)) (h : ∀ v w', F v w' → K v w') : Run1 P ⟨d, .call ⟨.invoke x name, #[], at_⟩, ty, pos, af, g⟩ e w K :=
  jC4 hm hx hb hc0 hc h
end
/-! ### an arena as the source -/
section
variable {A : List (List Int)} {s : Src}
theorem num9 (hs : s = zB0 A) (hx : AllU A) (seg a : Int) : 0 ≤ (s.word seg a).1 ∧ (s.word seg a).1 ≤ 18446744073709551615 ∧ 0 ≤ (s.word seg a).2 ∧ (s.word seg a).2 ≤ 65535 := by subst hs; exact zV5 hx seg a
theorem ptr9 (hs : s = zB0 A) (hx : AllU A) (seg a : Int) : PtR (ptrS s seg a).1 := by
  obtain ⟨h1, h2, -, -⟩ := num9 hs hx seg a
  unfold ptrS
  split
  · exact zV3
  · exact zH7 _ h1 h2
theorem fol9 (hs : s = zB0 A) (hr : zC7 A = true) (hx : AllU A) (seg a : Int) : ObR (zA0 s seg a).1 := by
  obtain ⟨h1, h2⟩ := zO7 hr
  subst hs; exact yN3 h1 h2 hx seg a
theorem jC5 (hs : s = zB0 A) (hr : zC7 A = true) : ∀ i, i < s.sizes.length → 0 ≤ s.sizes.getD i 0 ∧ s.sizes.getD i 0 ≤ 140737488355328 := by
  obtain ⟨-, h2⟩ := zO7 hr
  subst hs
  intro i _
  have h3 : (zB0 A).sizes.getD i 0 = (len2 A i : Int) := zH3 A i
  have := h2 i
  omega
theorem yU1 (hs : s = zB0 A) : s.sizes = zB3 A := by subst hs; rfl
theorem jB3 (hs : s = zB0 A) (hr : zC7 A = true) {seg a : Int} (h : (ptrS s seg a).2 = 0) : 0 ≤ seg ∧ seg ≤ 16 ∧ 0 ≤ a ∧ a ≤ 4096 := by
  obtain ⟨h1, h2⟩ := zO7 hr
  subst hs
  have h3 : ((zB0 A).word seg a).2 = 0 := by
    unfold ptrS at h
    by_cases h0 : ((zB0 A).word seg a).2 ≠ 0
    · rw [if_pos h0] at h; exact absurd h h0
    · simpa using h0
  have h4 : (zH1 A seg a).2 = 0 := h3
  unfold zH1 at h4
  split at h4
  · rename_i hc; have := h2 seg.toNat; omega
  · exact absurd h4 (by decide)
theorem pw9 (hs : s = zB0 A) {seg a : Int} (h : (ptrS s seg a).2 = 0) : (ptrS s seg a).1 = pwT A seg a := by
  subst hs
  unfold ptrS at h ⊢
  by_cases h0 : ((zB0 A).word seg a).2 ≠ 0
  · rw [if_pos h0] at h; exact absurd h h0
  · rw [if_neg h0]; rfl
theorem yN4 (hs : s = zB0 A) {seg a : Int} (h : (ptrS s seg a).2 = 0) (hk : (ptrS s seg a).1.kind ≠ 3) (L : List Spn) : zF2 A L seg a = zI9 A L seg a := by
  unfold zF2; rw [← pw9 hs h, if_pos hk]
theorem yY0 (hs : s = zB0 A) {seg a : Int} (h : (ptrS s seg a).2 = 0) (hk : (ptrS s seg a).1.kind = 3) (hd : (ptrS s seg a).1.dbl = true) (L : List Spn) : zF2 A L seg a = zI9 A (zI9 A (zI9 A L seg a) (ptrS s seg a).1.seg (ptrS s seg a).1.off) (ptrS s seg a).1.seg ((ptrS s seg a).1.off + 1) := by
  unfold zF2; rw [← pw9 hs h, if_neg (by omega), if_pos hd]
theorem yS5 (hs : s = zB0 A) {seg a : Int} (h : (ptrS s seg a).2 = 0) (hk : (ptrS s seg a).1.kind = 3) (hd : ¬ (ptrS s seg a).1.dbl = true) (L : List Spn) : zF2 A L seg a = zI9 A (zI9 A L seg a) (ptrS s seg a).1.seg (ptrS s seg a).1.off := by
  unfold zF2; rw [← pw9 hs h, if_neg (by omega), if_neg hd]
def yF8 (A : List (List Int)) (L : List Spn) (o : Ob) (k : Int) : List Spn := if o.kind = 0 ∨ (o.kind = 1 ∧ k ≥ o.ptrs) then L else zF2 A L o.seg (atT o k)
theorem yS6 (hs : s = zB0 A) {o : Ob} {k : Int} (h : (zD9 s o k).2 = 0) (ks : List Int) (L : List Spn) : goT A (k :: ks) L o = goT A ks (yF8 A L o k) (zD9 s o k).1 := by
  subst hs
  rw [goT]
  unfold yF8
  by_cases h1 : o.kind = 0 ∨ (o.kind = 1 ∧ k ≥ o.ptrs)
  · rw [if_pos h1, if_pos h1]
    unfold zD9; rw [if_pos h1]
  · rw [if_neg h1, if_neg h1]
    unfold zD9 at h ⊢
    rw [if_neg h1] at h ⊢
    by_cases h2 : o.kind = 1
    · rw [if_pos h2] at h ⊢
      unfold atT; rw [if_pos h2]
    · rw [if_neg h2] at h ⊢
      by_cases h3 : o.size ≠ 6
      · rw [if_pos h3] at h; simp at h
      · rw [if_neg h3] at h ⊢
        by_cases h4 : k ≥ o.count
        · rw [if_pos h4] at h; simp at h
        · rw [if_neg h4]; unfold atT; rw [if_neg h2]
end
end Go.Proofs.YtkkbbhpbcfcplaaGreat.K
namespace Go.Proofs.YtkkbbhpbcfcplaaGreat.K
open Go Go.RowKit Go.Proofs
attribute [local irreducible] Run1 OpG WL W AO zB6
theorem qX9 (w : World) {ad : Option Addr} {c : Nat} {sz : List Int} (R : RowAt w 1 ad sz.length (sz.map (.int .i64))) (hr : ∀ x ∈ sz, inR .i64 x) : zB6 Tryz.prog 50 #[.slice ad sz.length c] w (.bool (zL7 sz)) := by
 have lR := R.lim
 have hg : ∀ i, inR .i64 (sz.getD i 0) := fun i => by rw [List.getD_eq_getElem?_getD]; cases hi_ : sz[i]? with | none => simp [inR] | some x_ => exact hr x_ (List.mem_of_getElem? hi_)
 have hg0 := hg 0
 simp only [inR] at hg0
 have G := Grow.rfl' w
 refine zA8 Tryz.func50 Tryz.ntmps50 Tryz.results50 rfl rfl ?_
 refine qZ 9 ?_
 refine stp (zF6 rfl rfl ?_)
 refine qZ 1 ?_
 refine qG 2 ?_
 refine zA3 (zB2 (s := .bool _) (v := .bool (decide ((sz.length : Int) > 16))) rfl (zE3 _) (fun hc3 => ?_) ?_)
 ·
  have hc3_ := hc3
  try simp only [sb] at hc3_
  refine zN7 (gvt hc3) rfl ?_
  exact ⟨rfl, rfl⟩
 refine stp (zH6 rfl rfl rfl ?_)
 refine qZ 1 ?_
 refine qG 1 ?_
 refine zA3 (zB2 (s := .bool _) (v := .pointer (some (eadr ad ((0 : Int).toNat * 1)))) rfl (zE3 _) (fun hc5 => ?_) ?_)
 ·
  have hc5_ := hc5
  try simp only [sb] at hc5_
  refine zE7 (R.grow G) (gvt hc5) rfl ?_ ?_ ?_; omega; omega
  exact ⟨rfl, rfl⟩
 refine zA3 (zB2 (s := .bool _) (v := .int .i64 (sz.getD 0 0)) rfl (zE3 _) (fun hc6 => ?_) ?_)
 ·
  have hc6_ := hc6
  try simp only [sb] at hc6_
  refine zC5 (v := .int .i64 (sz.getD 0 0)) (m := 0) (R.grow G) (gvt hc6) (show _ from zE6 (j := 0) 0 (by omega)) ?_
  exact ⟨rfl, rfl⟩
 refine zA3 (zB2 (s := .bool _) (v := .bool (decide ((sz.getD 0 0) < 1))) rfl (zE3 _) (fun hc7 => ?_) ?_)
 ·
  have hc7_ := hc7
  try simp only [sb] at hc7_
  refine zF6 (gvt hc7) rfl ?_
  exact ⟨rfl, rfl⟩
 refine stp (zH6 rfl rfl rfl ?_)
 refine zA6 ?_
 refine zA2 (b := (((decide ((sz.length : Int) < 1)) || (decide ((sz.length : Int) > 16))) || (decide ((sz.getD 0 0) < 1)))) rfl (fun h1 => ?_) (fun h1 => ?_)
 ·
  simp only [sb] at h1
  refine qZ 5 ?_
  have h9 : zL7 sz = false := yM0 (by omega)
  refine ret1 (zA1 (v := .bool false) rfl) ⟨?_, G⟩
  rw [h9]
 ·
  simp only [sb] at h1
  have h1' : 1 ≤ sz.length ∧ sz.length ≤ 16 ∧ 1 ≤ sz.getD 0 0 := by omega
  clear h1
  refine qZ 13 ?_
  refine zF5 (fun m_ e_ w_ => ∃ (k : Nat), m_ = sz.length - k ∧ Fr [(22, .slice ad sz.length c), (23, .int .i64 (sz.length : Int)), (3, .int .i64 (sumL (sz.take k))), (24, .int .i64 (k : Int))] e_ ∧ (k ≤ sz.length) ∧ (0 ≤ sumL (sz.take k) ∧ sumL (sz.take k) ≤ 4096) ∧ (∀ j, j < k → 0 ≤ sz.getD j 0) ∧ Grow w w_) _ ⟨0, rfl, zC6 ⟨rfl, rfl, rfl, rfl, trivial⟩, by omega, by simp [sumL], fun j hj => by omega, G⟩ ?_
  clear G
  rintro m_ e_ w8 ⟨k, rfl, ⟨e9, rfl⟩, hk, htk, hnn, G⟩
  have hgk := hg k
  simp only [inR] at hgk
  refine qZ 2 ?_
  refine stp (zF6 rfl rfl ?_)
  refine qZ 2 ?_
  refine zA2 (b := (decide ((k : Int) < (sz.length : Int)))) rfl (fun hlt => ?_) (fun hlt => ?_)
  ·
   replace hlt := qT hlt
   have hi : k < sz.length := by omega
   have ht := zS3 hi
   have hadd : zJ2 (sumL (sz.take k)) (sz.getD k 0) 4096 = decide (0 ≤ sz.getD k 0 ∧ sumL (sz.take k) + sz.getD k 0 ≤ 4096) := by unfold zJ2; exact decide_eq_decide.2 (by omega)
   refine qZ 5 ?_
   refine stp (zC8 (R.grow G) rfl rfl ?_ ?_); omega
   refine stp (zC5 (v := .int .i64 (sz.getD k 0)) (m := 0) (R.grow G) rfl (zE6 0 (by omega)) ?_)
   refine qZ 6 ?_
   refine stp (zA4 (v := .tuple #[.int .i64 (if zJ2 (sumL (sz.take k)) (sz.getD k 0) 4096 then sumL (sz.take k) + sz.getD k 0 else 0), .bool (zJ2 (sumL (sz.take k)) (sz.getD k 0) 4096)]) rfl (qD2 _ (a := sumL (sz.take k)) (b := sz.getD k 0) (m := 4096) (by simp only [inR]; omega) (hg k) (by simp only [inR]; omega)) ?_)
   intro w10 g11
   replace G := G.tr g11
   clear g11
   refine qZ 10 ?_
   refine stp (zN8 rfl ?_)
   refine zA6 ?_
   refine zA2 (b := (!(zJ2 (sumL (sz.take k)) (sz.getD k 0) 4096))) rfl (fun h3 => ?_) (fun h3 => ?_)
   ·
    simp only [sb] at h3
    rw [hadd] at h3
    refine qZ 5 ?_
    have h9 : zL7 sz = false := yX0 hi (by simpa using h3)
    refine ret1 (zA1 (v := .bool false) rfl) ⟨?_, G⟩
    rw [h9]
   ·
    simp only [sb] at h3
    rw [hadd] at h3
    have h3' : 0 ≤ sz.getD k 0 ∧ sumL (sz.take k) + sz.getD k 0 ≤ 4096 := by simpa using h3
    refine qZ 6 ?_
    refine stp (zB5 rfl rfl ?_ ?_); constructor <;> omega
    refine qZ 2 ?_
    refine ⟨_, ?_, k + 1, rfl, zC6 ⟨rfl, rfl, congrArg (Value.int .i64) (by rw [hadd, decide_eq_true h3', if_pos rfl]; omega), rfl, trivial⟩, by omega, by omega, fun j hj => by rcases Nat.lt_succ_iff_lt_or_eq.1 hj with h_ | h_; exact hnn j h_; (subst h_; exact h3'.1), G⟩
    omega
  ·
   replace hlt := qF hlt
   have hk2 : k = sz.length := by omega
   subst hk2
   refine qZ 6 ?_
   have h9 : zL7 sz = true := yR3 h1'.1 h1'.2.1 h1'.2.2 hnn htk.2
   refine ret1 (zA1 (v := .bool true) rfl) ⟨?_, G⟩
   rw [h9]
theorem yF9 (w : World) {a m : Int} (hm : 0 ≤ m ∧ m ≤ 140737488355328) : zB6 Tryz.prog 87 #[.int .i64 a, .int .i64 1, .int .i64 m] w (.tuple #[.int .i64 (if zJ2 a 1 m then a + 1 else 0), .bool (zJ2 a 1 m)]) := by
 have G := Grow.rfl' w
 refine zA8 Tryz.func87 Tryz.ntmps87 Tryz.results87 rfl rfl ?_
 refine qZ 10 ?_
 refine stp (qI7 rfl rfl rfl ?_)
 refine stp (zF6 rfl rfl ?_)
 refine qZ 1 ?_
 refine qG 2 ?_
 refine zA3 (zB2 (s := .bool _) (v := .bool (decide (a > m))) rfl (zE3 _) (fun hc3 => ?_) ?_)
 ·
  have hc3_ := hc3
  try simp only [sb] at hc3_
  refine zN7 (gvt hc3) (gvt hc3) ?_
  exact ⟨rfl, rfl⟩
 refine stp (zH6 rfl rfl rfl ?_)
 refine qZ 1 ?_
 refine qG 3 ?_
 refine zA3 (zB2 (s := .bool _) (v := .int .i64 (m - a)) rfl (zE3 _) (fun hc7 => ?_) ?_)
 ·
  have hc7_ := hc7
  try simp only [sb] at hc7_
  refine zM9 (gvt hc7) (gvt hc7) ?_ ?_; constructor <;> omega
  exact ⟨rfl, rfl⟩
 refine zA3 (zB2 (s := .bool _) (v := .bool (decide (1 > (m - a)))) rfl (zE3 _) (fun hc8 => ?_) ?_)
 ·
  have hc8_ := hc8
  try simp only [sb] at hc8_
  refine zN7 (gvt hc8) (gvt hc8) ?_
  exact ⟨rfl, rfl⟩
 refine stp (zH6 rfl rfl rfl ?_)
 refine zA6 ?_
 refine zA2 (b := (((decide ((if 1 < a then 1 else a) < 0)) || (decide (a > m))) || (decide (1 > (m - a))))) rfl (fun h1 => ?_) (fun h1 => ?_)
 ·
  simp only [sb] at h1
  refine qZ 6 ?_
  refine ret2 (zA1 (v := .int .i64 0) rfl) (zA1 (v := .bool false) rfl) ⟨?_, G⟩
  have h9 : zJ2 a 1 m = false := by simp only [zJ2]; exact decide_eq_false (by omega)
  rw [h9]; rfl
 ·
  simp only [sb] at h1
  have h9 : zJ2 a 1 m = true := by simp only [zJ2]; exact decide_eq_true (by omega)
  refine qZ 5 ?_
  refine stp (zB5 rfl rfl ?_ ?_); constructor <;> omega
  refine qZ 4 ?_
  refine ret2 (zA1 (v := .int .i64 (a + 1)) rfl) (zA1 (v := .bool true) rfl) ⟨?_, G⟩
  rw [h9]; rfl
theorem qO0 (w : World) {ad : Option Addr} {c : Nat} {sz : List Int} {seg a : Int} (R : RowAt w 1 ad sz.length (sz.map (.int .i64))) (hs : ∀ i, i < sz.length → 0 ≤ sz.getD i 0 ∧ sz.getD i 0 ≤ 140737488355328) : zB6 Tryz.prog 119 #[.slice ad sz.length c, .int .i64 seg, .int .i64 a, .int .i64 1] w (.bool (zF8 sz seg a 1)) := by
 have ll := R.lim
 have G := Grow.rfl' w
 refine zA8 Tryz.func119 Tryz.ntmps119 Tryz.results119 rfl rfl ?_
 refine qZ 8 ?_
 refine stp (zF6 rfl rfl ?_)
 refine qZ 1 ?_
 refine qG 3 ?_
 refine zA3 (zB2 (s := .bool _) (v := .bool (decide (seg ≥ (sz.length : Int)))) rfl (zE3 _) (fun hc4 => ?_) ?_)
 ·
  have hc4_ := hc4
  try simp only [sb] at hc4_
  refine zP7 (gvt hc4) (gvt hc4) ?_
  exact ⟨rfl, rfl⟩
 refine stp (zH6 rfl rfl rfl ?_)
 refine zA6 ?_
 refine zA2 (b := ((decide (seg < 0)) || (decide (seg ≥ (sz.length : Int))))) rfl (fun h1 => ?_) (fun h1 => ?_)
 ·
  simp only [sb] at h1
  refine qZ 5 ?_
  refine ret1 (zA1 (v := .bool false) rfl) ⟨?_, G⟩
  have h9 : zF8 sz seg a 1 = false := by unfold zF8; rw [decide_eq_false (by omega), Bool.false_and]
  rw [h9]
 ·
  simp only [sb] at h1
  have h9 := hs seg.toNat (by omega)
  refine qZ 7 ?_
  refine stp (zE7 (R.grow G) rfl rfl ?_ ?_ ?_); omega; omega
  refine stp (zC5 (v := .int .i64 (sz.getD seg.toNat 0)) (m := 0) (R.grow G) rfl (by rw [Nat.mul_one]; exact zY6 0 (by omega)) ?_)
  refine stp (zA4 (v := .tuple #[.int .i64 (if zJ2 a 1 (sz.getD seg.toNat 0) then a + 1 else 0), .bool (zJ2 a 1 (sz.getD seg.toNat 0))]) rfl (yF9 _ (m := sz.getD seg.toNat 0) h9) ?_)
  intro w5 g6
  replace G := G.tr g6
  clear g6
  refine qZ 12 ?_
  refine ret1 (zA1 (v := .bool (zJ2 a 1 (sz.getD seg.toNat 0))) rfl) ⟨?_, G⟩
  unfold zF8; rw [decide_eq_true (by omega), Bool.true_and]
theorem qT0 (w : World) {ad : Option Addr} {c : Nat} {sz : List Int} (R : RowAt w 1 ad sz.length (sz.map (.int .i64))) (hr : ∀ x ∈ sz, inR .i64 x) {seg a : Int} (hc : sz.length ≤ c) : zB6 Tryz.prog 181 #[.slice ad sz.length c, .int .i64 seg, .int .i64 a] w (.int .i64 (zG4 sz seg a)) := by
 have lR := R.lim
 have G := Grow.rfl' w
 refine zA8 Tryz.func181 Tryz.ntmps181 Tryz.results181 rfl rfl ?_
 refine qZ 8 ?_
 refine stp (zA4 (v := .bool (zL7 sz)) rfl (qX9 _ (R.grow G) hr) ?_)
 intro w1 g2
 replace G := G.tr g2
 clear g2
 refine stp (zN8 rfl ?_)
 refine qZ 1 ?_
 refine qG 3 ?_
 refine zA3 (zX8 (s := .bool (!(zL7 sz))) (b := false) (v := .bool (decide (0 ≤ seg ∧ seg < sz.length ∧ 0 ≤ a ∧ a < sz.getD seg.toNat 0))) rfl (zE3 _) (fun hc6 => ?_) ?_)
 ·
  have hc6_ := hc6
  try simp only [sb] at hc6_
  exact zM7 (l := ([.slice ad sz.length c, .int .i64 seg, .int .i64 a, .int .i64 1] : List Value)) rfl (by show ([gv (!(!(zL7 sz))) (.slice ad sz.length c), gv (!(!(zL7 sz))) (.int .i64 seg), gv (!(!(zL7 sz))) (.int .i64 a), .int .i64 1] : List Value) = _; rw [gvt hc6, gvt hc6, gvt hc6]) ((by have hf_ : zL7 sz = true := (by simpa using hc6); exact zJ0 (qO0 _ (R.grow G) (fun i _ => by have := zS4 hf_ i; omega)) (y := .bool (decide (0 ≤ seg ∧ seg < sz.length ∧ 0 ≤ a ∧ a < sz.getD seg.toNat 0))) (by rw [yF4 hf_]))) (fun w2_ g2_ => ⟨rfl, g2_⟩)
 intro w7 g8
 replace G := G.tr g8
 clear g8
 refine zA3 (zB2 (s := .bool _) (v := .bool (!(decide (0 ≤ seg ∧ seg < sz.length ∧ 0 ≤ a ∧ a < sz.getD seg.toNat 0)))) rfl (zE3 _) (fun hc9 => ?_) ?_)
 ·
  have hc9_ := hc9
  try simp only [sb] at hc9_
  refine zN8 (gvt hc9) ?_
  exact ⟨rfl, rfl⟩
 refine stp (zH6 rfl rfl rfl ?_)
 refine zA6 ?_
 refine zA2 (b := ((!(zL7 sz)) || (!(decide (0 ≤ seg ∧ seg < sz.length ∧ 0 ≤ a ∧ a < sz.getD seg.toNat 0))))) rfl (fun h1 => ?_) (fun h1 => ?_)
 ·
  simp only [sb] at h1
  refine qZ 5 ?_
  have h9 : zG4 sz seg a = -1 := by unfold zG4; rw [if_neg]; rintro ⟨x1, x2⟩; rcases h1 with h_ | h_; (rw [x1] at h_; cases h_); exact absurd x2 h_
  refine ret1 (zA1 (v := .int .i64 (-1)) rfl) ⟨?_, G⟩
  rw [h9]
 ·
  simp only [sb] at h1
  obtain ⟨hf, hw⟩ := h1
  have hw' := hw
  obtain ⟨n, hn⟩ : ∃ n : Nat, seg = (n : Int) := ⟨seg.toNat, by omega⟩
  have h9 : zG4 sz seg a = a + sumL (sz.take n) := by unfold zG4; rw [if_pos ⟨hf, hw'⟩, hn, Int.toNat_natCast]
  obtain ⟨f1, f2, f3, f4, f5⟩ := zX4 hf
  have hsz := zS4 hf
  have hsg := hsz seg.toNat
  refine qZ 6 ?_
  refine stp (qF3 rfl rfl (by omega) (by omega) ?_)
  have R2 := R.sliceH (m := n) hc (by omega) (by decide)
  rw [show seg.toNat = n from by omega]
  generalize (if c = 0 then ad else ad.map (·.add (0 * 1))) = ad2 at R2 ⊢
  refine qZ 4 ?_
  refine zF5 (fun m_ e_ w_ => ∃ (k : Nat), m_ = n - k ∧ Fr [(6, .int .i64 0), (21, .slice ad2 n c), (22, .int .i64 (n : Int)), (2, .int .i64 (a + sumL (sz.take k))), (23, .int .i64 (k : Int))] e_ ∧ (k ≤ n) ∧ Grow w w_) _ ⟨0, rfl, zC6 ⟨rfl, rfl, rfl, congrArg (Value.int .i64) (by simp [sumL]), rfl, trivial⟩, by omega, G⟩ ?_
  clear G
  rintro m_ e_ w10 ⟨k, rfl, ⟨e11, rfl⟩, hk, G⟩
  have hkz := hsz k
  have htk := zL1 f4 k
  refine qZ 2 ?_
  refine stp (zF6 rfl rfl ?_)
  refine qZ 2 ?_
  refine zA2 (b := (decide ((k : Int) < (n : Int)))) rfl (fun hlt => ?_) (fun hlt => ?_)
  ·
   replace hlt := qT hlt
   have hi : k < sz.length := by omega
   have ht := zS3 hi
   refine qZ 5 ?_
   refine stp (zC8 (R2.grow G) rfl rfl ?_ ?_); omega
   refine stp (zC5 (v := .int .i64 (sz.getD k 0)) (m := 0) (R2.grow G) rfl (show _ from yR2 (by omega) (by omega)) ?_)
   refine qZ 5 ?_
   refine stp (zB5 rfl rfl ?_ ?_); constructor <;> omega
   refine qZ 3 ?_
   refine stp (zB5 rfl rfl ?_ ?_); constructor <;> omega
   refine qZ 2 ?_
   refine ⟨_, ?_, k + 1, rfl, zC6 ⟨rfl, rfl, rfl, congrArg (Value.int .i64) (by omega), congrArg (Value.int .i64) (by omega), trivial⟩, by omega, G⟩
   omega
  ·
   replace hlt := qF hlt
   have hkn : k = n := by omega
   refine qZ 7 ?_
   refine ret1 (zA1 (v := .int .i64 (a + sumL (sz.take k))) rfl) ⟨?_, G⟩
   rw [h9, hkn]
instance : ViaI Tryz.prog 74 "Sizes" 79 0 := ⟨by kernel_rfl⟩
theorem qY0 : MethN Tryz.prog 110 "Sizes" 182 := ⟨fun v w => by kernel_rfl, fun args w => by kernel_rfl⟩
theorem zO8 : MethI Tryz.prog 74 "Word" 180 := ⟨fun v args w => by kernel_rfl⟩
theorem qE7 (w : World) {u : Value} {A : List (List Int)} (hA : zG2 w u A) (hl : A.length ≤ 1000) : Calls Tryz.prog 182 #[.agg #[u]] w (Ret fun r w2 => ∃ ad c, r = .slice ad (zB3 A).length c ∧ (zB3 A).length ≤ c ∧ RowAt w2 1 ad (zB3 A).length ((zB3 A).map (.int .i64)) ∧ Grow w w2) := by
 obtain ⟨segs_, ⟨ada, ca, rfl, hc1_, hc2_, RA⟩, hrows⟩ := hA
 have G := Grow.rfl' w
 refine zC2 Tryz.func182 Tryz.ntmps182 Tryz.results182 rfl rfl ?_
 refine qZ 2 ?_
 refine stp ?_
 refine qC ?_
 intro b1 w2 hb3 hc4 g5
 have hge6 := Nat.le_trans G.size hb3
 replace G := G.tr g5
 clear g5 hb3
 refine qZ 6 ?_
 refine stp ?_
 refine zD7 rfl (qH4 _ (RA.grow G) rfl (fun i q hq => by obtain ⟨v, h1, h2⟩ := hrows i q hq; exact ⟨v, h1, h2.grow G⟩) (by omega)) ?_
 rintro v_ w7 ⟨own, g_⟩
 replace hc4 := g_.heap hc4
 replace G := G.tr g_
 clear g_
 obtain ⟨ad5, c5, rfl, hc5, hc6, RS⟩ := zI3 own (by omega)
 refine qZ 3 ?_
 rw [show (A.map fun s => Value.int .i64 (s.length : Int)) = (zB3 A).map (.int .i64) from by simp [zB3, Function.comp_def], ← zF0 A] at RS
 rw [← zF0 A] at hc5
 refine ret1 (zA1 (v := .slice ad5 A.length c5) rfl) ⟨_, _, by rw [zF0], hc5, RS, G⟩
theorem zM4 (w : World) {w0 : World} {u : Value} {A : List (List Int)} (hA : zG2 w0 u A) (hr : zC7 A = true) (hx : AllU A) {s : Src} (hs : s = zB0 A) (g0 : Grow w0 w) {bn : Nat} (hbn : w0.heap.size ≤ bn) {L : List Spn} (st : NtS 110 79 61 w0.heap.size w u bn L) (hL : L.length ≤ 200000) (seg a : Int) : Calls Tryz.prog 180 #[.pointer (some ⟨bn, 0, none⟩), .int .i64 seg, .int .i64 a] w (Ret fun v w' => v = .tuple #[.int .u64 (s.word seg a).1, .int .u16 (s.word seg a).2] ∧ NtS 110 79 61 w0.heap.size w' u bn (zI9 A L seg a) ∧ NkP [bn] 61 w0.heap.size w w') := by
 have K := NkP.refl [bn] 61 w0.heap.size w
 have g0w := g0.size
 obtain ⟨ad0, c0, hn0, oL⟩ := st
 obtain ⟨hlen16, hl4096⟩ := zO7 hr
 have hfit : zL7 (zB3 A) = true := by rw [zS5]; exact hr
 have hrz : ∀ x ∈ zB3 A, inR .i64 x := yR4 hfit
 have hlE := zI6 L
 have hbnw := zC1 hn0
 refine zC2 Tryz.func180 Tryz.ntmps180 Tryz.results180 rfl rfl ?_
 have hpl : zG4 (zB3 A) seg a < 0 ∨ (zG4 (zB3 A) seg a < 4096) := by by_cases h_ : zG4 (zB3 A) seg a < 0; exact .inl h_; (have h2_ := (qS5 (sz := zB3 A) (seg := seg) (a := a) (by omega)).2.2.2.2.2.2; have := yM1 (zB3 A); omega)
 refine qZ 12 ?_
 refine stp (qF5 zV9 rfl (qE7 _ (hA.grow g0) (by omega)) ?_)
 rintro v_ w1 ⟨adz, cz, rfl, hcz, RZ, g_⟩
 replace K := K.tr (NkP.of_grow g_)
 replace g0 := g0.tr g_
 replace hn0 := g_.heap hn0
 replace oL := zB7 oL g_
 clear g_
 refine qZ 2 ?_
 refine stp (zA4 (v := .int .i64 (zG4 (zB3 A) seg a)) rfl (qT0 _ RZ hrz hcz) ?_)
 intro w2 g3
 replace K := K.tr (NkP.of_grow g3)
 replace g0 := g0.tr g3
 replace hn0 := g3.heap hn0
 replace oL := zB7 oL g3
 replace RZ := RZ.grow g3
 clear g3
 refine qZ 5 ?_
 refine stp (zP7 rfl rfl ?_)
 refine zA6 ?_
 refine zA2 (b := (decide ((zG4 (zB3 A) seg a) ≥ 0))) rfl (fun h1 => ?_) (fun h1 => ?_)
 ·
  replace h1 := qT h1
  have h9 : (zI9 A L seg a) = L ++ [(zG4 (zB3 A) seg a, zG4 (zB3 A) seg a + 1)] := if_neg (by omega)
  refine qZ 8 ?_
  refine stp (zB5 rfl rfl ?_ ?_); constructor <;> omega
  refine stp (zA9 (v := .agg #[.int .i64 (zG4 (zB3 A) seg a), .int .i64 ((zG4 (zB3 A) seg a) + 1)]) (fun w => by kernel_rfl) ?_)
  refine stp (zC3 (cs := #[.int .i64 (zG4 (zB3 A) seg a), .int .i64 ((zG4 (zB3 A) seg a) + 1)]) (el := 61) (fun w => by kernel_rfl) ?_)
  intro bs4 w5 hb6 hc7 g8
  have hge9 := Nat.le_trans K.size hb6
  replace K := K.tr (NkP.of_grow g8)
  replace g0 := g0.tr g8
  replace hn0 := g8.heap hn0
  replace oL := zB7 oL g8
  clear g8
  refine stp (zG1 rfl rfl rfl rfl oL (Row.of_block (n := 1) hc7 rfl rfl (by omega)) (fun q_ hq_ => by simp at hq_; rcases hq_ with rfl | rfl <;> rfl) (by simp only [maxLen]; omega) (by omega) g0.size ?_)
  intro v7 w7 own2 gr7
  replace K := K.tr (NkP.of_grown oL gr7)
  replace g0 := g0.grown gr7 (zH8 oL)
  replace hn0 := zI1 gr7 hn0 (zF3 oL hn0 (by decide))
  have own3 := yS1 (s := (zG4 (zB3 A) seg a, zG4 (zB3 A) seg a + 1)) own2
  clear own2 gr7 oL
  obtain ⟨ad2, n2, c2, rfl⟩ := zE0 own3
  have hn3 := qC0 own3
  subst hn3
  refine qZ 2 ?_
  refine stn (zB9 (v := .slice ad2 ((L ++ [(zG4 (zB3 A) seg a, zG4 (zB3 A) seg a + 1)]).length) c2) rfl rfl (by rfl) hn0 (by rfl) (by rfl) ?_)
  intro w10 hc11 u12
  replace K := (by first | exact K.upd_new u12 (by assumption) | exact K.tr (NkP.of_upd u12 (by simp)))
  replace g0 := (by first | exact Grow.upd g0 u12 (Nat.le_trans g0w (by assumption)) | exact Grow.upd g0 u12 hbn | exact Grow.upd g0 u12 hb0)
  replace own3 := zG5 own3 u12 (zF3 own3 hn0 (by decide))
  clear u12 hn0
  refine qZ 9 ?_
  refine stp (zN4 (F := fun v_ w_ => v_ = .tuple #[.int .u64 (zH1 A seg a).1, .int .u16 (zH1 A seg a).2] ∧ Grow w10 w_) (a := .int .i64 seg) (b := .int .i64 a) zR3 rfl rfl rfl (zP4 _ (hA.grow g0) seg a).c ?_)
  rintro v_ w13 ⟨rfl, g_⟩
  replace K := K.tr (NkP.of_grow g_)
  replace g0 := g0.tr g_
  replace own3 := zB7 own3 g_
  replace hc11 := g_.heap hc11
  clear g_
  refine qZ 6 ?_
  subst hs
  rw [h9]
  refine ret2 (zA1 (v := .int .u64 ((zH1 A seg a).1)) rfl) (zA1 (v := .int .u16 ((zH1 A seg a).2)) rfl) ⟨rfl, ⟨ad2, c2, hc11, own3⟩, K⟩
 ·
  replace h1 := qF h1
  have h9 : (zI9 A L seg a) = L := if_pos (by omega)
  refine qZ 9 ?_
  refine stp (zN4 (F := fun v_ w_ => v_ = .tuple #[.int .u64 (zH1 A seg a).1, .int .u16 (zH1 A seg a).2] ∧ Grow w2 w_) (a := .int .i64 seg) (b := .int .i64 a) zR3 rfl rfl rfl (zP4 _ (hA.grow g0) seg a).c ?_)
  rintro v_ w14 ⟨rfl, g_⟩
  replace K := K.tr (NkP.of_grow g_)
  replace g0 := g0.tr g_
  replace hn0 := g_.heap hn0
  replace oL := zB7 oL g_
  replace RZ := RZ.grow g_
  clear g_
  refine qZ 6 ?_
  subst hs
  rw [h9]
  refine ret2 (zA1 (v := .int .u64 ((zH1 A seg a).1)) rfl) (zA1 (v := .int .u16 ((zH1 A seg a).2)) rfl) ⟨rfl, ⟨ad0, c0, hn0, oL⟩, K⟩
theorem zX9 (w : World) {w0 : World} {u : Value} {A : List (List Int)} (hA : zG2 w0 u A) (hr : zC7 A = true) (hx : AllU A) {s : Src} (hs : s = zB0 A) (g0 : Grow w0 w) {bn : Nat} (hbn : w0.heap.size ≤ bn) {L : List Spn} (st : NtS 110 79 61 w0.heap.size w u bn L) (hL : L.length ≤ 150000) (seg a : Int) : Calls Tryz.prog 88 #[.iface 74 (.pointer (some ⟨bn, 0, none⟩)), .int .i64 seg, .int .i64 a] w (Ret fun v w' => v = .tuple #[.agg #[.int .i64 ((ptrS s seg a).1.kind), .int .i64 ((ptrS s seg a).1.off), .int .i64 ((ptrS s seg a).1.data), .int .i64 ((ptrS s seg a).1.ptrs), .int .i64 ((ptrS s seg a).1.size), .int .i64 ((ptrS s seg a).1.count), .int .i64 ((ptrS s seg a).1.seg), .bool ((ptrS s seg a).1.dbl)], .int .u16 ((ptrS s seg a).2)] ∧ NtS 110 79 61 w0.heap.size w' u bn (zI9 A L seg a) ∧ NkP [bn] 61 w0.heap.size w w') := by
 have K := NkP.refl [bn] 61 w0.heap.size w
 have g0w := g0.size
 refine zC2 Tryz.func88 Tryz.ntmps88 Tryz.results88 rfl rfl ?_
 refine qZ 2 ?_
 refine stp (zA7 ?_)
 intro b1 w2 hb3 hc4 g5
 refine qZ 7 ?_
 have hge6 := Nat.le_trans K.size hb3
 replace K := K.tr (NkP.of_grow g5)
 replace g0 := g0.tr g5
 replace st := st.grow g5
 clear g5 hb3
 refine stp (zN4 (a := .int .i64 seg) (b := .int .i64 a) zO8 rfl rfl rfl (zM4 _ hA hr hx hs g0 hbn st (by have := hL; omega) seg a) ?_)
 rintro v_ w7 ⟨rfl, st2_, rel_⟩
 replace hc4 := rel_.hpN st hc4 (by decide) (by decide)
 replace g0 := NkP.to_grow rel_ g0 (fun x_ hx_ => by simp only [List.mem_cons, List.mem_singleton, List.not_mem_nil, or_false] at hx_; (first | (subst hx_; first | assumption | exact hbn) | (rcases hx_ with rfl | rfl <;> assumption)))  (Nat.le_refl _)
 replace K := K.new_nk rel_ (fun x_ hx_ => by simp only [List.mem_cons, List.mem_singleton, List.not_mem_nil, or_false] at hx_; (first | (rcases hx_ with rfl | rfl <;> first | (right; simp; done) | (left; assumption)) | (subst hx_; first | (right; simp; done) | (left; assumption))))
 clear rel_ st
 have st := st2_
 clear st2_
 refine qZ 10 ?_
 refine stp (zG9 rfl rfl ?_)
 refine zA6 ?_
 refine zA2 (b := (decide (((s.word seg a).2) ≠ 0))) rfl (fun h1 => ?_) (fun h1 => ?_)
 ·
  replace h1 := qT h1
  refine qZ 2 ?_
  refine stp (zA9 (v := .agg #[.int .i64 0, .int .i64 0, .int .i64 0, .int .i64 0, .int .i64 0, .int .i64 0, .int .i64 0, .bool false]) (fun w => by kernel_rfl) ?_)
  refine qZ 1 ?_
  refine stn (qS hc4 ?_)
  intro w8 hc9 u10
  replace g0 := (by first | exact Grow.upd g0 u10 (Nat.le_trans g0w (by assumption)) | exact Grow.upd g0 u10 hbn | exact Grow.upd g0 u10 hb0)
  replace K := (by first | exact K.upd_new u10 (by assumption) | exact K.tr (NkP.of_upd u10 (by simp)))
  replace st := st.upd u10 hc4 (by decide) (by decide)
  clear u10 hc4
  refine qZ 3 ?_
  have h9 : ptrS s seg a = (Pt0, (s.word seg a).2) := by unfold ptrS; rw [if_pos h1]
  refine ret2 (zA5 rfl hc9 (by rfl)) (zA1 (v := .int .u16 ((s.word seg a).2)) rfl) ⟨by rw [h9]; rfl, st, K⟩
 ·
  replace h1 := qF h1
  refine qZ 4 ?_
  refine stp (zA4 (v := .tuple #[.agg #[.int .i64 ((decP (s.word seg a).1).kind), .int .i64 ((decP (s.word seg a).1).off), .int .i64 ((decP (s.word seg a).1).data), .int .i64 ((decP (s.word seg a).1).ptrs), .int .i64 ((decP (s.word seg a).1).size), .int .i64 ((decP (s.word seg a).1).count), .int .i64 ((decP (s.word seg a).1).seg), .bool ((decP (s.word seg a).1).dbl)], .int .u16 (decE (s.word seg a).1)]) rfl (zK9 _ _ (num9 hs hx seg a).1 (num9 hs hx seg a).2.1) ?_)
  intro w11 g12
  replace hc4 := g12.heap hc4
  replace g0 := g0.tr g12
  replace K := K.tr (NkP.of_grow g12)
  replace st := st.grow g12
  clear g12
  refine qZ 2 ?_
  refine stn (qS hc4 ?_)
  intro w13 hc14 u15
  replace g0 := (by first | exact Grow.upd g0 u15 (Nat.le_trans g0w (by assumption)) | exact Grow.upd g0 u15 hbn | exact Grow.upd g0 u15 hb0)
  replace K := (by first | exact K.upd_new u15 (by assumption) | exact K.tr (NkP.of_upd u15 (by simp)))
  replace st := st.upd u15 hc4 (by decide) (by decide)
  clear u15 hc4
  refine qZ 3 ?_
  have h9 : ptrS s seg a = (decP (s.word seg a).1, decE (s.word seg a).1) := by unfold ptrS; rw [if_neg h1]
  refine ret2 (zA5 rfl hc14 (by rfl)) (zA1 (v := .int .u16 (decE (s.word seg a).1)) rfl) ⟨by rw [h9], st, K⟩
theorem zW3 (w : World) {w0 : World} {u : Value} {A : List (List Int)} (hA : zG2 w0 u A) (hr : zC7 A = true) (hx : AllU A) {s : Src} (hs : s = zB0 A) (g0 : Grow w0 w) {bn : Nat} (hbn : w0.heap.size ≤ bn) {L : List Spn} (st : NtS 110 79 61 w0.heap.size w u bn L) (hL : L.length ≤ 400000) (p : Pt) (seg a : Int) (hp : PtR p) (ha : inR .i64 a) : zB6 Tryz.prog 90 #[.iface 74 (.pointer (some ⟨bn, 0, none⟩)), .agg #[.int .i64 p.kind, .int .i64 p.off, .int .i64 p.data, .int .i64 p.ptrs, .int .i64 p.size, .int .i64 p.count, .int .i64 p.seg, .bool p.dbl], .int .i64 seg, .int .i64 a] w (.tuple #[.agg #[.int .i64 ((zB4 s p seg a).1.kind), .int .i64 ((zB4 s p seg a).1.seg), .int .i64 ((zB4 s p seg a).1.at_), .int .i64 ((zB4 s p seg a).1.data), .int .i64 ((zB4 s p seg a).1.ptrs), .int .i64 ((zB4 s p seg a).1.size), .int .i64 ((zB4 s p seg a).1.count)], .int .u16 ((zB4 s p seg a).2)]) := by
 have hw9 := zQ8 hp.of
 obtain ⟨hlen16, -⟩ := zO7 hr
 have st0 := st
 have g00 := g0
 have G := Grow.rfl' w
 refine zA8 Tryz.func90 Tryz.ntmps90 Tryz.results90 rfl rfl ?_
 refine qZ 2 ?_
 refine stp ?_
 refine qC ?_
 intro b1 w2 hb3 hc4 g5
 have hge6 := Nat.le_trans G.size hb3
 replace G := G.tr g5
 clear g5 hb3
 refine stp (zA7 ?_)
 intro b7 w8 hb9 hc10 g11
 refine qZ 5 ?_
 have hge12 := Nat.le_trans G.size hb9
 have ne13 := qN hc4 hb9
 replace hc4 := g11.heap hc4
 replace G := G.tr g11
 clear g11 hb9
 refine qZ 11 ?_
 refine stp (zA9 (v := .agg #[.int .i64 p.kind, .int .i64 seg, .int .i64 a, .int .i64 p.data, .int .i64 p.ptrs, .int .i64 p.size, .int .i64 p.count]) (fun w => by kernel_rfl) ?_)
 refine stp (zA7 ?_)
 intro b14 w15 hb16 hc17 g18
 refine stn (qS hc17 ?_)
 intro w19 hc20 u21
 have g22 := g18.upd u21 hb16
 have hge23 := Nat.le_trans G.size hb16
 have ne24 := qN hc4 hb16
 have ne25 := qN hc10 hb16
 replace hc4 := g22.heap hc4
 replace hc10 := g22.heap hc10
 replace G := G.tr g22
 clear u21 g18 hb16 hc17
 refine qZ 4 ?_
 refine stp (zA4 (v := .agg #[.int .i64 p.kind, .int .i64 0, .int .i64 p.data, .int .i64 p.ptrs, .int .i64 p.size, .int .i64 p.count, .int .i64 0, .bool false]) rfl (qN1 _ ⟨p.kind, seg, a, p.data, p.ptrs, p.size, p.count⟩) ?_)
 intro w26 g27
 replace hc4 := g27.heap hc4
 replace hc10 := g27.heap hc10
 replace hc20 := g27.heap hc20
 replace G := G.tr g27
 clear g27
 refine stp (zA4 (v := .tuple #[.int .i64 (zF4 ⟨p.kind, 0, p.data, p.ptrs, p.size, p.count, 0, false⟩), .int .u16 (zF9 ⟨p.kind, 0, p.data, p.ptrs, p.size, p.count, 0, false⟩)]) rfl (zZ0 _ ⟨p.kind, 0, p.data, p.ptrs, p.size, p.count, 0, false⟩) ?_)
 intro w28 g29
 replace hc4 := g29.heap hc4
 replace hc10 := g29.heap hc10
 replace hc20 := g29.heap hc20
 replace G := G.tr g29
 clear g29
 refine qZ 11 ?_
 refine stp (zG9 rfl rfl ?_)
 refine qZ 2 ?_
 refine zA2 (b := (decide ((zF9 ⟨p.kind, 0, p.data, p.ptrs, p.size, p.count, 0, false⟩) ≠ 0))) rfl (fun h1 => ?_) (fun h1 => ?_)
 ·
  replace h1 := qT h1
  refine qZ 2 ?_
  refine stp (zA9 (v := .agg #[.int .i64 0, .int .i64 0, .int .i64 0, .int .i64 0, .int .i64 0, .int .i64 0, .int .i64 0]) (fun w => by kernel_rfl) ?_)
  refine qZ 1 ?_
  refine stn (qS hc10 ?_)
  intro w30 hc31 u32
  replace hc4 := u32.heap hc4 ne13
  replace hc20 := u32.heap hc20 ne25.symm
  replace G := G.upd u32 hge12
  clear u32 hc10
  refine qZ 3 ?_
  refine ret2 (zA5 rfl hc31 (by rfl)) (zA1 (v := .int .u16 (zF9 ⟨p.kind, 0, p.data, p.ptrs, p.size, p.count, 0, false⟩)) rfl) ⟨?_, G⟩
  have h9 : zB4 s p seg a = (Ob0, zF9 ⟨p.kind, 0, p.data, p.ptrs, p.size, p.count, 0, false⟩) := by unfold zB4; exact if_pos h1
  rw [h9]; rfl
 ·
  replace h1 := qF h1
  refine qZ 3 ?_
  refine stp ?_
  obtain ⟨ad0_, c0_, hn_, -⟩ := st0.grow G
  refine jB2 (off := 0) (v' := .agg #[u]) qY0 rfl hn_ rfl (qE7 _ (hA.grow (g00.tr G)) (by omega)) ?_
  rintro v_ w33 ⟨adz, cz, rfl, hcz, Rz, g_⟩
  clear hn_
  replace hc4 := g_.heap hc4
  replace hc10 := g_.heap hc10
  replace hc20 := g_.heap hc20
  replace G := G.tr g_
  clear g_
  rw [← yU1 hs] at Rz hcz
  rw [← yU1 hs]
  refine qZ 3 ?_
  refine stp (zA4 (v := .bool (zF8 s.sizes seg a (zF4 ⟨p.kind, 0, p.data, p.ptrs, p.size, p.count, 0, false⟩))) rfl (qE4 _ Rz (jC5 hs hr) ha (by simp only [inR]; omega)) ?_)
  intro w34 g35
  replace hc4 := g35.heap hc4
  replace hc10 := g35.heap hc10
  replace hc20 := g35.heap hc20
  replace Rz := Rz.grow g35
  replace G := G.tr g35
  clear g35
  refine stp (zN8 rfl ?_)
  refine qZ 2 ?_
  refine zA2 (b := (!(zF8 s.sizes seg a (zF4 ⟨p.kind, 0, p.data, p.ptrs, p.size, p.count, 0, false⟩)))) rfl (fun h2 => ?_) (fun h2 => ?_)
  ·
   simp only [sb] at h2
   refine qZ 2 ?_
   refine stp (zA9 (v := .agg #[.int .i64 0, .int .i64 0, .int .i64 0, .int .i64 0, .int .i64 0, .int .i64 0, .int .i64 0]) (fun w => by kernel_rfl) ?_)
   refine stn (qS hc10 ?_)
   intro w36 hc37 u38
   replace hc4 := u38.heap hc4 ne13
   replace hc20 := u38.heap hc20 ne25.symm
   replace G := G.upd u38 hge12
   clear u38 hc10
   refine qZ 3 ?_
   refine ret2 (zA5 rfl hc37 (by rfl)) (zA1 (v := .int .u16 20) rfl) ⟨?_, G⟩
   have h9 : zB4 s p seg a = (Ob0, 20) := by unfold zB4; exact (if_neg h1).trans (if_pos (show zF8 s.sizes seg a (zF4 ⟨p.kind, 0, p.data, p.ptrs, p.size, p.count, 0, false⟩) = false from by simpa using h2))
   rw [h9]; rfl
  ·
   simp only [sb] at h2
   refine qZ 4 ?_
   refine stn (qS hc10 ?_)
   intro w39 hc40 u41
   replace hc4 := u41.heap hc4 ne13
   replace hc20 := u41.heap hc20 ne25.symm
   replace G := G.upd u41 hge12
   clear u41 hc10
   refine qZ 3 ?_
   refine ret2 (zA5 rfl hc40 (by rfl)) (zA1 (v := .int .u16 0) rfl) ⟨?_, G⟩
   have h9 : zB4 s p seg a = (objP p seg a, 0) := by unfold zB4; exact (if_neg h1).trans (if_neg (show ¬ zF8 s.sizes seg a (zF4 ⟨p.kind, 0, p.data, p.ptrs, p.size, p.count, 0, false⟩) = false from by simpa using h2))
   rw [h9]; rfl
theorem qO1 (w : World) {w0 : World} {u : Value} {A : List (List Int)} (hA : zG2 w0 u A) (hr : zC7 A = true) (hx : AllU A) {s : Src} (hs : s = zB0 A) (g0 : Grow w0 w) {bn : Nat} (hbn : w0.heap.size ≤ bn) {L : List Spn} (st : NtS 110 79 61 w0.heap.size w u bn L) (hL : L.length ≤ 100000) (p : Pt) (hp : PtR p) : Calls Tryz.prog 92 #[.iface 74 (.pointer (some ⟨bn, 0, none⟩)), .agg #[.int .i64 p.kind, .int .i64 p.off, .int .i64 p.data, .int .i64 p.ptrs, .int .i64 p.size, .int .i64 p.count, .int .i64 p.seg, .bool p.dbl]] w (Ret fun v w' => v = .tuple #[.agg #[.int .i64 ((zD0 s p).1.kind), .int .i64 ((zD0 s p).1.seg), .int .i64 ((zD0 s p).1.at_), .int .i64 ((zD0 s p).1.data), .int .i64 ((zD0 s p).1.ptrs), .int .i64 ((zD0 s p).1.size), .int .i64 ((zD0 s p).1.count)], .int .u16 ((zD0 s p).2)] ∧ NtS 110 79 61 w0.heap.size w' u bn (zI9 A L p.seg p.off) ∧ NkP [bn] 61 w0.heap.size w w') := by
 have K := NkP.refl [bn] 61 w0.heap.size w
 have g0w := g0.size
 have hq := ptr9 hs hx p.seg p.off
 have hqo := hq.off
 have hpo := hp.off
 refine zC2 Tryz.func92 Tryz.ntmps92 Tryz.results92 rfl rfl ?_
 refine qZ 2 ?_
 refine stp ?_
 refine qC ?_
 intro b1 w2 hb3 hc4 g5
 have hge6 := Nat.le_trans K.size hb3
 replace K := K.tr (NkP.of_grow g5)
 replace g0 := g0.tr g5
 replace st := st.grow g5
 clear g5 hb3
 refine stp (zA7 ?_)
 intro b7 w8 hb9 hc10 g11
 refine qZ 6 ?_
 have hge12 := Nat.le_trans K.size hb9
 have ne13 := qN hc4 hb9
 replace K := K.tr (NkP.of_grow g11)
 replace g0 := g0.tr g11
 replace st := st.grow g11
 replace hc4 := g11.heap hc4
 clear g11 hb9
 refine qZ 3 ?_
 refine stp ?_
 refine zD7 rfl (zX9 _ hA hr hx hs g0 hbn st (by have := hL; omega) p.seg p.off) ?_
 rintro v_ w14 ⟨rfl, st2_, rel_⟩
 replace hc4 := rel_.hpN st hc4 (by decide) (by decide)
 replace hc10 := rel_.hpN st hc10 (by decide) (by decide)
 replace g0 := NkP.to_grow rel_ g0 (fun x_ hx_ => by simp only [List.mem_cons, List.mem_singleton, List.not_mem_nil, or_false] at hx_; (first | (subst hx_; first | assumption | exact hbn) | (rcases hx_ with rfl | rfl <;> assumption)))  (Nat.le_refl _)
 replace K := K.new_nk rel_ (fun x_ hx_ => by simp only [List.mem_cons, List.mem_singleton, List.not_mem_nil, or_false] at hx_; (first | (rcases hx_ with rfl | rfl <;> first | (right; simp; done) | (left; assumption)) | (subst hx_; first | (right; simp; done) | (left; assumption))))
 clear rel_ st
 have st := st2_
 clear st2_
 have hl_w14 := zS7 A L p.seg p.off
 refine qZ 3 ?_
 refine stp (zA7 ?_)
 intro b15 w16 hb17 hc18 g19
 refine stn (qS hc18 ?_)
 intro w20 hc21 u22
 have g23 := g19.upd u22 hb17
 have hge24 := Nat.le_trans K.size hb17
 have ne25 := qN hc4 hb17
 have ne26 := qN hc10 hb17
 replace hc4 := g23.heap hc4
 replace hc10 := g23.heap hc10
 replace g0 := g0.tr g23
 replace K := K.tr (NkP.of_grow g23)
 replace st := st.grow g23
 clear u22 g19 hb17 hc18
 refine qZ 7 ?_
 refine stp (zG9 rfl rfl ?_)
 refine qZ 2 ?_
 refine zA2 (b := (decide (((ptrS s p.seg p.off).2) ≠ 0))) rfl (fun h1 => ?_) (fun h1 => ?_)
 ·
  replace h1 := qT h1
  refine qZ 2 ?_
  refine stp (zA9 (v := .agg #[.int .i64 0, .int .i64 0, .int .i64 0, .int .i64 0, .int .i64 0, .int .i64 0, .int .i64 0]) (fun w => by kernel_rfl) ?_)
  refine qZ 1 ?_
  refine stn (qS hc10 ?_)
  intro w27 hc28 u29
  replace hc4 := u29.heap hc4 ne13
  replace g0 := (by first | exact Grow.upd g0 u29 (Nat.le_trans g0w (by assumption)) | exact Grow.upd g0 u29 hbn | exact Grow.upd g0 u29 hb0)
  replace K := (by first | exact K.upd_new u29 (by assumption) | exact K.tr (NkP.of_upd u29 (by simp)))
  replace st := st.upd u29 hc10 (by decide) (by decide)
  replace hc21 := u29.heap hc21 ne26.symm
  clear u29 hc10
  refine qZ 3 ?_
  have h9 : zD0 s p = (Ob0, (ptrS s p.seg p.off).2) := by unfold zD0; rw [if_pos h1]
  refine ret2 (zA5 rfl hc28 (by rfl)) (zA1 (v := .int .u16 ((ptrS s p.seg p.off).2)) rfl) ⟨by rw [h9] <;> rfl, st, K⟩
 ·
  replace h1 := qF h1
  refine qZ 3 ?_
  refine stp (zA4 (v := .bool (zH4 ((ptrS s p.seg p.off).1))) rfl (zL0 _ ((ptrS s p.seg p.off).1)) ?_)
  intro w30 g31
  replace hc4 := g31.heap hc4
  replace hc10 := g31.heap hc10
  replace g0 := g0.tr g31
  replace K := K.tr (NkP.of_grow g31)
  replace st := st.grow g31
  replace hc21 := g31.heap hc21
  clear g31
  refine stp (zN8 rfl ?_)
  refine qZ 2 ?_
  refine zA2 (b := (!(zH4 ((ptrS s p.seg p.off).1)))) rfl (fun h2 => ?_) (fun h2 => ?_)
  ·
   simp only [sb] at h2
   refine qZ 2 ?_
   refine stp (zA9 (v := .agg #[.int .i64 0, .int .i64 0, .int .i64 0, .int .i64 0, .int .i64 0, .int .i64 0, .int .i64 0]) (fun w => by kernel_rfl) ?_)
   refine stn (qS hc10 ?_)
   intro w32 hc33 u34
   replace hc4 := u34.heap hc4 ne13
   replace g0 := (by first | exact Grow.upd g0 u34 (Nat.le_trans g0w (by assumption)) | exact Grow.upd g0 u34 hbn | exact Grow.upd g0 u34 hb0)
   replace K := (by first | exact K.upd_new u34 (by assumption) | exact K.tr (NkP.of_upd u34 (by simp)))
   replace st := st.upd u34 hc10 (by decide) (by decide)
   replace hc21 := u34.heap hc21 ne26.symm
   clear u34 hc10
   refine qZ 3 ?_
   have h9 : zD0 s p = (Ob0, 23) := by unfold zD0; rw [if_neg h1, if_pos (by simpa using h2)]
   refine ret2 (zA5 rfl hc33 (by rfl)) (zA1 (v := .int .u16 23) rfl) ⟨by rw [h9] <;> rfl, st, K⟩
  ·
   simp only [sb] at h2
   refine qZ 9 ?_
   refine stp (zB5 rfl rfl ?_ ?_); constructor <;> omega
   refine qZ 2 ?_
   refine stp (zB5 rfl rfl ?_ ?_); constructor <;> omega
   refine stp (zA4 (v := .tuple #[.agg #[.int .i64 ((zB4 s ((ptrS s p.seg p.off).1) p.seg ((p.off + 1) + ((ptrS s p.seg p.off).1.off))).1.kind), .int .i64 ((zB4 s ((ptrS s p.seg p.off).1) p.seg ((p.off + 1) + ((ptrS s p.seg p.off).1.off))).1.seg), .int .i64 ((zB4 s ((ptrS s p.seg p.off).1) p.seg ((p.off + 1) + ((ptrS s p.seg p.off).1.off))).1.at_), .int .i64 ((zB4 s ((ptrS s p.seg p.off).1) p.seg ((p.off + 1) + ((ptrS s p.seg p.off).1.off))).1.data), .int .i64 ((zB4 s ((ptrS s p.seg p.off).1) p.seg ((p.off + 1) + ((ptrS s p.seg p.off).1.off))).1.ptrs), .int .i64 ((zB4 s ((ptrS s p.seg p.off).1) p.seg ((p.off + 1) + ((ptrS s p.seg p.off).1.off))).1.size), .int .i64 ((zB4 s ((ptrS s p.seg p.off).1) p.seg ((p.off + 1) + ((ptrS s p.seg p.off).1.off))).1.count)], .int .u16 ((zB4 s ((ptrS s p.seg p.off).1) p.seg ((p.off + 1) + ((ptrS s p.seg p.off).1.off))).2)]) rfl (zW3 _ hA hr hx hs g0 hbn st (by omega) ((ptrS s p.seg p.off).1) p.seg ((p.off + 1) + ((ptrS s p.seg p.off).1.off)) hq (by simp only [inR]; omega)) ?_)
   intro w35 g36
   replace hc4 := g36.heap hc4
   replace hc10 := g36.heap hc10
   replace g0 := g0.tr g36
   replace K := K.tr (NkP.of_grow g36)
   replace st := st.grow g36
   replace hc21 := g36.heap hc21
   clear g36
   refine qZ 2 ?_
   refine stn (qS hc10 ?_)
   intro w37 hc38 u39
   replace hc4 := u39.heap hc4 ne13
   replace g0 := (by first | exact Grow.upd g0 u39 (Nat.le_trans g0w (by assumption)) | exact Grow.upd g0 u39 hbn | exact Grow.upd g0 u39 hb0)
   replace K := (by first | exact K.upd_new u39 (by assumption) | exact K.tr (NkP.of_upd u39 (by simp)))
   replace st := st.upd u39 hc10 (by decide) (by decide)
   replace hc21 := u39.heap hc21 ne26.symm
   clear u39 hc10
   refine qZ 3 ?_
   have h9 : zD0 s p = zB4 s (ptrS s p.seg p.off).1 p.seg (p.off + 1 + (ptrS s p.seg p.off).1.off) := by unfold zD0; rw [if_neg h1, if_neg (by simpa using h2)]
   refine ret2 (zA5 rfl hc38 (by rfl)) (zA1 (v := .int .u16 ((zB4 s ((ptrS s p.seg p.off).1) p.seg ((p.off + 1) + ((ptrS s p.seg p.off).1.off))).2)) rfl) ⟨by rw [h9] <;> rfl, st, K⟩
theorem qT1 (w : World) {w0 : World} {u : Value} {A : List (List Int)} (hA : zG2 w0 u A) (hr : zC7 A = true) (hx : AllU A) {s : Src} (hs : s = zB0 A) (g0 : Grow w0 w) {bn : Nat} (hbn : w0.heap.size ≤ bn) {L : List Spn} (st : NtS 110 79 61 w0.heap.size w u bn L) (hL : L.length ≤ 100000) (p : Pt) (hp : PtR p) : Calls Tryz.prog 91 #[.iface 74 (.pointer (some ⟨bn, 0, none⟩)), .agg #[.int .i64 p.kind, .int .i64 p.off, .int .i64 p.data, .int .i64 p.ptrs, .int .i64 p.size, .int .i64 p.count, .int .i64 p.seg, .bool p.dbl]] w (Ret fun v w' => v = .tuple #[.agg #[.int .i64 ((zD6 s p).1.kind), .int .i64 ((zD6 s p).1.seg), .int .i64 ((zD6 s p).1.at_), .int .i64 ((zD6 s p).1.data), .int .i64 ((zD6 s p).1.ptrs), .int .i64 ((zD6 s p).1.size), .int .i64 ((zD6 s p).1.count)], .int .u16 ((zD6 s p).2)] ∧ ∃ L2, ((zD6 s p).2 = 0 → L2 = (zI9 A (zI9 A L p.seg p.off) p.seg (p.off + 1))) ∧ L2.length ≤ L.length + 2 ∧ NtS 110 79 61 w0.heap.size w' u bn L2 ∧ NkP [bn] 61 w0.heap.size w w') := by
 have K := NkP.refl [bn] 61 w0.heap.size w
 have g0w := g0.size
 have hpo := hp.off
 obtain ⟨n1, n2, -, -⟩ := num9 hs hx p.seg p.off
 obtain ⟨n3, n4, -, -⟩ := num9 hs hx p.seg (p.off + 1)
 have hq := zH7 _ n1 n2
 have hr9 := zH7 _ n3 n4
 have hqo := hq.off
 have hl1 := zS7 A L p.seg p.off
 have hl2 := zS7 A (zI9 A L p.seg p.off) p.seg (p.off + 1)
 refine zC2 Tryz.func91 Tryz.ntmps91 Tryz.results91 rfl rfl ?_
 refine qZ 2 ?_
 refine stp ?_
 refine qC ?_
 intro b1 w2 hb3 hc4 g5
 have hge6 := Nat.le_trans K.size hb3
 replace K := K.tr (NkP.of_grow g5)
 replace g0 := g0.tr g5
 replace st := st.grow g5
 clear g5 hb3
 refine stp (zA7 ?_)
 intro b7 w8 hb9 hc10 g11
 refine qZ 6 ?_
 have hge12 := Nat.le_trans K.size hb9
 have ne13 := qN hc4 hb9
 replace K := K.tr (NkP.of_grow g11)
 replace g0 := g0.tr g11
 replace st := st.grow g11
 replace hc4 := g11.heap hc4
 clear g11 hb9
 refine qZ 3 ?_
 refine stp (zN4 (a := .int .i64 p.seg) (b := .int .i64 p.off) zO8 rfl rfl rfl (zM4 _ hA hr hx hs g0 hbn st (by have := hl1; omega) p.seg p.off) ?_)
 rintro v_ w14 ⟨rfl, st2_, rel_⟩
 replace hc4 := rel_.hpN st hc4 (by decide) (by decide)
 replace hc10 := rel_.hpN st hc10 (by decide) (by decide)
 replace g0 := NkP.to_grow rel_ g0 (fun x_ hx_ => by simp only [List.mem_cons, List.mem_singleton, List.not_mem_nil, or_false] at hx_; (first | (subst hx_; first | assumption | exact hbn) | (rcases hx_ with rfl | rfl <;> assumption)))  (Nat.le_refl _)
 replace K := K.new_nk rel_ (fun x_ hx_ => by simp only [List.mem_cons, List.mem_singleton, List.not_mem_nil, or_false] at hx_; (first | (rcases hx_ with rfl | rfl <;> first | (right; simp; done) | (left; assumption)) | (subst hx_; first | (right; simp; done) | (left; assumption))))
 clear rel_ st
 have st := st2_
 clear st2_
 refine qZ 10 ?_
 refine stp (zG9 rfl rfl ?_)
 refine zA6 ?_
 refine zA2 (b := (decide (((s.word p.seg p.off).2) ≠ 0))) rfl (fun h1 => ?_) (fun h1 => ?_)
 ·
  replace h1 := qT h1
  refine qZ 2 ?_
  refine stp (zA9 (v := .agg #[.int .i64 0, .int .i64 0, .int .i64 0, .int .i64 0, .int .i64 0, .int .i64 0, .int .i64 0]) (fun w => by kernel_rfl) ?_)
  refine qZ 1 ?_
  refine stn (qS hc10 ?_)
  intro w15 hc16 u17
  replace hc4 := u17.heap hc4 ne13
  replace g0 := (by first | exact Grow.upd g0 u17 (Nat.le_trans g0w (by assumption)) | exact Grow.upd g0 u17 hbn | exact Grow.upd g0 u17 hb0)
  replace K := (by first | exact K.upd_new u17 (by assumption) | exact K.tr (NkP.of_upd u17 (by simp)))
  replace st := st.upd u17 hc10 (by decide) (by decide)
  clear u17 hc10
  refine qZ 3 ?_
  have h9 : zD6 s p = (Ob0, (s.word p.seg p.off).2) := by unfold zD6; rw [if_pos h1]
  refine ret2 (zA5 rfl hc16 (by rfl)) (zA1 (v := .int .u16 ((s.word p.seg p.off).2)) rfl) ⟨by rw [h9] <;> rfl, _, fun h_ => absurd h_ (by rw [h9]; exact h1), by omega, st, K⟩
 ·
  replace h1 := qF h1
  refine qZ 8 ?_
  refine stp (zB5 rfl rfl ?_ ?_); constructor <;> omega
  refine stp (zN4 (a := .int .i64 p.seg) (b := .int .i64 (p.off + 1)) zO8 rfl rfl rfl (zM4 _ hA hr hx hs g0 hbn st (by have := hl1; omega) p.seg (p.off + 1)) ?_)
  rintro v_ w18 ⟨rfl, st2_, rel_⟩
  replace hc4 := rel_.hpN st hc4 (by decide) (by decide)
  replace hc10 := rel_.hpN st hc10 (by decide) (by decide)
  replace g0 := NkP.to_grow rel_ g0 (fun x_ hx_ => by simp only [List.mem_cons, List.mem_singleton, List.not_mem_nil, or_false] at hx_; (first | (subst hx_; first | assumption | exact hbn) | (rcases hx_ with rfl | rfl <;> assumption)))  (Nat.le_refl _)
  replace K := K.new_nk rel_ (fun x_ hx_ => by simp only [List.mem_cons, List.mem_singleton, List.not_mem_nil, or_false] at hx_; (first | (rcases hx_ with rfl | rfl <;> first | (right; simp; done) | (left; assumption)) | (subst hx_; first | (right; simp; done) | (left; assumption))))
  clear rel_ st
  have st := st2_
  clear st2_
  refine qZ 10 ?_
  refine stp (zG9 rfl rfl ?_)
  refine zA6 ?_
  refine zA2 (b := (decide (((s.word p.seg (p.off + 1)).2) ≠ 0))) rfl (fun h2 => ?_) (fun h2 => ?_)
  ·
   replace h2 := qT h2
   refine qZ 2 ?_
   refine stp (zA9 (v := .agg #[.int .i64 0, .int .i64 0, .int .i64 0, .int .i64 0, .int .i64 0, .int .i64 0, .int .i64 0]) (fun w => by kernel_rfl) ?_)
   refine qZ 1 ?_
   refine stn (qS hc10 ?_)
   intro w19 hc20 u21
   replace hc4 := u21.heap hc4 ne13
   replace g0 := (by first | exact Grow.upd g0 u21 (Nat.le_trans g0w (by assumption)) | exact Grow.upd g0 u21 hbn | exact Grow.upd g0 u21 hb0)
   replace K := (by first | exact K.upd_new u21 (by assumption) | exact K.tr (NkP.of_upd u21 (by simp)))
   replace st := st.upd u21 hc10 (by decide) (by decide)
   clear u21 hc10
   refine qZ 3 ?_
   have h9 : zD6 s p = (Ob0, (s.word p.seg (p.off + 1)).2) := by unfold zD6; rw [if_neg h1, if_pos h2]
   refine ret2 (zA5 rfl hc20 (by rfl)) (zA1 (v := .int .u16 ((s.word p.seg (p.off + 1)).2)) rfl) ⟨by rw [h9] <;> rfl, _, fun _ => rfl, by omega, st, K⟩
  ·
   replace h2 := qF h2
   refine qZ 4 ?_
   refine stp (zA4 (v := .tuple #[.agg #[.int .i64 ((decP (s.word p.seg p.off).1).kind), .int .i64 ((decP (s.word p.seg p.off).1).off), .int .i64 ((decP (s.word p.seg p.off).1).data), .int .i64 ((decP (s.word p.seg p.off).1).ptrs), .int .i64 ((decP (s.word p.seg p.off).1).size), .int .i64 ((decP (s.word p.seg p.off).1).count), .int .i64 ((decP (s.word p.seg p.off).1).seg), .bool ((decP (s.word p.seg p.off).1).dbl)], .int .u16 (decE (s.word p.seg p.off).1)]) rfl (zK9 _ _ (num9 hs hx p.seg p.off).1 (num9 hs hx p.seg p.off).2.1) ?_)
   intro w22 g23
   replace hc4 := g23.heap hc4
   replace hc10 := g23.heap hc10
   replace g0 := g0.tr g23
   replace K := K.tr (NkP.of_grow g23)
   replace st := st.grow g23
   clear g23
   refine qZ 3 ?_
   refine stp (zA7 ?_)
   intro b24 w25 hb26 hc27 g28
   refine stn (qS hc27 ?_)
   intro w29 hc30 u31
   have g32 := g28.upd u31 hb26
   have hge33 := Nat.le_trans K.size hb26
   have ne34 := qN hc4 hb26
   have ne35 := qN hc10 hb26
   replace hc4 := g32.heap hc4
   replace hc10 := g32.heap hc10
   replace g0 := g0.tr g32
   replace K := K.tr (NkP.of_grow g32)
   replace st := st.grow g32
   clear u31 g28 hb26 hc27
   refine qZ 6 ?_
   refine stp (zG9 rfl rfl ?_)
   refine zA6 ?_
   refine zA2 (b := (decide ((decE (s.word p.seg p.off).1) ≠ 0))) rfl (fun h3 => ?_) (fun h3 => ?_)
   ·
    replace h3 := qT h3
    refine qZ 2 ?_
    refine stp (zA9 (v := .agg #[.int .i64 0, .int .i64 0, .int .i64 0, .int .i64 0, .int .i64 0, .int .i64 0, .int .i64 0]) (fun w => by kernel_rfl) ?_)
    refine qZ 1 ?_
    refine stn (qS hc10 ?_)
    intro w36 hc37 u38
    replace hc4 := u38.heap hc4 ne13
    replace g0 := (by first | exact Grow.upd g0 u38 (Nat.le_trans g0w (by assumption)) | exact Grow.upd g0 u38 hbn | exact Grow.upd g0 u38 hb0)
    replace K := (by first | exact K.upd_new u38 (by assumption) | exact K.tr (NkP.of_upd u38 (by simp)))
    replace st := st.upd u38 hc10 (by decide) (by decide)
    replace hc30 := u38.heap hc30 ne35.symm
    clear u38 hc10
    refine qZ 3 ?_
    have h9 : zD6 s p = (Ob0, decE (s.word p.seg p.off).1) := by unfold zD6; rw [if_neg h1, if_neg h2, if_pos h3]
    refine ret2 (zA5 rfl hc37 (by rfl)) (zA1 (v := .int .u16 (decE (s.word p.seg p.off).1)) rfl) ⟨by rw [h9] <;> rfl, _, fun _ => rfl, by omega, st, K⟩
   ·
    replace h3 := qF h3
    refine qZ 4 ?_
    refine stp (zA4 (v := .tuple #[.agg #[.int .i64 ((decP (s.word p.seg (p.off + 1)).1).kind), .int .i64 ((decP (s.word p.seg (p.off + 1)).1).off), .int .i64 ((decP (s.word p.seg (p.off + 1)).1).data), .int .i64 ((decP (s.word p.seg (p.off + 1)).1).ptrs), .int .i64 ((decP (s.word p.seg (p.off + 1)).1).size), .int .i64 ((decP (s.word p.seg (p.off + 1)).1).count), .int .i64 ((decP (s.word p.seg (p.off + 1)).1).seg), .bool ((decP (s.word p.seg (p.off + 1)).1).dbl)], .int .u16 (decE (s.word p.seg (p.off + 1)).1)]) rfl (zK9 _ _ (num9 hs hx p.seg (p.off + 1)).1 (num9 hs hx p.seg (p.off + 1)).2.1) ?_)
    intro w39 g40
    replace hc4 := g40.heap hc4
    replace hc10 := g40.heap hc10
    replace g0 := g0.tr g40
    replace K := K.tr (NkP.of_grow g40)
    replace st := st.grow g40
    replace hc30 := g40.heap hc30
    clear g40
    refine qZ 3 ?_
    refine stp (zA7 ?_)
    intro b41 w42 hb43 hc44 g45
    refine stn (qS hc44 ?_)
    intro w46 hc47 u48
    have g49 := g45.upd u48 hb43
    have hge50 := Nat.le_trans K.size hb43
    have ne51 := qN hc4 hb43
    have ne52 := qN hc10 hb43
    have ne53 := qN hc30 hb43
    replace hc4 := g49.heap hc4
    replace hc10 := g49.heap hc10
    replace g0 := g0.tr g49
    replace K := K.tr (NkP.of_grow g49)
    replace st := st.grow g49
    replace hc30 := g49.heap hc30
    clear u48 g45 hb43 hc44
    refine qZ 7 ?_
    refine stp (zG9 rfl rfl ?_)
    refine qZ 2 ?_
    refine zA2 (b := (decide ((decE (s.word p.seg (p.off + 1)).1) ≠ 0))) rfl (fun h4 => ?_) (fun h4 => ?_)
    ·
     replace h4 := qT h4
     refine qZ 2 ?_
     refine stp (zA9 (v := .agg #[.int .i64 0, .int .i64 0, .int .i64 0, .int .i64 0, .int .i64 0, .int .i64 0, .int .i64 0]) (fun w => by kernel_rfl) ?_)
     refine qZ 1 ?_
     refine stn (qS hc10 ?_)
     intro w54 hc55 u56
     replace hc4 := u56.heap hc4 ne13
     replace g0 := (by first | exact Grow.upd g0 u56 (Nat.le_trans g0w (by assumption)) | exact Grow.upd g0 u56 hbn | exact Grow.upd g0 u56 hb0)
     replace K := (by first | exact K.upd_new u56 (by assumption) | exact K.tr (NkP.of_upd u56 (by simp)))
     replace st := st.upd u56 hc10 (by decide) (by decide)
     replace hc30 := u56.heap hc30 ne35.symm
     replace hc47 := u56.heap hc47 ne52.symm
     clear u56 hc10
     refine qZ 3 ?_
     have h9 : zD6 s p = (Ob0, decE (s.word p.seg (p.off + 1)).1) := by unfold zD6; rw [if_neg h1, if_neg h2, if_neg h3, if_pos h4]
     refine ret2 (zA5 rfl hc55 (by rfl)) (zA1 (v := .int .u16 (decE (s.word p.seg (p.off + 1)).1)) rfl) ⟨by rw [h9] <;> rfl, _, fun _ => rfl, by omega, st, K⟩
    ·
     replace h4 := qF h4
     refine qZ 4 ?_
     refine stp (zG9 rfl rfl ?_)
     refine qZ 1 ?_
     refine qG 2 ?_
     refine stp (zH6 rfl rfl rfl ?_)
     refine qZ 1 ?_
     refine zA3 (zB2 (s := .bool _) (v := .agg #[.int .i64 ((decP (s.word p.seg (p.off + 1)).1).kind), .int .i64 ((decP (s.word p.seg (p.off + 1)).1).off), .int .i64 ((decP (s.word p.seg (p.off + 1)).1).data), .int .i64 ((decP (s.word p.seg (p.off + 1)).1).ptrs), .int .i64 ((decP (s.word p.seg (p.off + 1)).1).size), .int .i64 ((decP (s.word p.seg (p.off + 1)).1).count), .int .i64 ((decP (s.word p.seg (p.off + 1)).1).seg), .bool ((decP (s.word p.seg (p.off + 1)).1).dbl)]) rfl (zE3 _) (fun hc59 => ?_) ?_)
     ·
      have hc59_ := hc59
      try simp only [sb] at hc59_
      refine zD8 rfl hc47 (by rfl) ?_
      exact ⟨rfl, rfl⟩
     refine zA3 (zX8 (s := .bool ((decide (((decP (s.word p.seg p.off).1).kind) ≠ 3)) || ((decP (s.word p.seg p.off).1).dbl))) (b := false) (v := .bool (zH4 (decP (s.word p.seg (p.off + 1)).1))) rfl (zE3 _) (fun hc60 => ?_) ?_)
     ·
      have hc60_ := hc60
      try simp only [sb] at hc60_
      exact zM7 (l := ([.agg #[.int .i64 ((decP (s.word p.seg (p.off + 1)).1).kind), .int .i64 ((decP (s.word p.seg (p.off + 1)).1).off), .int .i64 ((decP (s.word p.seg (p.off + 1)).1).data), .int .i64 ((decP (s.word p.seg (p.off + 1)).1).ptrs), .int .i64 ((decP (s.word p.seg (p.off + 1)).1).size), .int .i64 ((decP (s.word p.seg (p.off + 1)).1).count), .int .i64 ((decP (s.word p.seg (p.off + 1)).1).seg), .bool ((decP (s.word p.seg (p.off + 1)).1).dbl)]] : List Value)) rfl (by show ([gv (!((decide (((decP (s.word p.seg p.off).1).kind) ≠ 3)) || ((decP (s.word p.seg p.off).1).dbl))) (.agg #[.int .i64 ((decP (s.word p.seg (p.off + 1)).1).kind), .int .i64 ((decP (s.word p.seg (p.off + 1)).1).off), .int .i64 ((decP (s.word p.seg (p.off + 1)).1).data), .int .i64 ((decP (s.word p.seg (p.off + 1)).1).ptrs), .int .i64 ((decP (s.word p.seg (p.off + 1)).1).size), .int .i64 ((decP (s.word p.seg (p.off + 1)).1).count), .int .i64 ((decP (s.word p.seg (p.off + 1)).1).seg), .bool ((decP (s.word p.seg (p.off + 1)).1).dbl)])] : List Value) = _; rw [gvt hc60]) (zL0 _ (decP (s.word p.seg (p.off + 1)).1)) (fun w2_ g2_ => ⟨rfl, g2_⟩)
     intro w61 g62
     replace hc4 := g62.heap hc4
     replace hc10 := g62.heap hc10
     replace g0 := g0.tr g62
     replace K := K.tr (NkP.of_grow g62)
     replace st := st.grow g62
     replace hc30 := g62.heap hc30
     replace hc47 := g62.heap hc47
     clear g62
     refine zA3 (zB2 (s := .bool _) (v := .bool (!(zH4 (decP (s.word p.seg (p.off + 1)).1)))) rfl (zE3 _) (fun hc63 => ?_) ?_)
     ·
      have hc63_ := hc63
      try simp only [sb] at hc63_
      refine zN8 (gvt hc63) ?_
      exact ⟨rfl, rfl⟩
     refine stp (zH6 rfl rfl rfl ?_)
     refine qZ 1 ?_
     refine qG 2 ?_
     refine zA3 (zB2 (s := .bool _) (v := .bool (decide (((decP (s.word p.seg (p.off + 1)).1).off) ≠ 0))) rfl (zE3 _) (fun hc66 => ?_) ?_)
     ·
      have hc66_ := hc66
      try simp only [sb] at hc66_
      refine zG9 (gvt hc66) rfl ?_
      exact ⟨rfl, rfl⟩
     refine stp (zH6 rfl rfl rfl ?_)
     refine qZ 2 ?_
     refine zA2 (b := ((((decide (((decP (s.word p.seg p.off).1).kind) ≠ 3)) || ((decP (s.word p.seg p.off).1).dbl)) || (!(zH4 (decP (s.word p.seg (p.off + 1)).1)))) || (decide (((decP (s.word p.seg (p.off + 1)).1).off) ≠ 0)))) rfl (fun h5 => ?_) (fun h5 => ?_)
     ·
      simp only [sb] at h5
      have h8 : (decP (s.word p.seg p.off).1).kind ≠ 3 ∨ (decP (s.word p.seg p.off).1).dbl = true ∨ zH4 (decP (s.word p.seg (p.off + 1)).1) = false ∨ (decP (s.word p.seg (p.off + 1)).1).off ≠ 0 := by simpa [or_assoc] using h5
      refine qZ 2 ?_
      refine stp (zA9 (v := .agg #[.int .i64 0, .int .i64 0, .int .i64 0, .int .i64 0, .int .i64 0, .int .i64 0, .int .i64 0]) (fun w => by kernel_rfl) ?_)
      refine stn (qS hc10 ?_)
      intro w67 hc68 u69
      replace hc4 := u69.heap hc4 ne13
      replace g0 := (by first | exact Grow.upd g0 u69 (Nat.le_trans g0w (by assumption)) | exact Grow.upd g0 u69 hbn | exact Grow.upd g0 u69 hb0)
      replace K := (by first | exact K.upd_new u69 (by assumption) | exact K.tr (NkP.of_upd u69 (by simp)))
      replace st := st.upd u69 hc10 (by decide) (by decide)
      replace hc30 := u69.heap hc30 ne35.symm
      replace hc47 := u69.heap hc47 ne52.symm
      clear u69 hc10
      refine qZ 3 ?_
      have h9 : zD6 s p = (Ob0, 23) := by unfold zD6; rw [if_neg h1, if_neg h2, if_neg h3, if_neg h4, if_pos h8]
      refine ret2 (zA5 rfl hc68 (by rfl)) (zA1 (v := .int .u16 23) rfl) ⟨by rw [h9] <;> rfl, _, fun _ => rfl, by omega, st, K⟩
     ·
      simp only [sb] at h5
      have h8 : ¬ ((decP (s.word p.seg p.off).1).kind ≠ 3 ∨ (decP (s.word p.seg p.off).1).dbl = true ∨ zH4 (decP (s.word p.seg (p.off + 1)).1) = false ∨ (decP (s.word p.seg (p.off + 1)).1).off ≠ 0) := by simpa [and_assoc] using h5
      refine qZ 9 ?_
      refine stp (zA4 (v := .tuple #[.agg #[.int .i64 ((zB4 s (decP (s.word p.seg (p.off + 1)).1) ((decP (s.word p.seg p.off).1).seg) ((decP (s.word p.seg p.off).1).off)).1.kind), .int .i64 ((zB4 s (decP (s.word p.seg (p.off + 1)).1) ((decP (s.word p.seg p.off).1).seg) ((decP (s.word p.seg p.off).1).off)).1.seg), .int .i64 ((zB4 s (decP (s.word p.seg (p.off + 1)).1) ((decP (s.word p.seg p.off).1).seg) ((decP (s.word p.seg p.off).1).off)).1.at_), .int .i64 ((zB4 s (decP (s.word p.seg (p.off + 1)).1) ((decP (s.word p.seg p.off).1).seg) ((decP (s.word p.seg p.off).1).off)).1.data), .int .i64 ((zB4 s (decP (s.word p.seg (p.off + 1)).1) ((decP (s.word p.seg p.off).1).seg) ((decP (s.word p.seg p.off).1).off)).1.ptrs), .int .i64 ((zB4 s (decP (s.word p.seg (p.off + 1)).1) ((decP (s.word p.seg p.off).1).seg) ((decP (s.word p.seg p.off).1).off)).1.size), .int .i64 ((zB4 s (decP (s.word p.seg (p.off + 1)).1) ((decP (s.word p.seg p.off).1).seg) ((decP (s.word p.seg p.off).1).off)).1.count)], .int .u16 ((zB4 s (decP (s.word p.seg (p.off + 1)).1) ((decP (s.word p.seg p.off).1).seg) ((decP (s.word p.seg p.off).1).off)).2)]) rfl (zW3 _ hA hr hx hs g0 hbn st (by omega) (decP (s.word p.seg (p.off + 1)).1) ((decP (s.word p.seg p.off).1).seg) ((decP (s.word p.seg p.off).1).off) hr9 (by simp only [inR]; omega)) ?_)
      intro w70 g71
      replace hc4 := g71.heap hc4
      replace hc10 := g71.heap hc10
      replace g0 := g0.tr g71
      replace K := K.tr (NkP.of_grow g71)
      replace st := st.grow g71
      replace hc30 := g71.heap hc30
      replace hc47 := g71.heap hc47
      clear g71
      refine qZ 2 ?_
      refine stn (qS hc10 ?_)
      intro w72 hc73 u74
      replace hc4 := u74.heap hc4 ne13
      replace g0 := (by first | exact Grow.upd g0 u74 (Nat.le_trans g0w (by assumption)) | exact Grow.upd g0 u74 hbn | exact Grow.upd g0 u74 hb0)
      replace K := (by first | exact K.upd_new u74 (by assumption) | exact K.tr (NkP.of_upd u74 (by simp)))
      replace st := st.upd u74 hc10 (by decide) (by decide)
      replace hc30 := u74.heap hc30 ne35.symm
      replace hc47 := u74.heap hc47 ne52.symm
      clear u74 hc10
      refine qZ 3 ?_
      have h9 : zD6 s p = zB4 s (decP (s.word p.seg (p.off + 1)).1) (decP (s.word p.seg p.off).1).seg (decP (s.word p.seg p.off).1).off := by unfold zD6; rw [if_neg h1, if_neg h2, if_neg h3, if_neg h4, if_neg h8]
      refine ret2 (zA5 rfl hc73 (by rfl)) (zA1 (v := .int .u16 ((zB4 s (decP (s.word p.seg (p.off + 1)).1) ((decP (s.word p.seg p.off).1).seg) ((decP (s.word p.seg p.off).1).off)).2)) rfl) ⟨by rw [h9] <;> rfl, _, fun _ => rfl, by omega, st, K⟩
theorem zU3 (w : World) {w0 : World} {u : Value} {A : List (List Int)} (hA : zG2 w0 u A) (hr : zC7 A = true) (hx : AllU A) {s : Src} (hs : s = zB0 A) (g0 : Grow w0 w) {bn : Nat} (hbn : w0.heap.size ≤ bn) {L : List Spn} (st : NtS 110 79 61 w0.heap.size w u bn L) (hL : L.length ≤ 99000) (seg a : Int) : Calls Tryz.prog 52 #[.iface 74 (.pointer (some ⟨bn, 0, none⟩)), .int .i64 seg, .int .i64 a] w (Ret fun v w' => v = .tuple #[.agg #[.int .i64 ((zA0 s seg a).1.kind), .int .i64 ((zA0 s seg a).1.seg), .int .i64 ((zA0 s seg a).1.at_), .int .i64 ((zA0 s seg a).1.data), .int .i64 ((zA0 s seg a).1.ptrs), .int .i64 ((zA0 s seg a).1.size), .int .i64 ((zA0 s seg a).1.count)], .int .u16 ((zA0 s seg a).2)] ∧ ∃ L2, ((zA0 s seg a).2 = 0 → L2 = zF2 A L seg a) ∧ L2.length ≤ L.length + 3 ∧ NtS 110 79 61 w0.heap.size w' u bn L2 ∧ NkP [bn] 61 w0.heap.size w w') := by
 have K := NkP.refl [bn] 61 w0.heap.size w
 have g0w := g0.size
 have hq := ptr9 hs hx seg a
 have hqo := hq.off
 have hqk := hq.kind
 have hln := zS7 A L seg a
 refine zC2 Tryz.func52 Tryz.ntmps52 Tryz.results52 rfl rfl ?_
 refine qZ 2 ?_
 refine stp (zA7 ?_)
 intro b1 w2 hb3 hc4 g5
 refine qZ 6 ?_
 refine stp (yA8 (T := 74) (v := .pointer (some ⟨bn, 0, none⟩)) rfl rfl ?_)
 refine zA6 ?_
 have hge6 := Nat.le_trans K.size hb3
 replace K := K.tr (NkP.of_grow g5)
 replace g0 := g0.tr g5
 replace st := st.grow g5
 clear g5 hb3
 refine zN5 rfl ?_
 refine qZ 6 ?_
 refine stp ?_
 refine zD7 rfl (zX9 _ hA hr hx hs g0 hbn st (by have := hL; omega) seg a) ?_
 rintro v_ w7 ⟨rfl, st2_, rel_⟩
 replace hc4 := rel_.hpN st hc4 (by decide) (by decide)
 replace g0 := NkP.to_grow rel_ g0 (fun x_ hx_ => by simp only [List.mem_cons, List.mem_singleton, List.not_mem_nil, or_false] at hx_; (first | (subst hx_; first | assumption | exact hbn) | (rcases hx_ with rfl | rfl <;> assumption)))  (Nat.le_refl _)
 replace K := K.new_nk rel_ (fun x_ hx_ => by simp only [List.mem_cons, List.mem_singleton, List.not_mem_nil, or_false] at hx_; (first | (rcases hx_ with rfl | rfl <;> first | (right; simp; done) | (left; assumption)) | (subst hx_; first | (right; simp; done) | (left; assumption))))
 clear rel_ st
 have st := st2_
 clear st2_
 have hl_w7 := zS7 A L seg a
 refine qZ 3 ?_
 refine stp (zA7 ?_)
 intro b8 w9 hb10 hc11 g12
 refine stn (qS hc11 ?_)
 intro w13 hc14 u15
 have g16 := g12.upd u15 hb10
 have hge17 := Nat.le_trans K.size hb10
 have ne18 := qN hc4 hb10
 replace hc4 := g16.heap hc4
 replace g0 := g0.tr g16
 replace K := K.tr (NkP.of_grow g16)
 replace st := st.grow g16
 clear u15 g12 hb10 hc11
 refine qZ 7 ?_
 refine stp (zG9 rfl rfl ?_)
 refine qZ 1 ?_
 refine qG 2 ?_
 refine zA3 (zB2 (s := .bool _) (v := .bool (decide (((ptrS s seg a).1.kind) = 0))) rfl (zE3 _) (fun hc21 => ?_) ?_)
 ·
  have hc21_ := hc21
  try simp only [sb] at hc21_
  refine zD5 (gvt hc21) rfl ?_
  exact ⟨rfl, rfl⟩
 refine stp (zH6 rfl rfl rfl ?_)
 refine qZ 2 ?_
 refine zA2 (b := ((decide (((ptrS s seg a).2) ≠ 0)) || (decide (((ptrS s seg a).1.kind) = 0)))) rfl (fun h1 => ?_) (fun h1 => ?_)
 ·
  simp only [sb] at h1
  refine qZ 2 ?_
  refine stp (zA9 (v := .agg #[.int .i64 0, .int .i64 0, .int .i64 0, .int .i64 0, .int .i64 0, .int .i64 0, .int .i64 0]) (fun w => by kernel_rfl) ?_)
  refine qZ 1 ?_
  refine stn (qS hc4 ?_)
  intro w22 hc23 u24
  replace g0 := (by first | exact Grow.upd g0 u24 (Nat.le_trans g0w (by assumption)) | exact Grow.upd g0 u24 hbn | exact Grow.upd g0 u24 hb0)
  replace K := (by first | exact K.upd_new u24 (by assumption) | exact K.tr (NkP.of_upd u24 (by simp)))
  replace st := st.upd u24 hc4 (by decide) (by decide)
  replace hc14 := u24.heap hc14 ne18.symm
  clear u24 hc4
  refine qZ 3 ?_
  have h9 : zA0 s seg a = (Ob0, (ptrS s seg a).2) := by unfold zA0; rw [if_pos h1]
  refine ret2 (zA5 rfl hc23 (by rfl)) (zA1 (v := .int .u16 ((ptrS s seg a).2)) rfl) ⟨by rw [h9] <;> rfl, _, fun h_ => by rw [h9] at h_; exact (yN4 hs h_ (by have h_ : (ptrS s seg a).2 = 0 := h_; omega) L).symm, by omega, st, K⟩
 ·
  simp only [sb] at h1
  have hz : (ptrS s seg a).2 = 0 := by omega
  have hb := jB3 hs hr hz
  have h1n : ¬ ((ptrS s seg a).2 ≠ 0 ∨ (ptrS s seg a).1.kind = 0) := by omega
  refine qZ 3 ?_
  refine stp (zA4 (v := .bool (zH4 ((ptrS s seg a).1))) rfl (zL0 _ ((ptrS s seg a).1)) ?_)
  intro w25 g26
  replace hc4 := g26.heap hc4
  replace g0 := g0.tr g26
  replace K := K.tr (NkP.of_grow g26)
  replace st := st.grow g26
  replace hc14 := g26.heap hc14
  clear g26
  refine qZ 2 ?_
  refine zA2 (b := (zH4 ((ptrS s seg a).1))) rfl (fun h2 => ?_) (fun h2 => ?_)
  ·
   have hkn : (ptrS s seg a).1.kind ≠ 3 := by intro h_; simp [zH4, h_] at h2
   refine qZ 6 ?_
   refine stp (zB5 rfl rfl ?_ ?_); constructor <;> omega
   refine qZ 2 ?_
   refine stp (zB5 rfl rfl ?_ ?_); constructor <;> omega
   refine stp (zA4 (v := .tuple #[.agg #[.int .i64 ((zB4 s ((ptrS s seg a).1) seg ((a + 1) + ((ptrS s seg a).1.off))).1.kind), .int .i64 ((zB4 s ((ptrS s seg a).1) seg ((a + 1) + ((ptrS s seg a).1.off))).1.seg), .int .i64 ((zB4 s ((ptrS s seg a).1) seg ((a + 1) + ((ptrS s seg a).1.off))).1.at_), .int .i64 ((zB4 s ((ptrS s seg a).1) seg ((a + 1) + ((ptrS s seg a).1.off))).1.data), .int .i64 ((zB4 s ((ptrS s seg a).1) seg ((a + 1) + ((ptrS s seg a).1.off))).1.ptrs), .int .i64 ((zB4 s ((ptrS s seg a).1) seg ((a + 1) + ((ptrS s seg a).1.off))).1.size), .int .i64 ((zB4 s ((ptrS s seg a).1) seg ((a + 1) + ((ptrS s seg a).1.off))).1.count)], .int .u16 ((zB4 s ((ptrS s seg a).1) seg ((a + 1) + ((ptrS s seg a).1.off))).2)]) rfl (zW3 _ hA hr hx hs g0 hbn st (by omega) ((ptrS s seg a).1) seg ((a + 1) + ((ptrS s seg a).1.off)) hq (by simp only [inR]; omega)) ?_)
   intro w27 g28
   replace hc4 := g28.heap hc4
   replace g0 := g0.tr g28
   replace K := K.tr (NkP.of_grow g28)
   replace st := st.grow g28
   replace hc14 := g28.heap hc14
   clear g28
   refine qZ 2 ?_
   refine stn (qS hc4 ?_)
   intro w29 hc30 u31
   replace g0 := (by first | exact Grow.upd g0 u31 (Nat.le_trans g0w (by assumption)) | exact Grow.upd g0 u31 hbn | exact Grow.upd g0 u31 hb0)
   replace K := (by first | exact K.upd_new u31 (by assumption) | exact K.tr (NkP.of_upd u31 (by simp)))
   replace st := st.upd u31 hc4 (by decide) (by decide)
   replace hc14 := u31.heap hc14 ne18.symm
   clear u31 hc4
   refine qZ 3 ?_
   have h9 : zA0 s seg a = zB4 s (ptrS s seg a).1 seg (a + 1 + (ptrS s seg a).1.off) := by unfold zA0; rw [if_neg h1n, if_pos h2]
   refine ret2 (zA5 rfl hc30 (by rfl)) (zA1 (v := .int .u16 ((zB4 s ((ptrS s seg a).1) seg ((a + 1) + ((ptrS s seg a).1.off))).2)) rfl) ⟨by rw [h9] <;> rfl, _, fun _ => (yN4 hs hz hkn L).symm, by omega, st, K⟩
  ·
   have hk3 : (ptrS s seg a).1.kind = 3 := by have h_ : ¬ ((ptrS s seg a).1.kind = 1 ∨ (ptrS s seg a).1.kind = 2) := (by simpa [zH4] using h2); omega
   refine qZ 6 ?_
   refine zA2 (b := ((ptrS s seg a).1.dbl)) rfl (fun h3 => ?_) (fun h3 => ?_)
   ·
    refine qZ 4 ?_
    refine stp ?_
    refine zD7 rfl (qT1 _ hA hr hx hs g0 hbn st (by omega) (ptrS s seg a).1 hq) ?_
    rintro v_ w32 ⟨rfl, L2, he2, hl2, st2_, rel_⟩
    replace hc4 := rel_.hpN st hc4 (by decide) (by decide)
    replace hc14 := rel_.hpN st hc14 (by decide) (by decide)
    replace g0 := NkP.to_grow rel_ g0 (fun x_ hx_ => by simp only [List.mem_cons, List.mem_singleton, List.not_mem_nil, or_false] at hx_; (first | (subst hx_; first | assumption | exact hbn) | (rcases hx_ with rfl | rfl <;> assumption)))  (Nat.le_refl _)
    replace K := K.new_nk rel_ (fun x_ hx_ => by simp only [List.mem_cons, List.mem_singleton, List.not_mem_nil, or_false] at hx_; (first | (rcases hx_ with rfl | rfl <;> first | (right; simp; done) | (left; assumption)) | (subst hx_; first | (right; simp; done) | (left; assumption))))
    clear rel_ st
    have st := st2_
    clear st2_
    refine qZ 2 ?_
    refine stn (qS hc4 ?_)
    intro w33 hc34 u35
    replace hc14 := u35.heap hc14 ne18.symm
    replace g0 := (by first | exact Grow.upd g0 u35 (Nat.le_trans g0w (by assumption)) | exact Grow.upd g0 u35 hbn | exact Grow.upd g0 u35 hb0)
    replace K := (by first | exact K.upd_new u35 (by assumption) | exact K.tr (NkP.of_upd u35 (by simp)))
    replace st := st.upd u35 hc4 (by decide) (by decide)
    clear u35 hc4
    refine qZ 3 ?_
    have h9 : zA0 s seg a = zD6 s (ptrS s seg a).1 := by unfold zA0; rw [if_neg h1n, if_neg (by simp [h2]), if_pos h3]
    refine ret2 (zA5 rfl hc34 (by rfl)) (zA1 (v := .int .u16 ((zD6 s (ptrS s seg a).1).2)) rfl) ⟨by rw [h9] <;> rfl, _, fun h_ => by rw [he2 (by rw [h9] at h_; exact h_), yY0 hs hz hk3 h3], by omega, st, K⟩
   ·
    refine qZ 5 ?_
    refine stp ?_
    refine zD7 rfl (qO1 _ hA hr hx hs g0 hbn st (by omega) (ptrS s seg a).1 hq) ?_
    rintro v_ w36 ⟨rfl, st2_, rel_⟩
    replace hc4 := rel_.hpN st hc4 (by decide) (by decide)
    replace hc14 := rel_.hpN st hc14 (by decide) (by decide)
    replace g0 := NkP.to_grow rel_ g0 (fun x_ hx_ => by simp only [List.mem_cons, List.mem_singleton, List.not_mem_nil, or_false] at hx_; (first | (subst hx_; first | assumption | exact hbn) | (rcases hx_ with rfl | rfl <;> assumption)))  (Nat.le_refl _)
    replace K := K.new_nk rel_ (fun x_ hx_ => by simp only [List.mem_cons, List.mem_singleton, List.not_mem_nil, or_false] at hx_; (first | (rcases hx_ with rfl | rfl <;> first | (right; simp; done) | (left; assumption)) | (subst hx_; first | (right; simp; done) | (left; assumption))))
    clear rel_ st
    have st := st2_
    clear st2_
    have hl3 := zS7 A (zI9 A L seg a) (ptrS s seg a).1.seg (ptrS s seg a).1.off
    refine qZ 2 ?_
    refine stn (qS hc4 ?_)
    intro w37 hc38 u39
    replace hc14 := u39.heap hc14 ne18.symm
    replace g0 := (by first | exact Grow.upd g0 u39 (Nat.le_trans g0w (by assumption)) | exact Grow.upd g0 u39 hbn | exact Grow.upd g0 u39 hb0)
    replace K := (by first | exact K.upd_new u39 (by assumption) | exact K.tr (NkP.of_upd u39 (by simp)))
    replace st := st.upd u39 hc4 (by decide) (by decide)
    clear u39 hc4
    refine qZ 3 ?_
    have h9 : zA0 s seg a = zD0 s (ptrS s seg a).1 := by unfold zA0; rw [if_neg h1n, if_neg (by simp [h2]), if_neg (by simp [h3])]
    refine ret2 (zA5 rfl hc38 (by rfl)) (zA1 (v := .int .u16 ((zD0 s (ptrS s seg a).1).2)) rfl) ⟨by rw [h9] <;> rfl, _, fun _ => (yS5 hs hz hk3 (by simp [h3]) L).symm, by omega, st, K⟩
theorem qY1 (w : World) {w0 : World} {u : Value} {A : List (List Int)} (hA : zG2 w0 u A) (hr : zC7 A = true) (hx : AllU A) {s : Src} (hs : s = zB0 A) (g0 : Grow w0 w) {bn : Nat} (hbn : w0.heap.size ≤ bn) {L : List Spn} (st : NtS 110 79 61 w0.heap.size w u bn L) (hL : L.length ≤ 99000) {b : Nat} {o : Ob} {left k : Int} (hb0 : w0.heap.size ≤ b) (hb : w.heap[b]? = some (.cells #[.iface 74 (.pointer (some ⟨bn, 0, none⟩)), .int .i64 o.kind, .int .i64 o.seg, .int .i64 o.at_, .int .i64 o.data, .int .i64 o.ptrs, .int .i64 o.size, .int .i64 o.count, .int .i64 left] 117 (0, 0))) (ho : ObR o) (hok : ObK o) (hk : 0 ≤ k) : Calls Tryz.prog 54 #[.pointer (some ⟨b, 0, none⟩), .int .i64 k] w (Ret fun v w' => v = .int .u16 (zD9 s o k).2 ∧ ∃ L2, ((zD9 s o k).2 = 0 → L2 = yF8 A L o k) ∧ L2.length ≤ L.length + 3 ∧ w'.heap[b]? = some (.cells #[.iface 74 (.pointer (some ⟨bn, 0, none⟩)), .int .i64 ((zD9 s o k).1.kind), .int .i64 ((zD9 s o k).1.seg), .int .i64 ((zD9 s o k).1.at_), .int .i64 ((zD9 s o k).1.data), .int .i64 ((zD9 s o k).1.ptrs), .int .i64 ((zD9 s o k).1.size), .int .i64 ((zD9 s o k).1.count), .int .i64 left] 117 (0, 0)) ∧ NtS 110 79 61 w0.heap.size w' u bn L2 ∧ NkP [bn, b] 61 w0.heap.size w w') := by
 obtain ⟨rk, rs, ra, rd, rp, rz, rc⟩ := ho
 have K := NkP.refl [bn, b] 61 w0.heap.size w
 have g0w := g0.size
 have hblt := zC1 hb
 refine zC2 Tryz.func54 Tryz.ntmps54 Tryz.results54 rfl rfl ?_
 refine qZ 9 ?_
 refine stp (zI0 rfl hb (by rfl) (by rfl) ?_)
 refine stp (zA7 ?_)
 intro b1 w2 hb3 hc4 g5
 refine stn (qS hc4 ?_)
 intro w6 hc7 u8
 have g9 := g5.upd u8 hb3
 have hge10 := Nat.le_trans K.size hb3
 have ne11 := qN hb hb3
 replace K := K.tr (NkP.of_grow g9)
 replace g0 := g0.tr g9
 replace st := st.grow g9
 replace hb := g9.heap hb
 clear u8 g5 hb3 hc4
 refine qZ 6 ?_
 refine stp (zG6 rfl rfl ?_)
 obtain ⟨at9, hat9⟩ : ∃ x, x = IntKind.i64.wrap (o.at_ + k) := ⟨_, rfl⟩
 rw [← hat9]
 refine qZ 8 ?_
 refine stp (zD5 rfl rfl ?_)
 refine qZ 1 ?_
 refine qG 2 ?_
 refine zA3 (zB2 (s := .bool _) (v := .bool (decide (o.kind = 1))) rfl (zE3 _) (fun hc14 => ?_) ?_)
 ·
  have hc14_ := hc14
  try simp only [sb] at hc14_
  refine zD5 (gvt hc14) rfl ?_
  exact ⟨rfl, rfl⟩
 refine qG 1 ?_
 refine zA3 (zB2 (s := gv (!(decide (o.kind = 0))) (.bool (decide (o.kind = 1)))) (b := true) (v := .int .i64 k) rfl (zK1 _ _) (fun hc16 => ?_) ?_)
 ·
  obtain ⟨hc16a, hc16b⟩ := and_t hc16
  have hc16a_ := hc16a
  try simp only [sb] at hc16a_
  have hc16b_ := qT hc16b
  refine zD3 rfl ?_
  exact ⟨rfl, rfl⟩
 refine zA3 (zB2 (s := gv (!(decide (o.kind = 0))) (.bool (decide (o.kind = 1)))) (b := true) (v := .pointer (some ⟨b1, 4, none⟩)) rfl (zK1 _ _) (fun hc17 => ?_) ?_)
 ·
  obtain ⟨hc17a, hc17b⟩ := and_t hc17
  have hc17a_ := hc17a
  try simp only [sb] at hc17a_
  have hc17b_ := qT hc17b
  refine zD4 rfl ?_
  exact ⟨rfl, rfl⟩
 refine zA3 (zB2 (s := gv (!(decide (o.kind = 0))) (.bool (decide (o.kind = 1)))) (b := true) (v := .int .i64 o.ptrs) rfl (zK1 _ _) (fun hc18 => ?_) ?_)
 ·
  obtain ⟨hc18a, hc18b⟩ := and_t hc18
  have hc18a_ := hc18a
  try simp only [sb] at hc18a_
  have hc18b_ := qT hc18b
  refine zG7 (v := .int .i64 o.ptrs) (gvt hc18) hc7 rfl ?_
  exact ⟨rfl, rfl⟩
 refine zA3 (zB2 (s := gv (!(decide (o.kind = 0))) (.bool (decide (o.kind = 1)))) (b := true) (v := .bool (decide (k ≥ o.ptrs))) rfl (zK1 _ _) (fun hc19 => ?_) ?_)
 ·
  obtain ⟨hc19a, hc19b⟩ := and_t hc19
  have hc19a_ := hc19a
  try simp only [sb] at hc19a_
  have hc19b_ := qT hc19b
  refine zP7 (gvt hc19) (gvt hc19) ?_
  exact ⟨rfl, rfl⟩
 refine zA3 (zB2 (s := .bool _) (v := .bool ((decide (o.kind = 1)) && (decide (k ≥ o.ptrs)))) rfl (zE3 _) (fun hc20 => ?_) ?_)
 ·
  have hc20_ := hc20
  try simp only [sb] at hc20_
  refine qB2 hc20 (gvt hc20) rfl rfl ?_
  exact ⟨rfl, rfl⟩
 refine stp (zH6 rfl rfl rfl ?_)
 refine qZ 2 ?_
 refine zA2 (b := ((decide (o.kind = 0)) || ((decide (o.kind = 1)) && (decide (k ≥ o.ptrs))))) rfl (fun h1 => ?_) (fun h1 => ?_)
 ·
  simp only [sb] at h1
  refine qZ 3 ?_
  refine stp (zA9 (v := .agg #[.int .i64 0, .int .i64 0, .int .i64 0, .int .i64 0, .int .i64 0, .int .i64 0, .int .i64 0]) (fun w => by kernel_rfl) ?_)
  refine qZ 2 ?_
  refine stn (zY4 (cs' := #[.iface 74 (.pointer (some ⟨bn, 0, none⟩)), .int .i64 0, .int .i64 0, .int .i64 0, .int .i64 0, .int .i64 0, .int .i64 0, .int .i64 0, .int .i64 left]) rfl rfl (by rfl) hb (by rfl) (by rfl) (by rfl) (by rfl) ?_)
  intro w21 hc22 u23
  replace K := (by first | exact K.upd_new u23 (by assumption) | exact K.tr (NkP.of_upd u23 (by simp)))
  replace g0 := (by first | exact Grow.upd g0 u23 (Nat.le_trans g0w (by assumption)) | exact Grow.upd g0 u23 hbn | exact Grow.upd g0 u23 hb0)
  replace st := st.upd u23 hb (by decide) (by decide)
  replace hc7 := u23.heap hc7 ne11.symm
  clear u23 hb
  refine qZ 6 ?_
  have h9 : zD9 s o k = (Ob0, 0) := by unfold zD9; rw [if_pos h1]
  refine ret1 (zA1 (v := .int .u16 0) rfl) ⟨by rw [h9], _, fun _ => by unfold yF8; rw [if_pos h1], by omega, by rw [h9]; exact hc22, st, K⟩
 ·
  simp only [sb] at h1
  have h1n : ¬ (o.kind = 0 ∨ o.kind = 1 ∧ k ≥ o.ptrs) := by omega
  refine qZ 4 ?_
  refine stp (zD5 rfl rfl ?_)
  refine qZ 2 ?_
  refine zA2 (b := (decide (o.kind = 1))) rfl (fun h2 => ?_) (fun h2 => ?_)
  ·
   replace h2 := qT h2
   have hat8 : at9 = o.at_ + k := by rw [hat9]; exact zI8 (by simp only [inR]; omega)
   refine qZ 4 ?_
   refine stp (zB5 rfl rfl ?_ ?_); constructor <;> omega
   refine qZ 3 ?_
   have kb_hc7 : ∀ w_, (nkR [bn, b] 61 w0.heap.size).r w6 w_ → w_.heap[b1]? = some (.cells #[.int .i64 o.kind, .int .i64 o.seg, .int .i64 o.at_, .int .i64 o.data, .int .i64 o.ptrs, .int .i64 o.size, .int .i64 o.count] 112 (0, 0)) := fun w_ k_ => NkP.hpN2 k_ st hb hc7 (by decide) (by decide) (by decide)
   have kb_g0 : ∀ w_, (nkR [bn, b] 61 w0.heap.size).r w6 w_ → Grow w0 w_ := fun w_ k_ => NkP.to_grow k_ g0 (fun x_ hx_ => by simp only [List.mem_cons, List.not_mem_nil, or_false] at hx_; rcases hx_ with rfl | rfl <;> assumption) (Nat.le_refl _)
   have kb_K : ∀ w_, (nkR [bn, b] 61 w0.heap.size).r w6 w_ → NkP [bn, b] 61 w0.heap.size w w_ := fun w_ k_ => K.tr k_
   refine qK1 15 [[], [], [0], [1, 0], [2, 1, 0], [], [0], [], [6, 5, 4, 3, 2, 1, 0], [7, 6, 5, 4, 3, 2, 1, 0], [8, 7, 6, 5, 4, 3, 2, 1, 0], [9, 8, 7, 6, 5, 4, 3, 2, 1], [11, 10, 9, 8, 7, 6, 5, 4, 3, 2, 1], [12, 11, 10, 9, 8, 7, 6, 5, 4, 3, 2, 0], [13, 12, 11, 10, 9, 8, 7, 6, 5, 4, 3, 1, 0]] [4, 8, 14] (nkR [bn, b] 61 w0.heap.size) (fun k_ w_ => match k_ with | 0 => w_.heap[b]? = some (.cells #[.iface 74 (.pointer (some ⟨bn, 0, none⟩)), .int .i64 o.kind, .int .i64 o.seg, .int .i64 o.at_, .int .i64 o.data, .int .i64 o.ptrs, .int .i64 o.size, .int .i64 o.count, .int .i64 left] 117 (0, 0)) ∧ NtS 110 79 61 w0.heap.size w_ u bn L | 1 => w_.heap[b]? = some (.cells #[.iface 74 (.pointer (some ⟨bn, 0, none⟩)), .int .i64 o.kind, .int .i64 o.seg, .int .i64 o.at_, .int .i64 o.data, .int .i64 o.ptrs, .int .i64 o.size, .int .i64 o.count, .int .i64 left] 117 (0, 0)) ∧ NtS 110 79 61 w0.heap.size w_ u bn L | 2 => (∃ L2, (((zA0 s o.seg (at9 + o.data))).2 = 0 → L2 = zF2 A L o.seg (at9 + o.data)) ∧ L2.length ≤ L.length + 3 ∧ w_.heap[b]? = some (.cells #[.iface 74 (.pointer (some ⟨bn, 0, none⟩)), .int .i64 o.kind, .int .i64 o.seg, .int .i64 o.at_, .int .i64 o.data, .int .i64 o.ptrs, .int .i64 o.size, .int .i64 o.count, .int .i64 left] 117 (0, 0)) ∧ NtS 110 79 61 w0.heap.size w_ u bn L2) | _ => (∃ L2, (((zA0 s o.seg (at9 + o.data))).2 = 0 → L2 = zF2 A L o.seg (at9 + o.data)) ∧ L2.length ≤ L.length + 3 ∧ w_.heap[b]? = some (.cells #[.iface 74 (.pointer (some ⟨bn, 0, none⟩)), .int .i64 ((zA0 s o.seg (at9 + o.data)).1.kind), .int .i64 ((zA0 s o.seg (at9 + o.data)).1.seg), .int .i64 ((zA0 s o.seg (at9 + o.data)).1.at_), .int .i64 ((zA0 s o.seg (at9 + o.data)).1.data), .int .i64 ((zA0 s o.seg (at9 + o.data)).1.ptrs), .int .i64 ((zA0 s o.seg (at9 + o.data)).1.size), .int .i64 ((zA0 s o.seg (at9 + o.data)).1.count), .int .i64 left] 117 (0, 0)) ∧ NtS 110 79 61 w0.heap.size w_ u bn L2)) mixed (by kernel_rfl) (by kernel_rfl) (by kernel_rfl) (by kernel_rfl) (fun k_ w_ w2_ g_ h_ => match k_, h_ with | 0, h_ => ⟨g_.heap h_.1, h_.2.grow g_⟩ | 1, h_ => ⟨g_.heap h_.1, h_.2.grow g_⟩ | 2, ⟨L2_, a_, b_, c_, d_⟩ => ⟨L2_, a_, b_, g_.heap c_, d_.grow g_⟩ | n_ + 3, ⟨L2_, a_, b_, c_, d_⟩ => ⟨L2_, a_, b_, g_.heap c_, d_.grow g_⟩) (fun w_ g_ => ⟨g_.heap hb, st.grow g_⟩) ?_
   intro w24 g25
   replace kb_hc7 : ∀ w_, (nkR [bn, b] 61 w0.heap.size).r w24 w_ → w_.heap[b1]? = some (.cells #[.int .i64 o.kind, .int .i64 o.seg, .int .i64 o.at_, .int .i64 o.data, .int .i64 o.ptrs, .int .i64 o.size, .int .i64 o.count] 112 (0, 0)) := fun w_ k_ => kb_hc7 w_ ((nkR [bn, b] 61 w0.heap.size).tr ((nkR [bn, b] 61 w0.heap.size).grow g25) k_)
   replace kb_g0 : ∀ w_, (nkR [bn, b] 61 w0.heap.size).r w24 w_ → Grow w0 w_ := fun w_ k_ => kb_g0 w_ ((nkR [bn, b] 61 w0.heap.size).tr ((nkR [bn, b] 61 w0.heap.size).grow g25) k_)
   replace kb_K : ∀ w_, (nkR [bn, b] 61 w0.heap.size).r w24 w_ → NkP [bn, b] 61 w0.heap.size w w_ := fun w_ k_ => kb_K w_ ((nkR [bn, b] 61 w0.heap.size).tr ((nkR [bn, b] 61 w0.heap.size).grow g25) k_)
   have k0_ : (nkR [bn, b] 61 w0.heap.size).r w6 w24 := ((nkR [bn, b] 61 w0.heap.size).grow g25)
   refine qM 4 ?_
   apply zR1 0 (hm := by rfl)
   ·intro w_ g_ s_
    refine og rfl ?_
    refine zG7 (v := .iface 74 (.pointer (some ⟨bn, 0, none⟩))) rfl s_.1 rfl ?_
    exact ⟨NkP.refl _ _ _ _, s_, rfl⟩
   refine qM 1 ?_
   apply zN0 (hm := by rfl)
   ·intro w_ g_; exact og rfl (zG7 (v := .int .i64 o.seg) rfl (kb_hc7 _ g_) rfl qX)
   refine qM 1 ?_
   apply zR1 1 (hm := by rfl)
   ·intro w_ g_ s_
    refine og rfl ?_
    obtain ⟨hbx_, stx_⟩ := s_
    refine zD7 rfl (zU3 _ hA hr hx hs (kb_g0 _ g_) hbn stx_ hL o.seg (at9 + o.data)) ?_
    rintro v_ w2_ ⟨rfl, L2_, he2_, hl2_, st2_, rel_⟩
    exact ⟨NkP.mono rel_ (fun x_ hx_ => by simp only [List.mem_singleton] at hx_; subst hx_; simp), ⟨L2_, he2_, hl2_, rel_.hpN stx_ hbx_ (by decide) (by decide), st2_⟩, rfl⟩
   refine qM 5 ?_
   apply zR1 2 (hm := by rfl)
   ·intro w_ g_ s_
    refine og rfl ?_
    obtain ⟨L2_, he2_, hl2_, hbx_, stx_⟩ := s_
    refine zY4 (cs' := #[.iface 74 (.pointer (some ⟨bn, 0, none⟩)), .int .i64 ((zA0 s o.seg (at9 + o.data)).1.kind), .int .i64 ((zA0 s o.seg (at9 + o.data)).1.seg), .int .i64 ((zA0 s o.seg (at9 + o.data)).1.at_), .int .i64 ((zA0 s o.seg (at9 + o.data)).1.data), .int .i64 ((zA0 s o.seg (at9 + o.data)).1.ptrs), .int .i64 ((zA0 s o.seg (at9 + o.data)).1.size), .int .i64 ((zA0 s o.seg (at9 + o.data)).1.count), .int .i64 left]) rfl rfl (by rfl) hbx_ (by rfl) (by rfl) (by rfl) (by rfl) ?_
    intro w2_ s2_ u_
    exact ⟨NkP.of_upd u_ (by simp), ⟨L2_, he2_, hl2_, s2_, stx_.upd u_ hbx_ (by decide) (by decide)⟩, rfl⟩
   refine qC4 ?_
   intro w26 g27 S_
   replace k0_ := ((nkR [bn, b] 61 w0.heap.size).tr k0_ g27)
   obtain ⟨L2, he2, hl2, hb9, st2_⟩ := S_
   clear st hb
   have st := st2_
   clear st2_
   replace hc7 := kb_hc7 _ g27
   clear kb_hc7
   replace g0 := kb_g0 _ g27
   clear kb_g0
   replace K := kb_K _ g27
   clear kb_K
   refine qZ 8 ?_
   have h9 : zD9 s o k = zA0 s o.seg (at9 + o.data) := by unfold zD9; rw [if_neg h1n, if_pos h2, hat8]
   refine ret1 (zA1 (v := .int .u16 ((zA0 s o.seg (at9 + o.data)).2)) rfl) ⟨by rw [h9], _, fun h_ => by rw [he2 (by rw [h9] at h_; exact h_)]; unfold yF8 atT; rw [if_neg h1n, if_pos h2, hat8], by omega, by rw [h9]; exact hb9, st, K⟩
  ·
   replace h2 := qF h2
   refine qZ 4 ?_
   refine stp (zG9 rfl rfl ?_)
   refine qZ 2 ?_
   refine zA2 (b := (decide (o.size ≠ 6))) rfl (fun h3 => ?_) (fun h3 => ?_)
   ·
    replace h3 := qT h3
    refine qZ 5 ?_
    have h9 : zD9 s o k = (o, 23) := by unfold zD9; rw [if_neg h1n, if_neg h2, if_pos h3]
    refine ret1 (zA1 (v := .int .u16 23) rfl) ⟨by rw [h9], _, fun h_ => by rw [h9] at h_; simp at h_, by omega, by rw [h9]; exact hb, st, K⟩
   ·
    replace h3 := qF h3
    refine qZ 5 ?_
    refine stp (zP7 rfl rfl ?_)
    refine qZ 2 ?_
    refine zA2 (b := (decide (k ≥ o.count))) rfl (fun h4 => ?_) (fun h4 => ?_)
    ·
     replace h4 := qT h4
     refine qZ 5 ?_
     have h9 : zD9 s o k = (o, 20) := by unfold zD9; rw [if_neg h1n, if_neg h2, if_neg h3, if_pos h4]
     refine ret1 (zA1 (v := .int .u16 20) rfl) ⟨by rw [h9], _, fun h_ => by rw [h9] at h_; simp at h_, by omega, by rw [h9]; exact hb, st, K⟩
    ·
     replace h4 := qF h4
     have hat8 : at9 = o.at_ + k := by rw [hat9]; exact zI8 (by simp only [inR]; omega)
     refine qZ 2 ?_
     have kb_hc7 : ∀ w_, (nkR [bn, b] 61 w0.heap.size).r w6 w_ → w_.heap[b1]? = some (.cells #[.int .i64 o.kind, .int .i64 o.seg, .int .i64 o.at_, .int .i64 o.data, .int .i64 o.ptrs, .int .i64 o.size, .int .i64 o.count] 112 (0, 0)) := fun w_ k_ => NkP.hpN2 k_ st hb hc7 (by decide) (by decide) (by decide)
     have kb_g0 : ∀ w_, (nkR [bn, b] 61 w0.heap.size).r w6 w_ → Grow w0 w_ := fun w_ k_ => NkP.to_grow k_ g0 (fun x_ hx_ => by simp only [List.mem_cons, List.not_mem_nil, or_false] at hx_; rcases hx_ with rfl | rfl <;> assumption) (Nat.le_refl _)
     have kb_K : ∀ w_, (nkR [bn, b] 61 w0.heap.size).r w6 w_ → NkP [bn, b] 61 w0.heap.size w w_ := fun w_ k_ => K.tr k_
     refine qK1 15 [[], [], [0], [1, 0], [2, 1, 0], [], [0], [], [6, 5, 4, 3, 2, 1, 0], [7, 6, 5, 4, 3, 2, 1, 0], [8, 7, 6, 5, 4, 3, 2, 1, 0], [9, 8, 7, 6, 5, 4, 3, 2, 1], [11, 10, 9, 8, 7, 6, 5, 4, 3, 2, 1], [12, 11, 10, 9, 8, 7, 6, 5, 4, 3, 2, 0], [13, 12, 11, 10, 9, 8, 7, 6, 5, 4, 3, 1, 0]] [4, 8, 14] (nkR [bn, b] 61 w0.heap.size) (fun k_ w_ => match k_ with | 0 => w_.heap[b]? = some (.cells #[.iface 74 (.pointer (some ⟨bn, 0, none⟩)), .int .i64 o.kind, .int .i64 o.seg, .int .i64 o.at_, .int .i64 o.data, .int .i64 o.ptrs, .int .i64 o.size, .int .i64 o.count, .int .i64 left] 117 (0, 0)) ∧ NtS 110 79 61 w0.heap.size w_ u bn L | 1 => w_.heap[b]? = some (.cells #[.iface 74 (.pointer (some ⟨bn, 0, none⟩)), .int .i64 o.kind, .int .i64 o.seg, .int .i64 o.at_, .int .i64 o.data, .int .i64 o.ptrs, .int .i64 o.size, .int .i64 o.count, .int .i64 left] 117 (0, 0)) ∧ NtS 110 79 61 w0.heap.size w_ u bn L | 2 => (∃ L2, (((zA0 s o.seg at9)).2 = 0 → L2 = zF2 A L o.seg at9) ∧ L2.length ≤ L.length + 3 ∧ w_.heap[b]? = some (.cells #[.iface 74 (.pointer (some ⟨bn, 0, none⟩)), .int .i64 o.kind, .int .i64 o.seg, .int .i64 o.at_, .int .i64 o.data, .int .i64 o.ptrs, .int .i64 o.size, .int .i64 o.count, .int .i64 left] 117 (0, 0)) ∧ NtS 110 79 61 w0.heap.size w_ u bn L2) | _ => (∃ L2, (((zA0 s o.seg at9)).2 = 0 → L2 = zF2 A L o.seg at9) ∧ L2.length ≤ L.length + 3 ∧ w_.heap[b]? = some (.cells #[.iface 74 (.pointer (some ⟨bn, 0, none⟩)), .int .i64 ((zA0 s o.seg at9).1.kind), .int .i64 ((zA0 s o.seg at9).1.seg), .int .i64 ((zA0 s o.seg at9).1.at_), .int .i64 ((zA0 s o.seg at9).1.data), .int .i64 ((zA0 s o.seg at9).1.ptrs), .int .i64 ((zA0 s o.seg at9).1.size), .int .i64 ((zA0 s o.seg at9).1.count), .int .i64 left] 117 (0, 0)) ∧ NtS 110 79 61 w0.heap.size w_ u bn L2)) mixed (by kernel_rfl) (by kernel_rfl) (by kernel_rfl) (by kernel_rfl) (fun k_ w_ w2_ g_ h_ => match k_, h_ with | 0, h_ => ⟨g_.heap h_.1, h_.2.grow g_⟩ | 1, h_ => ⟨g_.heap h_.1, h_.2.grow g_⟩ | 2, ⟨L2_, a_, b_, c_, d_⟩ => ⟨L2_, a_, b_, g_.heap c_, d_.grow g_⟩ | n_ + 3, ⟨L2_, a_, b_, c_, d_⟩ => ⟨L2_, a_, b_, g_.heap c_, d_.grow g_⟩) (fun w_ g_ => ⟨g_.heap hb, st.grow g_⟩) ?_
     intro w28 g29
     replace kb_hc7 : ∀ w_, (nkR [bn, b] 61 w0.heap.size).r w28 w_ → w_.heap[b1]? = some (.cells #[.int .i64 o.kind, .int .i64 o.seg, .int .i64 o.at_, .int .i64 o.data, .int .i64 o.ptrs, .int .i64 o.size, .int .i64 o.count] 112 (0, 0)) := fun w_ k_ => kb_hc7 w_ ((nkR [bn, b] 61 w0.heap.size).tr ((nkR [bn, b] 61 w0.heap.size).grow g29) k_)
     replace kb_g0 : ∀ w_, (nkR [bn, b] 61 w0.heap.size).r w28 w_ → Grow w0 w_ := fun w_ k_ => kb_g0 w_ ((nkR [bn, b] 61 w0.heap.size).tr ((nkR [bn, b] 61 w0.heap.size).grow g29) k_)
     replace kb_K : ∀ w_, (nkR [bn, b] 61 w0.heap.size).r w28 w_ → NkP [bn, b] 61 w0.heap.size w w_ := fun w_ k_ => kb_K w_ ((nkR [bn, b] 61 w0.heap.size).tr ((nkR [bn, b] 61 w0.heap.size).grow g29) k_)
     have k0_ : (nkR [bn, b] 61 w0.heap.size).r w6 w28 := ((nkR [bn, b] 61 w0.heap.size).grow g29)
     refine qM 4 ?_
     apply zR1 0 (hm := by rfl)
     ·intro w_ g_ s_
      refine og rfl ?_
      refine zG7 (v := .iface 74 (.pointer (some ⟨bn, 0, none⟩))) rfl s_.1 rfl ?_
      exact ⟨NkP.refl _ _ _ _, s_, rfl⟩
     refine qM 1 ?_
     apply zN0 (hm := by rfl)
     ·intro w_ g_; exact og rfl (zG7 (v := .int .i64 o.seg) rfl (kb_hc7 _ g_) rfl qX)
     refine qM 1 ?_
     apply zR1 1 (hm := by rfl)
     ·intro w_ g_ s_
      refine og rfl ?_
      obtain ⟨hbx_, stx_⟩ := s_
      refine zD7 rfl (zU3 _ hA hr hx hs (kb_g0 _ g_) hbn stx_ hL o.seg at9) ?_
      rintro v_ w2_ ⟨rfl, L2_, he2_, hl2_, st2_, rel_⟩
      exact ⟨NkP.mono rel_ (fun x_ hx_ => by simp only [List.mem_singleton] at hx_; subst hx_; simp), ⟨L2_, he2_, hl2_, rel_.hpN stx_ hbx_ (by decide) (by decide), st2_⟩, rfl⟩
     refine qM 5 ?_
     apply zR1 2 (hm := by rfl)
     ·intro w_ g_ s_
      refine og rfl ?_
      obtain ⟨L2_, he2_, hl2_, hbx_, stx_⟩ := s_
      refine zY4 (cs' := #[.iface 74 (.pointer (some ⟨bn, 0, none⟩)), .int .i64 ((zA0 s o.seg at9).1.kind), .int .i64 ((zA0 s o.seg at9).1.seg), .int .i64 ((zA0 s o.seg at9).1.at_), .int .i64 ((zA0 s o.seg at9).1.data), .int .i64 ((zA0 s o.seg at9).1.ptrs), .int .i64 ((zA0 s o.seg at9).1.size), .int .i64 ((zA0 s o.seg at9).1.count), .int .i64 left]) rfl rfl (by rfl) hbx_ (by rfl) (by rfl) (by rfl) (by rfl) ?_
      intro w2_ s2_ u_
      exact ⟨NkP.of_upd u_ (by simp), ⟨L2_, he2_, hl2_, s2_, stx_.upd u_ hbx_ (by decide) (by decide)⟩, rfl⟩
     refine qC4 ?_
     intro w30 g31 S_
     replace k0_ := ((nkR [bn, b] 61 w0.heap.size).tr k0_ g31)
     obtain ⟨L2, he2, hl2, hb9, st2_⟩ := S_
     clear st hb
     have st := st2_
     clear st2_
     replace hc7 := kb_hc7 _ g31
     clear kb_hc7
     replace g0 := kb_g0 _ g31
     clear kb_g0
     replace K := kb_K _ g31
     clear kb_K
     refine qZ 8 ?_
     have h9 : zD9 s o k = zA0 s o.seg at9 := by unfold zD9; rw [if_neg h1n, if_neg h2, if_neg h3, if_neg h4, hat8]
     refine ret1 (zA1 (v := .int .u16 ((zA0 s o.seg at9).2)) rfl) ⟨by rw [h9], _, fun h_ => by rw [he2 (by rw [h9] at h_; exact h_)]; unfold yF8 atT; rw [if_neg h1n, if_neg h2, hat8], by omega, by rw [h9]; exact hb9, st, K⟩
theorem qT2 (w : World) {w0 : World} {u : Value} {A : List (List Int)} (hA : zG2 w0 u A) (hr : zC7 A = true) (hx : AllU A) {s : Src} (hs : s = zB0 A) (g0 : Grow w0 w) {bn : Nat} (hbn : w0.heap.size ≤ bn) {L : List Spn} (st : NtS 110 79 61 w0.heap.size w u bn L) (hL : L.length ≤ 150000) {b : Nat} {o : Ob} {left k : Int} (hb0 : w0.heap.size ≤ b) (hb : w.heap[b]? = some (.cells #[.iface 74 (.pointer (some ⟨bn, 0, none⟩)), .int .i64 o.kind, .int .i64 o.seg, .int .i64 o.at_, .int .i64 o.data, .int .i64 o.ptrs, .int .i64 o.size, .int .i64 o.count, .int .i64 left] 117 (0, 0))) (ho : ObR o) (hok : ObK o) (hk : 0 ≤ k) (hk2 : k ≤ 9223372036854775807) : Calls Tryz.prog 56 #[.pointer (some ⟨b, 0, none⟩), .int .i64 k] w (Ret fun v w' => v = .tuple #[.int .u64 ((atS s o k).1), .int .u16 ((atS s o k).2)] ∧ ∃ L2, ((atS s o k).2 = 0 → L2 = endT A L o k) ∧ NtS 110 79 61 w0.heap.size w' u bn L2 ∧ NkP [bn] 61 w0.heap.size w w') := by
 obtain ⟨rk, rs, ra, rd, rp, rz, rc⟩ := ho
 have K := NkP.refl [bn] 61 w0.heap.size w
 have g0w := g0.size
 obtain ⟨n1, n2, -, -⟩ := num9 hs hx o.seg (o.at_ + k / 8)
 have hblt := zC1 hb
 refine zC2 Tryz.func56 Tryz.ntmps56 Tryz.results56 rfl rfl ?_
 refine qZ 10 ?_
 refine stp (zI0 rfl hb (by rfl) (by rfl) ?_)
 refine stp (zA7 ?_)
 intro b1 w2 hb3 hc4 g5
 refine stn (qS hc4 ?_)
 intro w6 hc7 u8
 have g9 := g5.upd u8 hb3
 have hge10 := Nat.le_trans K.size hb3
 have ne11 := qN hb hb3
 replace K := K.tr (NkP.of_grow g9)
 replace g0 := g0.tr g9
 replace st := st.grow g9
 replace hb := g9.heap hb
 clear u8 g5 hb3 hc4
 refine qZ 8 ?_
 refine stp (zD5 rfl rfl ?_)
 refine qZ 2 ?_
 refine zA2 (b := (decide (o.kind = 0))) rfl (fun h1 => ?_) (fun h1 => ?_)
 ·
  replace h1 := qT h1
  refine zX6 ?_
  refine zU8 (show _ = Value.bool true from congrArg Value.bool (decide_eq_true h1)) ?_
  refine qZ 6 ?_
  have h9 : atS s o k = (0, 0) := by unfold atS; rw [if_pos (.inl h1)]
  refine ret2 (zA1 (v := .int .u64 0) rfl) (zA1 (v := .int .u16 0) rfl) ⟨by rw [h9] <;> rfl, _, fun _ => by unfold endT; rw [if_pos (.inr (.inl h1))], st, K⟩
 ·
  replace h1 := qF h1
  refine qZ 3 ?_
  refine stp (zD5 rfl rfl ?_)
  refine qZ 1 ?_
  refine qG 3 ?_
  refine zA3 (zB2 (s := .bool _) (v := .bool (decide (k ≥ o.data))) rfl (zE2 _) (fun hc15 => ?_) ?_)
  ·
   have hc15_ := qT hc15
   refine zP7 (gvt hc15) (gvt hc15) ?_
   exact ⟨rfl, rfl⟩
  refine stp (zG8 rfl rfl rfl ?_)
  refine qZ 2 ?_
  refine zA2 (b := ((decide (o.kind = 1)) && (decide (k ≥ o.data)))) rfl (fun h2 => ?_) (fun h2 => ?_)
  ·
   simp only [sb] at h2
   refine qZ 6 ?_
   have h9 : atS s o k = (0, 0) := by unfold atS; rw [if_pos (.inr h2)]
   refine ret2 (zA1 (v := .int .u64 0) rfl) (zA1 (v := .int .u16 0) rfl) ⟨by rw [h9] <;> rfl, _, fun _ => by unfold endT; rw [if_pos (.inr (.inr h2))], st, K⟩
  ·
   simp only [sb] at h2
   have h1n : ¬ (o.kind = 0 ∨ o.kind = 1 ∧ k ≥ o.data) := by omega
   have h1m : ¬ (k < 0 ∨ o.kind = 0 ∨ (o.kind = 1 ∧ k ≥ o.data)) := by omega
   refine qZ 4 ?_
   refine stp (zD5 rfl rfl ?_)
   refine qZ 2 ?_
   refine zA2 (b := (decide (o.kind = 1))) rfl (fun h3 => ?_) (fun h3 => ?_)
   ·
    replace h3 := qT h3
    refine qE9 ?_
    have kb_hc7 : ∀ w_, (nkR [bn] 61 w0.heap.size).r w6 w_ → w_.heap[b1]? = some (.cells #[.int .i64 o.kind, .int .i64 o.seg, .int .i64 o.at_, .int .i64 o.data, .int .i64 o.ptrs, .int .i64 o.size, .int .i64 o.count] 112 (0, 0)) := fun w_ k_ => NkP.hpN k_ st hc7 (by decide) (by decide)
    have kb_hb : ∀ w_, (nkR [bn] 61 w0.heap.size).r w6 w_ → w_.heap[b]? = some (.cells #[.iface 74 (.pointer (some ⟨bn, 0, none⟩)), .int .i64 o.kind, .int .i64 o.seg, .int .i64 o.at_, .int .i64 o.data, .int .i64 o.ptrs, .int .i64 o.size, .int .i64 o.count, .int .i64 left] 117 (0, 0)) := fun w_ k_ => NkP.hpN k_ st hb (by decide) (by decide)
    have kb_g0 : ∀ w_, (nkR [bn] 61 w0.heap.size).r w6 w_ → Grow w0 w_ := fun w_ k_ => NkP.to_grow k_ g0 (fun x_ hx_ => by simp only [List.mem_singleton] at hx_; subst hx_; exact hbn) (Nat.le_refl _)
    have kb_K : ∀ w_, (nkR [bn] 61 w0.heap.size).r w6 w_ → NkP [bn] 61 w0.heap.size w w_ := fun w_ k_ => K.tr k_
    refine qK1 15 [[], [0], [1, 0], [2, 1, 0], [], [0], [], [0], [], [2, 1, 0], [9, 8, 7, 6, 5, 4, 3, 2, 1, 0], [10, 9, 8, 7, 6, 5, 4, 3, 2, 1, 0], [11, 10, 9, 8, 7, 6, 5, 4, 3, 2, 1], [12, 11, 10, 9, 8, 7, 6, 5, 4, 3, 2, 1, 0], [13, 12, 11, 10, 9, 8, 7, 6, 5, 4, 3, 2, 1, 0]] [10] (nkR [bn] 61 w0.heap.size) (fun k_ w_ => match k_ with | 0 => NtS 110 79 61 w0.heap.size w_ u bn L | _ => NtS 110 79 61 w0.heap.size w_ u bn (zI9 A L o.seg (o.at_ + k))) mixed (by kernel_rfl) (by kernel_rfl) (by kernel_rfl) (by kernel_rfl) (fun k_ w_ w2_ g_ h_ => match k_, h_ with | 0, h_ => h_.grow g_ | n_ + 1, h_ => h_.grow g_) (fun w_ g_ => st.grow g_) ?_
    intro w16 g17
    replace kb_hc7 : ∀ w_, (nkR [bn] 61 w0.heap.size).r w16 w_ → w_.heap[b1]? = some (.cells #[.int .i64 o.kind, .int .i64 o.seg, .int .i64 o.at_, .int .i64 o.data, .int .i64 o.ptrs, .int .i64 o.size, .int .i64 o.count] 112 (0, 0)) := fun w_ k_ => kb_hc7 w_ ((nkR [bn] 61 w0.heap.size).tr ((nkR [bn] 61 w0.heap.size).grow g17) k_)
    replace kb_hb : ∀ w_, (nkR [bn] 61 w0.heap.size).r w16 w_ → w_.heap[b]? = some (.cells #[.iface 74 (.pointer (some ⟨bn, 0, none⟩)), .int .i64 o.kind, .int .i64 o.seg, .int .i64 o.at_, .int .i64 o.data, .int .i64 o.ptrs, .int .i64 o.size, .int .i64 o.count, .int .i64 left] 117 (0, 0)) := fun w_ k_ => kb_hb w_ ((nkR [bn] 61 w0.heap.size).tr ((nkR [bn] 61 w0.heap.size).grow g17) k_)
    replace kb_g0 : ∀ w_, (nkR [bn] 61 w0.heap.size).r w16 w_ → Grow w0 w_ := fun w_ k_ => kb_g0 w_ ((nkR [bn] 61 w0.heap.size).tr ((nkR [bn] 61 w0.heap.size).grow g17) k_)
    replace kb_K : ∀ w_, (nkR [bn] 61 w0.heap.size).r w16 w_ → NkP [bn] 61 w0.heap.size w w_ := fun w_ k_ => kb_K w_ ((nkR [bn] 61 w0.heap.size).tr ((nkR [bn] 61 w0.heap.size).grow g17) k_)
    have k0_ : (nkR [bn] 61 w0.heap.size).r w6 w16 := ((nkR [bn] 61 w0.heap.size).grow g17)
    refine qM 3 ?_
    apply zN0 (hm := by rfl)
    ·intro w_ g_; exact og rfl (zG7 (v := .iface 74 (.pointer (some ⟨bn, 0, none⟩))) rfl (kb_hb _ g_) rfl qX)
    refine qM 1 ?_
    apply zN0 (hm := by rfl)
    ·intro w_ g_; exact og rfl (zG7 (v := .int .i64 o.seg) rfl (kb_hc7 _ g_) rfl qX)
    refine qM 1 ?_
    apply zN0 (hm := by rfl)
    ·intro w_ g_; exact og rfl (zG7 (v := .int .i64 o.at_) rfl (kb_hc7 _ g_) rfl qX)
    refine qM 1 ?_
    apply zN0 (hm := by rfl)
    ·intro w_ g_; refine og rfl ?_; refine zB5 rfl rfl ?_ ?_; constructor <;> omega; exact qX
    apply zR1 0 (hm := by rfl)
    ·intro w_ g_ s_
     refine og rfl ?_
     refine zN4 (a := .int .i64 o.seg) (b := .int .i64 (o.at_ + k)) zO8 rfl rfl rfl (zM4 _ hA hr hx hs (kb_g0 _ g_) hbn s_ (by omega) o.seg (o.at_ + k)) ?_
     rintro v_ w2_ ⟨rfl, st2_, rel_⟩
     exact ⟨rel_, st2_, rfl⟩
    refine qM 4 ?_
    refine qC4 ?_
    intro w18 g19 S_
    replace k0_ := ((nkR [bn] 61 w0.heap.size).tr k0_ g19)
    have st2_ := S_
    clear S_ st
    have st := st2_
    clear st2_
    replace hc7 := kb_hc7 _ g19
    clear kb_hc7
    replace hb := kb_hb _ g19
    clear kb_hb
    replace g0 := kb_g0 _ g19
    clear kb_g0
    replace K := kb_K _ g19
    clear kb_K
    refine qZ 2 ?_
    have h9 : atS s o k = s.word o.seg (o.at_ + k) := by unfold atS; rw [if_neg h1n, if_pos h3]
    refine ret2 (zA1 (v := .int .u64 ((s.word o.seg (o.at_ + k)).1)) rfl) (zA1 (v := .int .u16 ((s.word o.seg (o.at_ + k)).2)) rfl) ⟨by rw [h9] <;> rfl, _, fun _ => by unfold endT; rw [if_neg h1m, if_neg (by omega)], st, K⟩
   ·
    replace h3 := qF h3
    refine qZ 4 ?_
    refine stp (zD5 rfl rfl ?_)
    refine qZ 2 ?_
    refine zA2 (b := (decide (o.size = 6))) rfl (fun h4 => ?_) (fun h4 => ?_)
    ·
     replace h4 := qT h4
     refine qZ 6 ?_
     have h9 : atS s o k = (0, 23) := by unfold atS; rw [if_neg h1n, if_neg h3, if_pos h4]
     refine ret2 (zA1 (v := .int .u64 0) rfl) (zA1 (v := .int .u16 23) rfl) ⟨by rw [h9] <;> rfl, _, fun h_ => by rw [h9] at h_; simp at h_, st, K⟩
    ·
     replace h4 := qF h4
     refine qZ 5 ?_
     refine stp (zP7 rfl rfl ?_)
     refine qZ 2 ?_
     refine zA2 (b := (decide (k ≥ o.count))) rfl (fun h5 => ?_) (fun h5 => ?_)
     ·
      replace h5 := qT h5
      refine qZ 6 ?_
      have h9 : atS s o k = (0, 20) := by unfold atS; rw [if_neg h1n, if_neg h3, if_neg h4, if_pos h5]
      refine ret2 (zA1 (v := .int .u64 0) rfl) (zA1 (v := .int .u16 20) rfl) ⟨by rw [h9] <;> rfl, _, fun h_ => by rw [h9] at h_; simp at h_, st, K⟩
     ·
      replace h5 := qF h5
      refine qZ 4 ?_
      refine stp (zD5 rfl rfl ?_)
      refine qZ 2 ?_
      refine zA2 (b := (decide (o.size = 5))) rfl (fun h6 => ?_) (fun h6 => ?_)
      ·
       replace h6 := qT h6
       refine qE9 ?_
       have kb_hc7 : ∀ w_, (nkR [bn] 61 w0.heap.size).r w6 w_ → w_.heap[b1]? = some (.cells #[.int .i64 o.kind, .int .i64 o.seg, .int .i64 o.at_, .int .i64 o.data, .int .i64 o.ptrs, .int .i64 o.size, .int .i64 o.count] 112 (0, 0)) := fun w_ k_ => NkP.hpN k_ st hc7 (by decide) (by decide)
       have kb_hb : ∀ w_, (nkR [bn] 61 w0.heap.size).r w6 w_ → w_.heap[b]? = some (.cells #[.iface 74 (.pointer (some ⟨bn, 0, none⟩)), .int .i64 o.kind, .int .i64 o.seg, .int .i64 o.at_, .int .i64 o.data, .int .i64 o.ptrs, .int .i64 o.size, .int .i64 o.count, .int .i64 left] 117 (0, 0)) := fun w_ k_ => NkP.hpN k_ st hb (by decide) (by decide)
       have kb_g0 : ∀ w_, (nkR [bn] 61 w0.heap.size).r w6 w_ → Grow w0 w_ := fun w_ k_ => NkP.to_grow k_ g0 (fun x_ hx_ => by simp only [List.mem_singleton] at hx_; subst hx_; exact hbn) (Nat.le_refl _)
       have kb_K : ∀ w_, (nkR [bn] 61 w0.heap.size).r w6 w_ → NkP [bn] 61 w0.heap.size w w_ := fun w_ k_ => K.tr k_
       refine qK1 15 [[], [0], [1, 0], [2, 1, 0], [], [0], [], [0], [], [2, 1, 0], [9, 8, 7, 6, 5, 4, 3, 2, 1, 0], [10, 9, 8, 7, 6, 5, 4, 3, 2, 1, 0], [11, 10, 9, 8, 7, 6, 5, 4, 3, 2, 1], [12, 11, 10, 9, 8, 7, 6, 5, 4, 3, 2, 1, 0], [13, 12, 11, 10, 9, 8, 7, 6, 5, 4, 3, 2, 1, 0]] [10] (nkR [bn] 61 w0.heap.size) (fun k_ w_ => match k_ with | 0 => NtS 110 79 61 w0.heap.size w_ u bn L | _ => NtS 110 79 61 w0.heap.size w_ u bn (zI9 A L o.seg (o.at_ + k))) mixed (by kernel_rfl) (by kernel_rfl) (by kernel_rfl) (by kernel_rfl) (fun k_ w_ w2_ g_ h_ => match k_, h_ with | 0, h_ => h_.grow g_ | n_ + 1, h_ => h_.grow g_) (fun w_ g_ => st.grow g_) ?_
       intro w20 g21
       replace kb_hc7 : ∀ w_, (nkR [bn] 61 w0.heap.size).r w20 w_ → w_.heap[b1]? = some (.cells #[.int .i64 o.kind, .int .i64 o.seg, .int .i64 o.at_, .int .i64 o.data, .int .i64 o.ptrs, .int .i64 o.size, .int .i64 o.count] 112 (0, 0)) := fun w_ k_ => kb_hc7 w_ ((nkR [bn] 61 w0.heap.size).tr ((nkR [bn] 61 w0.heap.size).grow g21) k_)
       replace kb_hb : ∀ w_, (nkR [bn] 61 w0.heap.size).r w20 w_ → w_.heap[b]? = some (.cells #[.iface 74 (.pointer (some ⟨bn, 0, none⟩)), .int .i64 o.kind, .int .i64 o.seg, .int .i64 o.at_, .int .i64 o.data, .int .i64 o.ptrs, .int .i64 o.size, .int .i64 o.count, .int .i64 left] 117 (0, 0)) := fun w_ k_ => kb_hb w_ ((nkR [bn] 61 w0.heap.size).tr ((nkR [bn] 61 w0.heap.size).grow g21) k_)
       replace kb_g0 : ∀ w_, (nkR [bn] 61 w0.heap.size).r w20 w_ → Grow w0 w_ := fun w_ k_ => kb_g0 w_ ((nkR [bn] 61 w0.heap.size).tr ((nkR [bn] 61 w0.heap.size).grow g21) k_)
       replace kb_K : ∀ w_, (nkR [bn] 61 w0.heap.size).r w20 w_ → NkP [bn] 61 w0.heap.size w w_ := fun w_ k_ => kb_K w_ ((nkR [bn] 61 w0.heap.size).tr ((nkR [bn] 61 w0.heap.size).grow g21) k_)
       have k0_ : (nkR [bn] 61 w0.heap.size).r w6 w20 := ((nkR [bn] 61 w0.heap.size).grow g21)
       refine qM 3 ?_
       apply zN0 (hm := by rfl)
       ·intro w_ g_; exact og rfl (zG7 (v := .iface 74 (.pointer (some ⟨bn, 0, none⟩))) rfl (kb_hb _ g_) rfl qX)
       refine qM 1 ?_
       apply zN0 (hm := by rfl)
       ·intro w_ g_; exact og rfl (zG7 (v := .int .i64 o.seg) rfl (kb_hc7 _ g_) rfl qX)
       refine qM 1 ?_
       apply zN0 (hm := by rfl)
       ·intro w_ g_; exact og rfl (zG7 (v := .int .i64 o.at_) rfl (kb_hc7 _ g_) rfl qX)
       refine qM 1 ?_
       apply zN0 (hm := by rfl)
       ·intro w_ g_; refine og rfl ?_; refine zB5 rfl rfl ?_ ?_; constructor <;> omega; exact qX
       apply zR1 0 (hm := by rfl)
       ·intro w_ g_ s_
        refine og rfl ?_
        refine zN4 (a := .int .i64 o.seg) (b := .int .i64 (o.at_ + k)) zO8 rfl rfl rfl (zM4 _ hA hr hx hs (kb_g0 _ g_) hbn s_ (by omega) o.seg (o.at_ + k)) ?_
        rintro v_ w2_ ⟨rfl, st2_, rel_⟩
        exact ⟨rel_, st2_, rfl⟩
       refine qM 4 ?_
       refine qC4 ?_
       intro w22 g23 S_
       replace k0_ := ((nkR [bn] 61 w0.heap.size).tr k0_ g23)
       have st2_ := S_
       clear S_ st
       have st := st2_
       clear st2_
       replace hc7 := kb_hc7 _ g23
       clear kb_hc7
       replace hb := kb_hb _ g23
       clear kb_hb
       replace g0 := kb_g0 _ g23
       clear kb_g0
       replace K := kb_K _ g23
       clear kb_K
       refine qZ 2 ?_
       have h9 : atS s o k = s.word o.seg (o.at_ + k) := by unfold atS; rw [if_neg h1n, if_neg h3, if_neg h4, if_neg h5, if_pos h6]
       refine ret2 (zA1 (v := .int .u64 ((s.word o.seg (o.at_ + k)).1)) rfl) (zA1 (v := .int .u16 ((s.word o.seg (o.at_ + k)).2)) rfl) ⟨by rw [h9] <;> rfl, _, fun _ => by unfold endT; rw [if_neg h1m, if_neg (by omega)], st, K⟩
      ·
       replace h6 := qF h6
       have hz2 : o.kind = 2 ∧ o.size = 2 := by rcases hok with rfl | g_ | g_; exact absurd rfl h1; exact absurd g_.1 h3; (obtain ⟨g1_, -, -, g2_⟩ := g_; omega)
       refine qZ 2 ?_
       have kb_hc7 : ∀ w_, (nkR [bn] 61 w0.heap.size).r w6 w_ → w_.heap[b1]? = some (.cells #[.int .i64 o.kind, .int .i64 o.seg, .int .i64 o.at_, .int .i64 o.data, .int .i64 o.ptrs, .int .i64 o.size, .int .i64 o.count] 112 (0, 0)) := fun w_ k_ => NkP.hpN k_ st hc7 (by decide) (by decide)
       have kb_hb : ∀ w_, (nkR [bn] 61 w0.heap.size).r w6 w_ → w_.heap[b]? = some (.cells #[.iface 74 (.pointer (some ⟨bn, 0, none⟩)), .int .i64 o.kind, .int .i64 o.seg, .int .i64 o.at_, .int .i64 o.data, .int .i64 o.ptrs, .int .i64 o.size, .int .i64 o.count, .int .i64 left] 117 (0, 0)) := fun w_ k_ => NkP.hpN k_ st hb (by decide) (by decide)
       have kb_g0 : ∀ w_, (nkR [bn] 61 w0.heap.size).r w6 w_ → Grow w0 w_ := fun w_ k_ => NkP.to_grow k_ g0 (fun x_ hx_ => by simp only [List.mem_singleton] at hx_; subst hx_; exact hbn) (Nat.le_refl _)
       have kb_K : ∀ w_, (nkR [bn] 61 w0.heap.size).r w6 w_ → NkP [bn] 61 w0.heap.size w w_ := fun w_ k_ => K.tr k_
       refine qK1 17 [[], [0], [1, 0], [2, 1, 0], [], [0], [], [0], [], [0], [3, 2, 1, 0], [10, 9, 8, 7, 6, 5, 4, 3, 2, 1, 0], [11, 10, 9, 8, 7, 6, 5, 4, 3, 2, 1, 0], [12, 11, 10, 9, 8, 7, 6, 5, 4, 3, 2, 1, 0], [13, 12, 11, 10, 9, 8, 7, 6, 5, 4, 3, 2, 1], [14, 13, 12, 11, 10, 9, 8, 7, 6, 5, 4, 3, 2, 1], [15, 14, 13, 12, 11, 10, 9, 8, 7, 6, 5, 4, 3, 2, 1, 0]] [11] (nkR [bn] 61 w0.heap.size) (fun k_ w_ => match k_ with | 0 => NtS 110 79 61 w0.heap.size w_ u bn L | _ => NtS 110 79 61 w0.heap.size w_ u bn (zI9 A L o.seg (o.at_ + k / 8))) mixed (by kernel_rfl) (by kernel_rfl) (by kernel_rfl) (by kernel_rfl) (fun k_ w_ w2_ g_ h_ => match k_, h_ with | 0, h_ => h_.grow g_ | n_ + 1, h_ => h_.grow g_) (fun w_ g_ => st.grow g_) ?_
       intro w24 g25
       replace kb_hc7 : ∀ w_, (nkR [bn] 61 w0.heap.size).r w24 w_ → w_.heap[b1]? = some (.cells #[.int .i64 o.kind, .int .i64 o.seg, .int .i64 o.at_, .int .i64 o.data, .int .i64 o.ptrs, .int .i64 o.size, .int .i64 o.count] 112 (0, 0)) := fun w_ k_ => kb_hc7 w_ ((nkR [bn] 61 w0.heap.size).tr ((nkR [bn] 61 w0.heap.size).grow g25) k_)
       replace kb_hb : ∀ w_, (nkR [bn] 61 w0.heap.size).r w24 w_ → w_.heap[b]? = some (.cells #[.iface 74 (.pointer (some ⟨bn, 0, none⟩)), .int .i64 o.kind, .int .i64 o.seg, .int .i64 o.at_, .int .i64 o.data, .int .i64 o.ptrs, .int .i64 o.size, .int .i64 o.count, .int .i64 left] 117 (0, 0)) := fun w_ k_ => kb_hb w_ ((nkR [bn] 61 w0.heap.size).tr ((nkR [bn] 61 w0.heap.size).grow g25) k_)
       replace kb_g0 : ∀ w_, (nkR [bn] 61 w0.heap.size).r w24 w_ → Grow w0 w_ := fun w_ k_ => kb_g0 w_ ((nkR [bn] 61 w0.heap.size).tr ((nkR [bn] 61 w0.heap.size).grow g25) k_)
       replace kb_K : ∀ w_, (nkR [bn] 61 w0.heap.size).r w24 w_ → NkP [bn] 61 w0.heap.size w w_ := fun w_ k_ => kb_K w_ ((nkR [bn] 61 w0.heap.size).tr ((nkR [bn] 61 w0.heap.size).grow g25) k_)
       have k0_ : (nkR [bn] 61 w0.heap.size).r w6 w24 := ((nkR [bn] 61 w0.heap.size).grow g25)
       refine qM 3 ?_
       apply zN0 (hm := by rfl)
       ·intro w_ g_; exact og rfl (zG7 (v := .iface 74 (.pointer (some ⟨bn, 0, none⟩))) rfl (kb_hb _ g_) rfl qX)
       refine qM 1 ?_
       apply zN0 (hm := by rfl)
       ·intro w_ g_; exact og rfl (zG7 (v := .int .i64 o.seg) rfl (kb_hc7 _ g_) rfl qX)
       refine qM 1 ?_
       apply zN0 (hm := by rfl)
       ·intro w_ g_; exact og rfl (zG7 (v := .int .i64 o.at_) rfl (kb_hc7 _ g_) rfl qX)
       refine qM 1 ?_
       apply zN0 (hm := by rfl)
       ·intro w_ g_; refine og rfl ?_; refine qA0 rfl rfl ?_ ?_ ?_ ?_; omega; omega; (constructor <;> omega); exact qX
       apply zN0 (hm := by rfl)
       ·intro w_ g_; refine og rfl ?_; refine zB5 rfl rfl ?_ ?_; constructor <;> omega; exact qX
       apply zR1 0 (hm := by rfl)
       ·intro w_ g_ s_
        refine og rfl ?_
        refine zN4 (a := .int .i64 o.seg) (b := .int .i64 (o.at_ + k / 8)) zO8 rfl rfl rfl (zM4 _ hA hr hx hs (kb_g0 _ g_) hbn s_ (by omega) o.seg (o.at_ + k / 8)) ?_
        rintro v_ w2_ ⟨rfl, st2_, rel_⟩
        exact ⟨rel_, st2_, rfl⟩
       refine qM 5 ?_
       refine qC4 ?_
       intro w26 g27 S_
       replace k0_ := ((nkR [bn] 61 w0.heap.size).tr k0_ g27)
       have st2_ := S_
       clear S_ st
       have st := st2_
       clear st2_
       replace hc7 := kb_hc7 _ g27
       clear kb_hc7
       replace hb := kb_hb _ g27
       clear kb_hb
       replace g0 := kb_g0 _ g27
       clear kb_g0
       replace K := kb_K _ g27
       clear kb_K
       refine qZ 5 ?_
       refine stp (zP1 rfl rfl ?_ ?_ ?_); omega; omega
       refine stp (zZ9 rfl rfl ?_ ?_); constructor <;> omega
       refine stp (yO8 rfl rfl ?_ ?_); omega
       refine stp ?_
       refine yZ9 rfl rfl ?_
       rw [show (IntKind.bits .u64) = 64 from rfl, yP5 _ (k % 8 * 8) n1 n2 (by omega) (by omega)]
       refine qZ 5 ?_
       have h9 : atS s o k = ((s.word o.seg (o.at_ + k / 8)).1 / 2 ^ (k % 8 * 8).toNat % 256, (s.word o.seg (o.at_ + k / 8)).2) := by unfold atS; rw [if_neg h1n, if_neg h3, if_neg h4, if_neg h5, if_neg h6]
       refine ret2 (zA1 (v := .int .u64 ((s.word o.seg (o.at_ + k / 8)).1 / 2 ^ (k % 8 * 8).toNat % 256)) rfl) (zA1 (v := .int .u16 ((s.word o.seg (o.at_ + k / 8)).2)) rfl) ⟨by rw [h9] <;> rfl, _, fun _ => by unfold endT; rw [if_neg h1m, if_pos hz2], st, K⟩
theorem qY2 (w : World) {w0 : World} {u : Value} {A : List (List Int)} (hA : zG2 w0 u A) (hr : zC7 A = true) (hx : AllU A) {s : Src} (hs : s = zB0 A) (g0 : Grow w0 w) {bn : Nat} (hbn : w0.heap.size ≤ bn) {L : List Spn} (st : NtS 110 79 61 w0.heap.size w u bn L) (hL : L.length ≤ 90000) {ad : Option Addr} {c : Nat} {steps : List Int} {a cost : Int} (R : RowAt w0 1 ad steps.length (steps.map (.int .i64))) (ha : inR .i64 a) (hc : inR .i64 cost) : Calls Tryz.prog 32 #[.iface 74 (.pointer (some ⟨bn, 0, none⟩)), .agg #[.slice ad steps.length c, .int .i64 a], .int .i64 cost] w (Ret fun v w' => v = .tuple #[.agg #[.int .i64 ((zE8 s steps a cost).1.kind), .int .i64 ((zE8 s steps a cost).1.size), .int .i64 ((zE8 s steps a cost).1.words), .int .i64 ((zE8 s steps a cost).1.kids), .int .u64 ((zE8 s steps a cost).1.word)], .int .u16 ((zE8 s steps a cost).2)] ∧ ∃ L2, ((zE8 s steps a cost).2 = 0 → L2 = (endT A (goT A steps (zF2 A L 0 0) (zA0 s 0 0).1).1 (goT A steps (zF2 A L 0 0) (zA0 s 0 0).1).2 a)) ∧ NtS 110 79 61 w0.heap.size w' u bn L2 ∧ NkP [bn] 61 w0.heap.size w w') := by
 have K := NkP.refl [bn] 61 w0.heap.size w
 have g0w := g0.size
 have ll := R.lim
 simp only [inR] at ha hc
 refine zC2 Tryz.func32 Tryz.ntmps32 Tryz.results32 rfl rfl ?_
 refine qZ 2 ?_
 refine stp ?_
 refine qC ?_
 intro b1 w2 hb3 hc4 g5
 have hge6 := Nat.le_trans K.size hb3
 replace K := K.tr (NkP.of_grow g5)
 replace g0 := g0.tr g5
 replace st := st.grow g5
 clear g5 hb3
 refine stp (zA7 ?_)
 intro b7 w8 hb9 hc10 g11
 refine qZ 2 ?_
 refine yW3 ?_
 refine qZ 4 ?_
 have hge12 := Nat.le_trans K.size hb9
 have ne13 := qN hc4 hb9
 replace K := K.tr (NkP.of_grow g11)
 replace g0 := g0.tr g11
 replace st := st.grow g11
 replace hc4 := g11.heap hc4
 clear g11 hb9
 refine qZ 5 ?_
 refine zF5 (fun m_ e_ w_ => ∃ (k : Nat), m_ = steps.length - k ∧ Fr [(0, .iface 74 (.pointer (some ⟨bn, 0, none⟩))), (2, .int .i64 cost), (4, .pointer (some ⟨b1, 0, none⟩)), (6, .pointer (some ⟨b7, 0, none⟩)), (20, .slice ad steps.length c), (21, .int .i64 (steps.length : Int)), (22, .int .i64 (k : Int))] e_ ∧ (k ≤ steps.length) ∧ (∀ j, j < k → 0 ≤ steps.getD j 0) ∧ (NkP [bn] 61 w0.heap.size w w_) ∧ (Grow w0 w_) ∧ (NtS 110 79 61 w0.heap.size w_ u bn L) ∧ (w_.heap[b1]? = some (.cells #[.slice ad steps.length c, .int .i64 a] 30 (0, 0))) ∧ (w_.heap[b7]? = some (.cells #[.int .i64 0, .int .i64 0, .int .i64 0, .int .i64 0, .int .u64 0] 40 (0, 0)))) _ ⟨0, rfl, zC6 ⟨rfl, rfl, rfl, rfl, rfl, rfl, rfl, trivial⟩, by omega, fun j hj => by omega, K, g0, st, hc4, hc10⟩ ?_
 clear K g0 st hc4 hc10
 rintro m_ e_ w14 ⟨k, rfl, ⟨e15, rfl⟩, hk2, hnn, K, g0, st, hc4, hc10⟩
 refine qZ 2 ?_
 refine stp (zF6 rfl rfl ?_)
 refine qZ 2 ?_
 refine zA2 (b := (decide ((k : Int) < (steps.length : Int)))) rfl (fun hlt1 => ?_) (fun hlt1 => ?_)
 ·
  replace hlt1 := qT hlt1
  have hi : k < steps.length := by omega
  refine qZ 5 ?_
  refine stp (zC8 (R.grow g0) rfl rfl ?_ ?_); omega
  refine stp (zC5 (v := .int .i64 (steps.getD k 0)) (m := 0) (R.grow g0) rfl (zE6 0 (by omega)) ?_)
  refine qZ 5 ?_
  refine stp (zF6 rfl rfl ?_)
  refine zA6 ?_
  refine zA2 (b := (decide ((steps.getD k 0) < 0))) rfl (fun h2 => ?_) (fun h2 => ?_)
  ·
   replace h2 := qT h2
   refine qZ 2 ?_
   refine stp (zA9 (v := .agg #[.int .i64 0, .int .i64 0, .int .i64 0, .int .i64 0, .int .u64 0]) (fun w => by kernel_rfl) ?_)
   refine stn (qS hc10 ?_)
   intro w16 hc17 u18
   replace K := (by first | exact K.upd_new u18 (by assumption) | exact K.tr (NkP.of_upd u18 (by simp)))
   replace g0 := (by first | exact Grow.upd g0 u18 (Nat.le_trans g0w (by assumption)) | exact Grow.upd g0 u18 hbn | exact Grow.upd g0 u18 hb0)
   replace st := st.upd u18 hc10 (by decide) (by decide)
   replace hc4 := u18.heap hc4 ne13
   clear u18 hc10
   refine qZ 3 ?_
   have h9 : (zE8 s steps a cost) = (Vl0, 1) := by unfold zE8; rw [if_pos ⟨_, qF6 hi, h2⟩]
   refine ret2 (zA5 rfl hc17 (by rfl)) (zA1 (v := .int .u16 1) rfl) ⟨by rw [h9] <;> rfl, _, fun h_ => absurd h_ (by rw [h9]; first | decide | (simp; done) | assumption | omega), st, K⟩
  ·
   replace h2 := qF h2
   refine qZ 2 ?_
   refine stp (zB5 rfl rfl ?_ ?_); constructor <;> omega
   refine qZ 2 ?_
   refine ⟨_, ?_, k + 1, rfl, zC6 ⟨rfl, rfl, rfl, rfl, rfl, rfl, rfl, trivial⟩, by omega, fun j hj => by rcases Nat.lt_succ_iff_lt_or_eq.1 hj with h_ | h_; exact hnn j h_; subst h_; omega, K, g0, st, hc4, hc10⟩
   omega
 ·
  replace hlt1 := qF hlt1
  replace hnn : ∀ j, j < steps.length → 0 ≤ steps.getD j 0 := fun j hj => hnn j (by omega)
  have hno : ¬ ∃ k ∈ steps, k < 0 := fun ⟨x_, hx_, hlt_⟩ => by obtain ⟨j_, hj_, he_⟩ := List.getElem_of_mem hx_; have := hnn j_ hj_; rw [zE5 hj_] at this; omega
  refine qZ 7 ?_
  refine stp (zN7 rfl rfl ?_)
  refine zA6 ?_
  refine zA2 (b := (decide ((steps.length : Int) > 32))) rfl (fun h3 => ?_) (fun h3 => ?_)
  ·
   replace h3 := qT h3
   refine qZ 2 ?_
   refine stp (zA9 (v := .agg #[.int .i64 0, .int .i64 0, .int .i64 0, .int .i64 0, .int .u64 0]) (fun w => by kernel_rfl) ?_)
   refine stn (qS hc10 ?_)
   intro w19 hc20 u21
   replace K := (by first | exact K.upd_new u21 (by assumption) | exact K.tr (NkP.of_upd u21 (by simp)))
   replace g0 := (by first | exact Grow.upd g0 u21 (Nat.le_trans g0w (by assumption)) | exact Grow.upd g0 u21 hbn | exact Grow.upd g0 u21 hb0)
   replace st := st.upd u21 hc10 (by decide) (by decide)
   replace hc4 := u21.heap hc4 ne13
   clear u21 hc10
   refine qZ 3 ?_
   have h9 : (zE8 s steps a cost) = (Vl0, 3) := by unfold zE8; rw [if_neg hno, if_pos h3]
   refine ret2 (zA5 rfl hc20 (by rfl)) (zA1 (v := .int .u16 3) rfl) ⟨by rw [h9] <;> rfl, _, fun h_ => absurd h_ (by rw [h9]; first | decide | (simp; done) | assumption | omega), st, K⟩
  ·
   replace h3 := qF h3
   refine qZ 4 ?_
   refine stp ?_
   refine zD7 rfl (zU3 _ hA hr hx hs g0 hbn st (by omega) 0 0) ?_
   rintro v_ w22 ⟨rfl, L1, he1, hl1, st2_, rel_⟩
   replace hc4 := rel_.hpN st hc4 (by decide) (by decide)
   replace hc10 := rel_.hpN st hc10 (by decide) (by decide)
   replace g0 := NkP.to_grow rel_ g0 (fun x_ hx_ => by simp only [List.mem_cons, List.mem_singleton, List.not_mem_nil, or_false] at hx_; (first | (subst hx_; first | assumption | exact hbn) | (rcases hx_ with rfl | rfl <;> assumption)))  (Nat.le_refl _)
   replace K := K.new_nk rel_ (fun x_ hx_ => by simp only [List.mem_cons, List.mem_singleton, List.not_mem_nil, or_false] at hx_; (first | (rcases hx_ with rfl | rfl <;> first | (right; simp; done) | (left; assumption)) | (subst hx_; first | (right; simp; done) | (left; assumption))))
   clear rel_ st
   have st := st2_
   clear st2_
   refine qZ 3 ?_
   refine stp (zA7 ?_)
   intro b23 w24 hb25 hc26 g27
   refine stn (qS hc26 ?_)
   intro w28 hc29 u30
   have g31 := g27.upd u30 hb25
   have hge32 := Nat.le_trans K.size hb25
   have ne33 := qN hc4 hb25
   have ne34 := qN hc10 hb25
   replace hc4 := g31.heap hc4
   replace hc10 := g31.heap hc10
   replace g0 := g0.tr g31
   replace K := K.tr (NkP.of_grow g31)
   replace st := st.grow g31
   clear u30 g27 hb25 hc26
   refine qZ 6 ?_
   refine stp (zG9 rfl rfl ?_)
   refine zA6 ?_
   refine zA2 (b := (decide (((zA0 s 0 0).2) ≠ 0))) rfl (fun h4 => ?_) (fun h4 => ?_)
   ·
    replace h4 := qT h4
    refine qZ 2 ?_
    refine stp (zA9 (v := .agg #[.int .i64 0, .int .i64 0, .int .i64 0, .int .i64 0, .int .u64 0]) (fun w => by kernel_rfl) ?_)
    refine qZ 1 ?_
    refine stn (qS hc10 ?_)
    intro w35 hc36 u37
    replace hc4 := u37.heap hc4 ne13
    replace g0 := (by first | exact Grow.upd g0 u37 (Nat.le_trans g0w (by assumption)) | exact Grow.upd g0 u37 hbn | exact Grow.upd g0 u37 hb0)
    replace K := (by first | exact K.upd_new u37 (by assumption) | exact K.tr (NkP.of_upd u37 (by simp)))
    replace st := st.upd u37 hc10 (by decide) (by decide)
    replace hc29 := u37.heap hc29 ne34.symm
    clear u37 hc10
    refine qZ 3 ?_
    have h9 : (zE8 s steps a cost) = (Vl0, (zA0 s 0 0).2) := by unfold zE8; rw [if_neg hno, if_neg h3, if_pos h4]
    refine ret2 (zA5 rfl hc36 (by rfl)) (zA1 (v := .int .u16 ((zA0 s 0 0).2)) rfl) ⟨by rw [h9] <;> rfl, _, fun h_ => absurd h_ (by rw [h9]; first | decide | (simp; done) | assumption | omega), st, K⟩
   ·
    replace h4 := qF h4
    have hr0_ := fol9 hs hr hx 0 0
    refine qZ 6 ?_
    refine stp ?_
    refine qP1 rfl rfl rfl ?_
    rw [show (if (-1 : Int) > cost then -1 else cost) = max cost (-1) from by split <;> omega]
    obtain ⟨left0, hl0⟩ : ∃ x, x = max cost (-1) := ⟨_, rfl⟩
    rw [← hl0]
    refine stp (zA9 (v := .agg #[.iface 74 (.pointer (some ⟨bn, 0, none⟩)), .int .i64 ((zA0 s 0 0).1.kind), .int .i64 ((zA0 s 0 0).1.seg), .int .i64 ((zA0 s 0 0).1.at_), .int .i64 ((zA0 s 0 0).1.data), .int .i64 ((zA0 s 0 0).1.ptrs), .int .i64 ((zA0 s 0 0).1.size), .int .i64 ((zA0 s 0 0).1.count), .int .i64 left0]) (fun w => by kernel_rfl) ?_)
    refine stp ?_
    refine qC ?_
    intro b38 w39 hb40 hc41 g42
    have hge43 := Nat.le_trans K.size hb40
    have ne44 := qN hc4 hb40
    have ne45 := qN hc10 hb40
    have ne46 := qN hc29 hb40
    replace hc4 := g42.heap hc4
    replace hc10 := g42.heap hc10
    replace g0 := g0.tr g42
    replace K := K.tr (NkP.of_grow g42)
    replace st := st.grow g42
    replace hc29 := g42.heap hc29
    clear g42 hb40
    refine qZ 2 ?_
    have hwb : w.heap.size ≤ b38 := hge43
    have hb0 : w0.heap.size ≤ b38 := Nat.le_trans g0w hwb
    refine qZ 3 ?_
    refine stp (qJ6 (vs := [.pointer (some ⟨b38, 0, none⟩)]) (us := []) rfl rfl ?_)
    refine qZ 6 ?_
    refine stp ?_
    refine zD7 rfl (qR6 _ hc41 (by omega) (zJ3 hr0_)) ?_
    rintro v_ w47 ⟨rfl, hb48, K_⟩
    replace st := st.kp K_ hc41 (by decide) (by decide)
    replace hc4 := K_.heap hc4 (fun hm_ => by simp only [List.mem_singleton] at hm_; exact zP5 hc4 hc41 (by decide) hm_)
    replace hc10 := K_.heap hc10 (fun hm_ => by simp only [List.mem_singleton] at hm_; exact zP5 hc10 hc41 (by decide) hm_)
    replace hc29 := K_.heap hc29 (fun hm_ => by simp only [List.mem_singleton] at hm_; exact zP5 hc29 hc41 (by decide) hm_)
    replace g0 := g0.trK K_ (fun x_ hx_ => by simp only [List.mem_singleton] at hx_; subst hx_; exact hb0)
    replace K := K.new_kp K_ (fun x_ hx_ => by simp only [List.mem_singleton] at hx_; subst hx_; exact .inl hwb)
    clear K_ hc41
    obtain ⟨e49, he49⟩ : ∃ x, x = (if left0 - (1 + zB8 (zA0 s 0 0).1) < 0 then (22 : Int) else 0) := ⟨_, rfl⟩
    rw [← he49]
    have hqe49 : (left0 - (1 + zB8 (zA0 s 0 0).1) < 0 ∧ e49 = 22) ∨ (¬ left0 - (1 + zB8 (zA0 s 0 0).1) < 0 ∧ e49 = 0) := by rw [he49]; split <;> omega
    refine qZ 5 ?_
    refine stp (zG9 rfl rfl ?_)
    refine zA6 ?_
    refine zA2 (b := (decide (e49 ≠ 0))) rfl (fun h5 => ?_) (fun h5 => ?_)
    ·
     replace h5 := qT h5
     have he_ : e49 = 22 := by omega
     refine qZ 2 ?_
     refine stp (zA9 (v := .agg #[.int .i64 0, .int .i64 0, .int .i64 0, .int .i64 0, .int .u64 0]) (fun w => by kernel_rfl) ?_)
     refine qZ 1 ?_
     refine stn (qS hc10 ?_)
     intro w50 hc51 u52
     replace hc4 := u52.heap hc4 ne13
     replace g0 := (by first | exact Grow.upd g0 u52 (Nat.le_trans g0w (by assumption)) | exact Grow.upd g0 u52 hbn | exact Grow.upd g0 u52 hb0)
     replace K := (by first | exact K.upd_new u52 (by assumption) | exact K.tr (NkP.of_upd u52 (by simp)))
     replace st := st.upd u52 hc10 (by decide) (by decide)
     replace hc29 := u52.heap hc29 ne34.symm
     replace hb48 := u52.heap hb48 ne45.symm
     clear u52 hc10
     refine qZ 3 ?_
     have h9 : (zE8 s steps a cost) = (Vl0, 22) := by unfold zE8; rw [if_neg hno, if_neg h3, if_neg h4, ← hl0, if_pos (by omega)]
     refine ret2 (zA5 rfl hc51 (by rfl)) (zA1 (v := .int .u16 e49) rfl) ⟨by rw [h9, he_] <;> rfl, _, fun h_ => absurd h_ (by rw [h9]; simp), st, K⟩
    ·
     replace h5 := qF h5
     have hw0 : (zE8 s steps a cost) = zN9 s a (steps.drop 0) (zA0 s 0 0).1 (left0 - (1 + zB8 (zA0 s 0 0).1)) := by unfold zE8; rw [if_neg hno, if_neg h3, if_neg h4, ← hl0, if_neg (by omega)]; rfl
     have hL1 : L1 = (zF2 A L 0 0) := he1 (by omega)
     refine qZ 12 ?_
     have hlw := zJ3 hr0_
     have hst32 : steps.length ≤ 32 := by omega
     refine zF5 (fun m_ e_ w_ => ∃ (k : Nat) (o : Ob) (left : Int) (l : List Spn), m_ = steps.length - k ∧ Fr [(4, .pointer (some ⟨b1, 0, none⟩)), (6, .pointer (some ⟨b7, 0, none⟩)), (11, .int .u16 ((zA0 s 0 0).2)), (12, .pointer (some ⟨b38, 0, none⟩)), (13, .func (.func 53) #[.pointer (some ⟨b38, 0, none⟩)] #[]), (59, .slice ad steps.length c), (60, .int .i64 (steps.length : Int)), (61, .int .i64 (k : Int))] e_ ∧ (k ≤ steps.length) ∧ (ObR o) ∧ (ObK o) ∧ (0 ≤ left ∧ left ≤ 9223372036854775807) ∧ ((zE8 s steps a cost) = zN9 s a (steps.drop k) o left) ∧ (l.length ≤ L.length + 3 + 3 * k) ∧ ((endT A (goT A steps (zF2 A L 0 0) (zA0 s 0 0).1).1 (goT A steps (zF2 A L 0 0) (zA0 s 0 0).1).2 a) = endT A (goT A (steps.drop k) l o).1 (goT A (steps.drop k) l o).2 a) ∧ (w_.heap[b1]? = some (.cells #[.slice ad steps.length c, .int .i64 a] 30 (0, 0))) ∧ (w_.heap[b7]? = some (.cells #[.int .i64 0, .int .i64 0, .int .i64 0, .int .i64 0, .int .u64 0] 40 (0, 0))) ∧ (Grow w0 w_) ∧ (NkP [bn] 61 w0.heap.size w w_) ∧ (w_.heap[b23]? = some (.cells #[.int .i64 ((zA0 s 0 0).1.kind), .int .i64 ((zA0 s 0 0).1.seg), .int .i64 ((zA0 s 0 0).1.at_), .int .i64 ((zA0 s 0 0).1.data), .int .i64 ((zA0 s 0 0).1.ptrs), .int .i64 ((zA0 s 0 0).1.size), .int .i64 ((zA0 s 0 0).1.count)] 112 (0, 0))) ∧ (w_.heap[b38]? = some (.cells #[.iface 74 (.pointer (some ⟨bn, 0, none⟩)), .int .i64 o.kind, .int .i64 o.seg, .int .i64 o.at_, .int .i64 o.data, .int .i64 o.ptrs, .int .i64 o.size, .int .i64 o.count, .int .i64 left] 117 (0, 0))) ∧ (NtS 110 79 61 w0.heap.size w_ u bn l)) _ ⟨0, (zA0 s 0 0).1, (left0 - (1 + zB8 (zA0 s 0 0).1)), L1, rfl, zC6 ⟨rfl, rfl, rfl, rfl, rfl, rfl, rfl, rfl, trivial⟩, by omega, hr0_, zN3 s 0 0, by omega, hw0, by omega, by rw [hL1]; rfl, hc4, hc10, g0, K, hc29, hb48, st⟩ ?_
     clear hc4 hc10 g0 K st hc29 hb48
     rintro m_ e_ w53 ⟨k, o, left, l, rfl, ⟨e54, rfl⟩, hk2, ho, hok, hlf, hw, hll, htt, hc4, hc10, g0, K, hc29, hb48, st⟩
     refine qZ 2 ?_
     refine stp (zF6 rfl rfl ?_)
     refine qZ 2 ?_
     refine zA2 (b := (decide ((k : Int) < (steps.length : Int)))) rfl (fun hlt => ?_) (fun hlt => ?_)
     ·
      replace hlt := qT hlt
      have hi : k < steps.length := by omega
      have hdr : steps.drop k = (steps.getD k 0) :: steps.drop (k + 1) := by rw [List.drop_eq_getElem_cons hi, zE5 hi]
      have hkk := hnn k hi
      have hso := yX7 (fun x_ y_ => fol9 hs hr hx x_ y_) ho (steps.getD k 0)
      have hsw := zJ3 hso
      refine qZ 5 ?_
      refine stp (zC8 (R.grow g0) rfl rfl ?_ ?_); omega
      refine stp (zC5 (v := .int .i64 (steps.getD k 0)) (m := 0) (R.grow g0) rfl (zE6 0 (by omega)) ?_)
      refine qZ 6 ?_
      refine stp ?_
      refine zD7 rfl (qY1 _ hA hr hx hs g0 hbn st (by omega) hb0 hb48 ho hok hkk) ?_
      rintro v_ w55 ⟨rfl, L2, he2, hl2, hb56, st2_, rel_⟩
      replace hc4 := rel_.hpN2 st hb48 hc4 (by decide) (by decide) (by decide)
      replace hc10 := rel_.hpN2 st hb48 hc10 (by decide) (by decide) (by decide)
      replace hc29 := rel_.hpN2 st hb48 hc29 (by decide) (by decide) (by decide)
      replace g0 := NkP.to_grow rel_ g0 (fun x_ hx_ => by simp only [List.mem_cons, List.mem_singleton, List.not_mem_nil, or_false] at hx_; (first | (subst hx_; first | assumption | exact hbn) | (rcases hx_ with rfl | rfl <;> assumption)))  (Nat.le_refl _)
      replace K := K.new_nk rel_ (fun x_ hx_ => by simp only [List.mem_cons, List.mem_singleton, List.not_mem_nil, or_false] at hx_; (first | (rcases hx_ with rfl | rfl <;> first | (right; simp; done) | (left; assumption)) | (subst hx_; first | (right; simp; done) | (left; assumption))))
      clear rel_ st hb48
      have st := st2_
      clear st2_
      refine qZ 6 ?_
      refine stp (zD5 rfl rfl ?_)
      refine zA6 ?_
      refine zA2 (b := (decide (((zD9 s o (steps.getD k 0)).2) = 0))) rfl (fun h7 => ?_) (fun h7 => ?_)
      ·
       replace h7 := qT h7
       refine qZ 2 ?_
       refine stp ?_
       refine zD7 rfl (qR6 _ hb56 (by omega) (zJ3 hso)) ?_
       rintro v_ w57 ⟨rfl, hb58, K_⟩
       replace st := st.kp K_ hb56 (by decide) (by decide)
       replace hc4 := K_.heap hc4 (fun hm_ => by simp only [List.mem_singleton] at hm_; exact zP5 hc4 hb56 (by decide) hm_)
       replace hc10 := K_.heap hc10 (fun hm_ => by simp only [List.mem_singleton] at hm_; exact zP5 hc10 hb56 (by decide) hm_)
       replace hc29 := K_.heap hc29 (fun hm_ => by simp only [List.mem_singleton] at hm_; exact zP5 hc29 hb56 (by decide) hm_)
       replace g0 := g0.trK K_ (fun x_ hx_ => by simp only [List.mem_singleton] at hx_; subst hx_; exact hb0)
       replace K := K.new_kp K_ (fun x_ hx_ => by simp only [List.mem_singleton] at hx_; subst hx_; exact .inl hwb)
       clear K_ hb56
       obtain ⟨e59, he59⟩ : ∃ x, x = (if left - (1 + zB8 (zD9 s o (steps.getD k 0)).1) < 0 then (22 : Int) else 0) := ⟨_, rfl⟩
       rw [← he59]
       have hqe59 : (left - (1 + zB8 (zD9 s o (steps.getD k 0)).1) < 0 ∧ e59 = 22) ∨ (¬ left - (1 + zB8 (zD9 s o (steps.getD k 0)).1) < 0 ∧ e59 = 0) := by rw [he59]; split <;> omega
       refine qZ 6 ?_
       refine stp (zD5 rfl rfl ?_)
       refine zA6 ?_
       refine zA2 (b := (decide (e59 = 0))) rfl (fun h8 => ?_) (fun h8 => ?_)
       ·
        replace h8 := qT h8
        refine qZ 2 ?_
        refine stp (zB5 rfl rfl ?_ ?_); constructor <;> omega
        refine qZ 2 ?_
        have hz7 : (zD9 s o (steps.getD k 0)).2 = 0 := by omega
        refine ⟨_, ?_, k + 1, (zD9 s o (steps.getD k 0)).1, left - (1 + zB8 (zD9 s o (steps.getD k 0)).1), L2, rfl, zC6 ⟨rfl, rfl, rfl, rfl, rfl, rfl, rfl, rfl, trivial⟩, by omega, hso, yX6 s hok _, by omega, by rw [hw, hdr, zN9, if_neg (by omega), if_neg (by omega)], by omega, by rw [htt, hdr, yS6 hs hz7, he2 hz7], hc4, hc10, g0, K, hc29, hb58, st⟩
        omega
       ·
        replace h8 := qF h8
        have he_ : e59 = 22 := by omega
        refine qZ 3 ?_
        refine stp (zA9 (v := .agg #[.int .i64 0, .int .i64 0, .int .i64 0, .int .i64 0, .int .u64 0]) (fun w => by kernel_rfl) ?_)
        refine qZ 1 ?_
        refine stn (qS hc10 ?_)
        intro w60 hc61 u62
        replace hc4 := u62.heap hc4 ne13
        replace hc29 := u62.heap hc29 ne34.symm
        replace g0 := (by first | exact Grow.upd g0 u62 (Nat.le_trans g0w (by assumption)) | exact Grow.upd g0 u62 hbn | exact Grow.upd g0 u62 hb0)
        replace K := (by first | exact K.upd_new u62 (by assumption) | exact K.tr (NkP.of_upd u62 (by simp)))
        replace st := st.upd u62 hc10 (by decide) (by decide)
        replace hb58 := u62.heap hb58 ne45.symm
        clear u62 hc10
        refine qZ 3 ?_
        have h9 : (zE8 s steps a cost) = (Vl0, 22) := by rw [hw, hdr, zN9, if_neg (by omega), if_pos (by omega)]
        refine ret2 (zA5 rfl hc61 (by rfl)) (zA1 (v := .int .u16 e59) rfl) ⟨by rw [h9, he_] <;> rfl, _, fun h_ => absurd h_ (by rw [h9]; simp), st, K⟩
      ·
       replace h7 := qF h7
       refine qZ 5 ?_
       refine stp (qU5 rfl rfl (by omega) ?_)
       refine zA6 ?_
       refine zN5 rfl ?_
       refine qZ 3 ?_
       refine stp (zA9 (v := .agg #[.int .i64 0, .int .i64 0, .int .i64 0, .int .i64 0, .int .u64 0]) (fun w => by kernel_rfl) ?_)
       refine qZ 1 ?_
       refine stn (qS hc10 ?_)
       intro w63 hc64 u65
       replace hc4 := u65.heap hc4 ne13
       replace hc29 := u65.heap hc29 ne34.symm
       replace g0 := (by first | exact Grow.upd g0 u65 (Nat.le_trans g0w (by assumption)) | exact Grow.upd g0 u65 hbn | exact Grow.upd g0 u65 hb0)
       replace K := (by first | exact K.upd_new u65 (by assumption) | exact K.tr (NkP.of_upd u65 (by simp)))
       replace st := st.upd u65 hc10 (by decide) (by decide)
       replace hb56 := u65.heap hb56 ne45.symm
       clear u65 hc10
       refine qZ 3 ?_
       have h9 : (zE8 s steps a cost) = (Vl0, (zD9 s o (steps.getD k 0)).2) := by rw [hw, hdr, zN9, if_pos h7]
       refine ret2 (zA5 rfl hc64 (by rfl)) (zA1 (v := .int .u16 ((zD9 s o (steps.getD k 0)).2)) rfl) ⟨by rw [h9] <;> rfl, _, fun h_ => absurd h_ (by rw [h9]; first | decide | (simp; done) | assumption | omega), st, K⟩
     ·
      replace hlt := qF hlt
      have hk9 : k = steps.length := by omega
      have hv : (zE8 s steps a cost) = valS s o a := by rw [hw, hk9, List.drop_length, zN9]
      rw [hk9, List.drop_length, goT] at htt
      refine qZ 6 ?_
      refine stp (zF6 rfl rfl ?_)
      refine zA6 ?_
      refine zA2 (b := (decide (a < 0))) rfl (fun h6 => ?_) (fun h6 => ?_)
      ·
       replace h6 := qT h6
       refine qZ 3 ?_
       refine stp (zA4 (v := .agg #[.int .i64 ((isS o).kind), .int .i64 ((isS o).size), .int .i64 ((isS o).words), .int .i64 ((isS o).kids), .int .u64 ((isS o).word)]) rfl (yQ6 _ hb48) ?_)
       intro w66 g67
       replace hc4 := g67.heap hc4
       replace hc10 := g67.heap hc10
       replace g0 := g0.tr g67
       replace K := K.tr (NkP.of_grow g67)
       replace hc29 := g67.heap hc29
       replace hb48 := g67.heap hb48
       replace st := st.grow g67
       clear g67
       refine stn (qS hc10 ?_)
       intro w68 hc69 u70
       replace hc4 := u70.heap hc4 ne13
       replace g0 := (by first | exact Grow.upd g0 u70 (Nat.le_trans g0w (by assumption)) | exact Grow.upd g0 u70 hbn | exact Grow.upd g0 u70 hb0)
       replace K := (by first | exact K.upd_new u70 (by assumption) | exact K.tr (NkP.of_upd u70 (by simp)))
       replace hc29 := u70.heap hc29 ne34.symm
       replace hb48 := u70.heap hb48 ne45.symm
       replace st := st.upd u70 hc10 (by decide) (by decide)
       clear u70 hc10
       refine qZ 3 ?_
       have h9 : (zE8 s steps a cost) = (isS o, 0) := by rw [hv, valS, if_pos h6]
       refine ret2 (zA5 rfl hc69 (by rfl)) (zA1 (v := .int .u16 0) rfl) ⟨by rw [h9] <;> rfl, _, fun _ => by rw [htt]; unfold endT; rw [if_pos (.inl h6)], st, K⟩
      ·
       replace h6 := qF h6
       refine qZ 6 ?_
       refine stp ?_
       refine zD7 rfl (qT2 _ hA hr hx hs g0 hbn st (by omega) hb0 hb48 ho hok (by omega) (by omega)) ?_
       rintro v_ w71 ⟨rfl, L3, he3, st2_, rel_⟩
       replace hc4 := rel_.hpN st hc4 (by decide) (by decide)
       replace hc10 := rel_.hpN st hc10 (by decide) (by decide)
       replace hc29 := rel_.hpN st hc29 (by decide) (by decide)
       replace hb48 := rel_.hpN st hb48 (by decide) (by decide)
       replace g0 := NkP.to_grow rel_ g0 (fun x_ hx_ => by simp only [List.mem_cons, List.mem_singleton, List.not_mem_nil, or_false] at hx_; (first | (subst hx_; first | assumption | exact hbn) | (rcases hx_ with rfl | rfl <;> assumption)))  (Nat.le_refl _)
       replace K := K.new_nk rel_ (fun x_ hx_ => by simp only [List.mem_cons, List.mem_singleton, List.not_mem_nil, or_false] at hx_; (first | (rcases hx_ with rfl | rfl <;> first | (right; simp; done) | (left; assumption)) | (subst hx_; first | (right; simp; done) | (left; assumption))))
       clear rel_ st
       have st := st2_
       clear st2_
       refine qZ 10 ?_
       refine stp (zG9 rfl rfl ?_)
       refine zA6 ?_
       refine zA2 (b := (decide (((atS s o a).2) ≠ 0))) rfl (fun h7 => ?_) (fun h7 => ?_)
       ·
        replace h7 := qT h7
        refine qZ 2 ?_
        refine stp (zA9 (v := .agg #[.int .i64 0, .int .i64 0, .int .i64 0, .int .i64 0, .int .u64 0]) (fun w => by kernel_rfl) ?_)
        refine qZ 1 ?_
        refine stn (qS hc10 ?_)
        intro w72 hc73 u74
        replace hc4 := u74.heap hc4 ne13
        replace hc29 := u74.heap hc29 ne34.symm
        replace hb48 := u74.heap hb48 ne45.symm
        replace g0 := (by first | exact Grow.upd g0 u74 (Nat.le_trans g0w (by assumption)) | exact Grow.upd g0 u74 hbn | exact Grow.upd g0 u74 hb0)
        replace K := (by first | exact K.upd_new u74 (by assumption) | exact K.tr (NkP.of_upd u74 (by simp)))
        replace st := st.upd u74 hc10 (by decide) (by decide)
        clear u74 hc10
        refine qZ 3 ?_
        have h9 : (zE8 s steps a cost) = (Vl0, (atS s o a).2) := by rw [hv, valS, if_neg h6, if_pos h7]
        refine ret2 (zA5 rfl hc73 (by rfl)) (zA1 (v := .int .u16 ((atS s o a).2)) rfl) ⟨by rw [h9] <;> rfl, _, fun h_ => absurd h_ (by rw [h9]; first | decide | (simp; done) | assumption | omega), st, K⟩
       ·
        replace h7 := qF h7
        refine qZ 9 ?_
        refine stp (zA9 (v := .agg #[.int .i64 o.kind, .int .i64 0, .int .i64 0, .int .i64 0, .int .u64 ((atS s o a).1)]) (fun w => by kernel_rfl) ?_)
        refine stn (qS hc10 ?_)
        intro w75 hc76 u77
        replace hc4 := u77.heap hc4 ne13
        replace hc29 := u77.heap hc29 ne34.symm
        replace hb48 := u77.heap hb48 ne45.symm
        replace g0 := (by first | exact Grow.upd g0 u77 (Nat.le_trans g0w (by assumption)) | exact Grow.upd g0 u77 hbn | exact Grow.upd g0 u77 hb0)
        replace K := (by first | exact K.upd_new u77 (by assumption) | exact K.tr (NkP.of_upd u77 (by simp)))
        replace st := st.upd u77 hc10 (by decide) (by decide)
        clear u77 hc10
        refine qZ 3 ?_
        have h9 : (zE8 s steps a cost) = (⟨o.kind, 0, 0, 0, (atS s o a).1⟩, 0) := by rw [hv, valS, if_neg h6, if_neg h7]
        refine ret2 (zA5 rfl hc76 (by rfl)) (zA1 (v := .int .u16 0) rfl) ⟨by rw [h9] <;> rfl, _, fun _ => by rw [htt]; exact he3 (by omega), st, K⟩
end Go.Proofs.YtkkbbhpbcfcplaaGreat.K
namespace Go.Proofs.YtkkbbhpbcfcplaaGreat.K
open Go Go.RowKit
def OblQ (P : Program) (ops : Array Oper) (F : KpQ) (S : Nat → World → Prop) (w0 : World) (e : Env) (o : Oper) (s : Sp) (l : List (Option Nat × Sp)) : Option Nat → Prop
  | none => ∀ w, F.r w0 w → OblEnv l e w fun e' => OpG P ops o e' w fun v w' => F.g w w' ∧ s.holds w' v
  | some k => ∀ w, F.r w0 w → S k w → OblEnv l e w fun e' => OpG P ops o e' w fun v w' => F.r w w' ∧ S (k + 1) w' ∧ s.holds w' v
def AOQ (P : Program) (ops : Array Oper) (F : KpQ) (S : Nat → World → Prop) (ms : List Nat) (w0 : World) (e : Env) (K : List Dn → Prop) : List Oper → List (List Nat) → List Dn → Prop
  | [], _, rdone => K rdone.reverse
  | o :: r, an, rdone => ∃ s : Sp, s.StabQ F ∧ OblQ P ops F S w0 e o s (selB rdone (an.headD [])) (zK4 ms 0 rdone.length) ∧
      AOQ P ops F S ms w0 e K r an.tail (⟨o, s, an.headD []⟩ :: rdone)
section
variable {P : Program} {ops : Array Oper} {F : KpQ} {S : Nat → World → Prop} {ms : List Nat} {w0 : World} {e : Env} {K : List Dn → Prop} {o : Oper} {r : List Oper} {a : List Nat} {an : List (List Nat)} {rdone : List Dn}
theorem zY0 (x : Value) (hm : zK4 ms 0 rdone.length = none) (h : ∀ w, F.r w0 w → OblEnv (selB rdone a) e w fun e' => OpG P ops o e' w fun v w' => F.g w w' ∧ v = x)
    (next : AOQ P ops F S ms w0 e K r an (⟨o, .ex x, a⟩ :: rdone)) : AOQ P ops F S ms w0 e K (o :: r) (a :: an) rdone := ⟨.ex x, trivial, by rw [hm]; exact h, next⟩
theorem yY1 {an : List (List Nat)} (h : K rdone.reverse) : AOQ P ops F S ms w0 e K [] an rdone := h
end
def yY2 (P : Program) (ops : Array Oper) (F : KpQ) (S : Nat → World → Prop) (ms : List Nat) (w0 : World) (e : Env) (D : List Dn) : Prop :=
  ∀ i d, D[i]? = some d → d.s.StabQ F ∧ OblQ P ops F S w0 e d.o d.s (selB (D.take i).reverse d.anc) (zK4 ms 0 i)
theorem yN5 {P : Program} {ops : Array Oper} {F : KpQ} {S : Nat → World → Prop} {ms : List Nat} {w0 : World} {e : Env} {K : List Dn → Prop} : ∀ (r : List Oper) (an : List (List Nat)) (rdone : List Dn), r.length = an.length →
    AOQ P ops F S ms w0 e K r an rdone → yY2 P ops F S ms w0 e rdone.reverse → ∃ D, K D ∧ yY2 P ops F S ms w0 e D ∧ D.map Dn.o = rdone.reverse.map Dn.o ++ r ∧ D.map Dn.anc = rdone.reverse.map Dn.anc ++ an
  | [], [], rdone, _, h, hg => ⟨rdone.reverse, h, hg, by simp, by simp⟩
  | [], _ :: _, _, hl, _, _ => by simp at hl
  | _ :: _, [], _, hl, _, _ => by simp at hl
  | o :: r, a :: an, rdone, hl, ⟨s, hs, ho, hn⟩, hg => by
    simp only [List.headD_cons, List.tail_cons] at ho hn
    obtain ⟨D, hK, hG, hD, hA⟩ := yN5 r an (⟨o, s, a⟩ :: rdone) (by simpa using hl) hn (by
      intro i d hd
      simp only [List.reverse_cons] at hd ⊢
      rcases Nat.lt_or_ge i rdone.reverse.length with hi | hi
      · rw [List.getElem?_append_left hi] at hd
        rw [List.take_append_of_le_length (by omega)]
        exact hg i d hd
      · rw [List.getElem?_append_right hi] at hd
        have h0 : i - rdone.reverse.length = 0 := by
          rcases Nat.eq_zero_or_pos (i - rdone.reverse.length) with h | h
          · exact h
          · rw [List.getElem?_eq_none (by simp only [List.length_cons, List.length_nil]; omega)] at hd; cases hd
        rw [h0] at hd
        have hi' : i = rdone.reverse.length := by omega
        subst hi'
        simp only [List.getElem?_cons_zero, Option.some.injEq] at hd
        subst hd
        have ht : (rdone.reverse ++ [(⟨o, s, a⟩ : Dn)]).take rdone.reverse.length = rdone.reverse := by simp
        rw [ht, List.reverse_reverse]
        rw [List.length_reverse]
        exact ⟨hs, ho⟩)
    exact ⟨D, hK, hG, by rw [hD]; simp, by rw [hA]; simp⟩
section main
variable {P : Program} {N : Nat} {hd tl : List Oper} {Q : Ex → Env → World → Prop} {F : KpQ} {S : Nat → World → Prop} {ms : List Nat}
structure InvQ (F : KpQ) (S : Nat → World → Prop) (ms : List Nat) (P : Program) (hd tl : List Oper) (D : List Dn) (w0 : World) (e : Env) (L : Array Bool) (E : Env) (w : World) : Prop where
  msro : E.ms = e.ms ∧ E.ro = e.ro
  down : Down (hd ++ tl) L
  head : ∀ i, Ls L i → i < hd.length
  grow : F.r w0 w
  st : ∃ k, k ≤ ms.length ∧ S k w ∧ ∀ (j p : Nat), ms[j]? = some p → (Ls L p ↔ j < k)
  got : ∀ (i : Nat) (d : Dn), D[i]? = some d → Ls L i → ∃ v, d.s.holds w v ∧ ∀ t, d.o.dst = some t → E t = v
  off : ∀ u, (∀ (i : Nat) (o : Oper), (hd ++ tl)[i]? = some o → Ls L i → o.dst ≠ some u) → E u = e u
theorem yY3 (sh : Shape hd tl) {D : List Dn} {w0 : World} {e : Env} (hD : D.map Dn.o = hd) (hA : D.map Dn.anc = ancB (hd ++ tl) hd.length) (hg : yY2 P (hd ++ tl).toArray F S ms w0 e D)
    (hS : ∀ k w w', F.g w w' → S k w → S k w') (hmo : qI8 (ancL (hd ++ tl) []) [] ms = true) (hml : ∀ (j p : Nat), ms[j]? = some p → p < hd.length)
    (hfin : ∀ w, F.r w0 w → S ms.length w → Fin (fun e w => WL P (hd ++ tl).toArray Q tl e w) D e w) : ∀ (fuel : Nat) (L : Array Bool) (E : Env) (w : World),
    InvQ F S ms P hd tl D w0 e L E w → left L ≤ fuel → AnyE P (hd ++ tl).toArray Q fuel L E w := by
  have hlen : D.length = hd.length := by rw [← hD]; simp
  have hDo : ∀ (i : Nat) (d : Dn), D[i]? = some d → (hd ++ tl)[i]? = some d.o := fun i d h => by
    have hi : i < D.length := (List.getElem?_eq_some_iff.1 h).1
    rw [List.getElem?_append_left (by omega), ← hD]; simp [h]
  have hanc := qM3 sh hlen hA
  -- with all of the head listed, what follows stands
  have fin : ∀ (L : Array Bool) (E : Env) (w : World), InvQ F S ms P hd tl D w0 e L E w → (∀ i, i < hd.length → Ls L i) → WL P (hd ++ tl).toArray Q tl E w := by
    intro L E w inv hall
    have hSl : S ms.length w := by
      obtain ⟨k0, hk0, hSk, hch⟩ := inv.st
      rcases Nat.lt_or_ge k0 ms.length with hlt | hge
      · have hp := List.getElem?_eq_getElem hlt
        have := (hch k0 _ hp).1 (hall _ (hml k0 _ hp))
        omega
      · rw [show ms.length = k0 from by omega]; exact hSk
    obtain ⟨e', hG, hmr, hu⟩ := zZ7 E D e (hfin w inv.grow hSl) (fun d hd' => by
      obtain ⟨i, hi, rfl⟩ := List.getElem_of_mem hd'
      exact inv.got i _ (List.getElem?_eq_getElem hi) (hall i (by omega)))
    have : e' = E := by
      refine Env.ext' (fun u => ?_) (by rw [hmr.1, inv.msro.1]) (by rw [hmr.2, inv.msro.2])
      by_cases hin : ∃ d ∈ D, d.o.dst = some u
      · exact (hu u).1 hin
      · rw [(hu u).2 (fun d hd' he => hin ⟨d, hd', he⟩)]
        refine (inv.off u fun i o ho hl hou => hin ?_).symm
        have hi := inv.head i hl
        have hiD : i < D.length := by omega
        have := hDo i _ (List.getElem?_eq_getElem hiD)
        rw [ho] at this
        exact ⟨D[i], List.getElem_mem hiD, by rw [← Option.some.inj this]; exact hou⟩
    rw [← this]; exact hG
  -- and so the rest of the region
  have rest : ∀ (fuel : Nat) (L : Array Bool) (E : Env) (w : World), InvQ F S ms P hd tl D w0 e L E w → (∀ i, i < hd.length → Ls L i) → left L ≤ fuel →
      AnyE P (hd ++ tl).toArray Q fuel L E w := by
    intro fuel L E w inv hall hf
    refine qZ5 sh fuel hd.length L E w inv.down (fun i => ⟨inv.head i, hall i⟩) (Nat.le_refl _) (by simp) hf ?_
    rw [List.drop_left]
    exact fin L E w inv hall
  intro fuel
  induction fuel with
  | zero =>
    intro L E w inv hf
    refine rest 0 L E w inv (fun i hi => ?_) hf
    by_cases hl : Ls L i
    · exact hl
    · have := zM5 (L := L) (i := i) (by rw [inv.down.size]; simp; omega) hl; omega
  | succ fuel ih =>
    intro L E w inv hf
    by_cases hall : ∀ i, i < hd.length → Ls L i
    · exact rest _ L E w inv hall hf
    refine ⟨fun hr => absurd (fun i hi => zR6 inv.down.size sh.back hr i (by simp; omega)) hall, fun i hi o' ho' => ?_⟩
    obtain ⟨hn, o, ho, hedge⟩ := (zP0 inv.down.size).1 hi
    have hin : i < (hd ++ tl).length := (List.getElem?_eq_some_iff.1 ho).1
    have hal := zI2 inv.down i o ho hedge
    have hih : i < hd.length := by
      rcases Nat.lt_or_ge i hd.length with h' | h'
      · exact h'
      · exact absurd (fun j hj => hal j (sh.tail i h' hin j (by omega))) hall
    have hi' : i < L.size := by rw [inv.down.size]; exact hin
    have hiD : i < D.length := by omega
    have hd' := List.getElem?_eq_getElem hiD
    generalize hdd : D[i] = d at hd'
    have hod : d.o = o := by have := hDo i d hd'; rw [ho] at this; exact (Option.some.inj this).symm
    obtain ⟨hst, hob⟩ := hg i d hd'
    have ha := hanc i d hd'
    rw [ha] at hob
    have hanI : (ancL (hd ++ tl) []).getD i [] = ancI (hd ++ tl) i := rfl
    have step : OblEnv (sel (D.take i) (ancI (hd ++ tl) i)) e w fun e' => OpG P (hd ++ tl).toArray d.o e' w fun v w' => F.r w w' ∧ (zK4 ms 0 i = none → F.g w w') ∧ (∃ k, k ≤ ms.length ∧ S k w' ∧ ∀ (j p : Nat), ms[j]? = some p → (Ls (L.setIfInBounds i true) p ↔ j < k)) ∧ d.s.holds w' v := by
      obtain ⟨k0, hk0, hSk, hch⟩ := inv.st
      cases hmu : zK4 ms 0 i with
      | none =>
        rw [hmu] at hob
        refine zM1 (fun e' h => h.mono fun v w' ⟨g, hv⟩ => ⟨F.grow g, fun _ => g, ⟨k0, hk0, hS _ _ _ g hSk, fun j p hj => ?_⟩, hv⟩) _ _ (hob w inv.grow)
        rw [zI7 hi', ← hch j p hj]
        have : p ≠ i := fun h => zW9 hmu j (h ▸ hj)
        simp [this]
      | some k =>
        rw [hmu] at hob
        obtain ⟨_, hms⟩ := zO5 hmu
        rw [Nat.sub_zero] at hms
        have hkl : k < ms.length := (List.getElem?_eq_some_iff.1 hms).1
        have hkk : k0 = k := by
          have h1 : ¬ k < k0 := fun h => hn ((hch k i hms).2 h)
          rcases Nat.lt_or_ge k0 k with hlt | hge
          · have hq := List.getElem?_eq_getElem (show k0 < ms.length by omega)
            have h2 := (zQ5 hmo k i hms).2 k0 _ hlt hq
            rw [hanI] at h2
            have := (hch k0 _ hq).1 (hal _ h2)
            omega
          · omega
        subst hkk
        refine zM1 (fun e' h => h.mono fun v w' ⟨g, hs', hv⟩ => ⟨g, nofun, ⟨k0 + 1, hkl, hs', fun j p hj => ?_⟩, hv⟩) _ _ (hob w inv.grow hSk)
        rw [zI7 hi', hch j p hj]
        have anc_lt : ∀ q, q ∈ ancI (hd ++ tl) i → q < i := fun q hq => ((zL3 ho).1 hq).1
        constructor
        · rintro (rfl | h)
          · rcases Nat.lt_trichotomy j k0 with h | h | h
            · omega
            · omega
            · have h2 := (zQ5 hmo j p hj).2 k0 p h hms
              exact absurd (anc_lt p h2) (by omega)
          · omega
        · intro h
          rcases Nat.lt_or_ge j k0 with h' | h'
          · exact .inr h'
          · have : j = k0 := by omega
            subst this
            rw [hms] at hj
            exact .inl (Option.some.inj hj).symm
    -- the obligation, at the frame that is there
    obtain ⟨e', hG, hu⟩ := zL9 E _ e (by
      intro p hp
      unfold sel at hp
      rw [List.mem_filterMap] at hp
      obtain ⟨j, hj, hp⟩ := hp
      rw [List.getElem?_take] at hp
      split at hp
      · cases hdj : D[j]? with
        | none => rw [hdj] at hp; simp at hp
        | some dj =>
          rw [hdj] at hp
          simp only [Option.map_some, Option.some.injEq] at hp
          subst hp
          exact inv.got j dj hdj (hal j hj)
      · simp at hp) step
    have hmem : ∀ u, (∃ p ∈ sel (D.take i) (ancI (hd ++ tl) i), p.1 = some u) ↔ ∃ j ∈ ancI (hd ++ tl) i, ∃ dj, D[j]? = some dj ∧ dj.o.dst = some u := by
      intro u
      unfold sel
      constructor
      · rintro ⟨p, hp, hpu⟩
        rw [List.mem_filterMap] at hp
        obtain ⟨j, hj, hp⟩ := hp
        rw [List.getElem?_take] at hp
        split at hp
        · cases hdj : D[j]? with
          | none => rw [hdj] at hp; simp at hp
          | some dj =>
            rw [hdj] at hp
            simp only [Option.map_some, Option.some.injEq] at hp
            subst hp
            exact ⟨j, hj, dj, hdj, hpu⟩
        · simp at hp
      · rintro ⟨j, hj, dj, hdj, hdu⟩
        refine ⟨(dj.o.dst, dj.s), ?_, hdu⟩
        rw [List.mem_filterMap]
        refine ⟨j, hj, ?_⟩
        rw [List.getElem?_take, if_pos ((zL3 ho).1 hj).1, hdj]
        rfl
    have hG2 : OpG P (hd ++ tl).toArray o E w fun v w' => F.r w w' ∧ (zK4 ms 0 i = none → F.g w w') ∧ (∃ k, k ≤ ms.length ∧ S k w' ∧ ∀ (j p : Nat), ms[j]? = some p → (Ls (L.setIfInBounds i true) p ↔ j < k)) ∧ d.s.holds w' v := by
      rw [hod] at hG
      refine zU9 (sh.nosel i o ho) (fun u hu' => ?_) hG
      by_cases hin' : ∃ p ∈ sel (D.take i) (ancI (hd ++ tl) i), p.1 = some u
      · exact (hu u).1 hin'
      · rw [(hu u).2 (fun p hp he => hin' ⟨p, hp, he⟩)]
        refine (inv.off u fun k p hp hl hpu => ?_).symm
        have hki : i ≠ k := fun h => hn (h ▸ hl)
        rcases sh.read i k o p ho hp hki u hpu hu' with h | h
        · refine hin' ((hmem u).2 ⟨k, h, ?_⟩)
          have hk := inv.head k hl
          have hkD : k < D.length := by omega
          have := hDo k _ (List.getElem?_eq_getElem hkD)
          rw [hp] at this
          exact ⟨_, List.getElem?_eq_getElem hkD, by rw [← Option.some.inj this]; exact hpu⟩
        · exact hn (zI2 inv.down k p hp (inv.down.down k p hp hl) i h)
    have hoo : o = o' := by rw [List.getElem?_toArray, ho] at ho'; exact Option.some.inj ho'
    subst hoo
    refine OpG.mono ?_ hG2
    rintro v w' ⟨hgr, hgw, hst', hv⟩
    refine ih _ _ w' ⟨⟨by rw [qO9]; exact inv.msro.1, by rw [qP0]; exact inv.msro.2⟩, inv.down.set ho hedge, fun j hj => ?_, F.tr inv.grow hgr, hst', fun j dj hdj hl => ?_, fun u hu' => ?_⟩ (by have := zM5 hi' hn; omega)
    · rw [zI7 hi'] at hj
      rcases hj with rfl | hj
      · exact hih
      · exact inv.head j hj
    · rw [zI7 hi'] at hl
      by_cases hji : j = i
      · subst hji
        rw [hd'] at hdj
        cases hdj
        refine ⟨v, hv, fun t ht => ?_⟩
        rw [hod] at ht
        rw [ht]; exact zP8 _ _ _
      · have hlj := hl.resolve_left hji
        obtain ⟨vj, hvj, htj⟩ := inv.got j dj hdj hlj
        have hkeep : dj.s.holds w' vj := by
          have hsj := (hg j dj hdj).1
          exact Sp.keepQ hsj hgr hvj
        refine ⟨vj, hkeep, fun t ht => ?_⟩
        rw [← htj t ht]
        cases hdst' : o.dst with
        | none => rfl
        | some t' =>
          refine zR5 _ _ fun htt => ?_
          exact sh.uniq i j o dj.o ho (hDo j dj hdj) (Ne.symm hji) t' hdst' (by rw [ht, htt])
    · have hne : o.dst ≠ some u := hu' i o ho ((zI7 hi').2 (.inl rfl))
      have : E.put o.dst v u = E u := by
        cases hdst' : o.dst with
        | none => rfl
        | some t' => exact zR5 _ _ fun htt => hne (by rw [hdst', htt])
      rw [this]
      exact inv.off u fun k p hp hl => hu' k p hp ((zI7 hi').2 (.inr hl))
theorem jB4 {id : Nat} {e : Env} {w : World} {l : List Oper} (m : Nat) (an : List (List Nat)) (ms : List Nat) (F : KpQ) (S : Nat → World → Prop) (hm : P.follows .mixedOrders = true) (hsh : zY3 (l.take m) (l.drop m) = true)
    (han : ancB l (l.take m).length = an) (hdst : qM1 N l = true) (hmo : (qI8 (ancL l []) [] ms && ms.all fun p => Nat.blt p (l.take m).length) = true) (hS : ∀ k w w', F.g w w' → S k w → S k w') (h0 : ∀ w0, F.g w w0 → S 0 w0)
    (h : ∀ w0, F.g w w0 → AOQ P l.toArray F S ms w0 e (fun D => ∀ w', F.r w0 w' → S ms.length w' → Fin (fun e w => WL P l.toArray Q (l.drop m) e w) D e w') (l.take m) an []) :
    W P N (.region id l.toArray true) Q e w := by
  have hl := List.take_append_drop m l
  generalize hhd : l.take m = hd at *
  generalize htl : l.drop m = tl at *
  subst hl
  have h := h { w with drawn := w.drawn + 1 } (F.gdrew w)
  have h0 := h0 { w with drawn := w.drawn + 1 } (F.gdrew w)
  simp only [Bool.and_eq_true, List.all_eq_true] at hmo
  have hml : ∀ (j p : Nat), ms[j]? = some p → p < hd.length := fun j p hj => by
    have := hmo.2 p (List.mem_of_getElem? hj)
    simpa [Nat.blt_eq] using this
  intro b a k cs hs he
  subst he
  have sh := qF2 hsh
  obtain ⟨D, hK, hG, hDo, hDa⟩ := yN5 _ _ _ (by rw [← han]; simp [ancB, zK3]) h (fun i d hd' => by simp at hd')
  have hDo' : D.map Dn.o = hd := by simpa using hDo
  have hDa' : D.map Dn.anc = ancB (hd ++ tl) hd.length := by rw [hDa, han]; simp
  have hno : ∀ i, ¬ Ls (Array.replicate (hd ++ tl).toArray.size false) i := fun i => by simp [Ls, Array.getD_eq_getD_getElem?, Array.getElem?_replicate]; split <;> simp
  have hany : AnyE P (hd ++ tl).toArray Q (hd ++ tl).toArray.size (Array.replicate (hd ++ tl).toArray.size false) (env b.roundOf a) { w with drawn := w.drawn + 1 } := by
    refine yY3 sh hDo' hDa' hG hS hmo.1 hml hK _ _ _ _ ⟨⟨rfl, rfl⟩, ⟨by simp, fun i o ho hl => absurd hl (hno i)⟩, fun i hl => absurd hl (hno i), F.refl _, ⟨0, Nat.zero_le _, h0, fun j p hj => ⟨fun hl => absurd hl (hno p), fun h => by omega⟩⟩, fun i d hd' hl => absurd hl (hno i), fun u _ => rfl⟩ ?_
    unfold Go.Proofs.YtkkbbhpbcfcplaaGreat.K.left
    have := List.countP_le_length (p := (!·)) (l := (Array.replicate (hd ++ tl).toArray.size false).toList)
    simpa using this
  have hs2 := zW4 _ ((w.tape w.drawn (.order b.fn id))) _ _ _ hany
  obtain ⟨x, a', w', h1, h2, h3⟩ := zO9 hdst (k := k) (cs := cs) _ a _ hs hs2
  refine ⟨x, a', w', h1, h2, .of (.one stepR_region_draw) ?_⟩
  simp only [Region.schedule, hm, Bool.true_or, if_true]
  exact h3
end main
end Go.Proofs.YtkkbbhpbcfcplaaGreat.K
