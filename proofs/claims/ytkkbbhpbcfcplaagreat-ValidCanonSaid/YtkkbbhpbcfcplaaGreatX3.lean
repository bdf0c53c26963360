/- Plain laws, rules and walks of this claim's functions, laid together. -/
import Derived.Test.YtkkbbhpbcfcplaaGreatX2
set_option linter.unusedVariables false
set_option linter.unusedSimpArgs false
set_option maxRecDepth 100000
namespace Go.Proofs.YtkkbbhpbcfcplaaGreat.K
open Go Go.RowKit Go.Proofs
attribute [local irreducible] Run1 OpG WL W AO zC5
theorem qM5 (w : World) {ad : Option Addr} {n c : Nat} : Calls Tryz.prog 161 #[.slice ad n c] w (Ret fun v w' => ∃ bx, v = .func (.func 163) #[] #[.pointer (some ⟨bx, 0, none⟩)] ∧ w.heap.size ≤ bx ∧ w'.heap[bx]? = some (.cells #[.slice ad n c] 22 (0, 0)) ∧ Grow w w') := by
 have G := Grow.rfl' w
 refine zC0 Tryz.func161 Tryz.ntmps161 Tryz.results161 rfl rfl ?_
 refine qZ 2 ?_
 refine stp ?_
 refine qC ?_
 intro b1 w2 hb3 hc4 g5
 have hge6 := Nat.le_trans G.size hb3
 replace G := G.tr g5
 clear g5 hb3
 refine stp ?_
 (first | refine zO4 rfl ?_ | refine qC1 rfl ?_ | refine zM5 rfl ?_ | refine zF6 rfl ?_ | refine zK3 rfl ?_ | refine zP9 rfl ?_ | refine zE7 rfl ?_)
 refine qZ 3 ?_
 refine stp (zT3 (vs := []) (us := [.pointer (some ⟨b1, 0, none⟩)]) rfl rfl ?_)
 refine qO 3 ?_
 exact ret1 (zA1 rfl) ⟨_, rfl, hge6, hc4, G⟩
theorem yA5 (w : World) {bx l n c : Nat} {ad : Option Addr} {T : TypeId} {xs : List Int} (hn : n = xs.length) (I : Nat → World → Prop) (hI : ∀ i w', I i w' → w'.heap[bx]? = some (.cells #[.slice ad n c] T (0, 0)) ∧ RowAt w' 1 ad n (xs.map (.int .u8))) (hy : ∀ i w' (hi : i < n), I i w' → qC0 Tryz.prog l #[.int .i64 ((n : Int) - 1 - i), .int .u8 (xs[n - 1 - i]'(by omega))] w' (fun v w'' => v = .bool true ∧ I (i + 1) w'')) (h0 : I 0 w) : Calls Tryz.prog 163 #[.func (.yield l) #[] #[], .pointer (some ⟨bx, 0, none⟩)] w (Ret fun v w' => I n w') := by
 obtain ⟨hbx, R⟩ := hI 0 w h0
 have ln := R.lim
 refine zC0 Tryz.func163 Tryz.ntmps163 Tryz.results163 rfl rfl ?_
 refine qZ 4 ?_
 refine stp ?_
 (first | (refine zL2 rfl rfl ?_ ?_; (constructor <;> omega)) | refine zQ5 rfl rfl ?_)
 refine qO 3 ?_
 clear R hbx
 refine zG4 (fun m_ e_ w_ => ∃ (k : Nat), m_ = n - k ∧ Fr [(0, .func (.yield l) #[] #[]), (1, .pointer (some ⟨bx, 0, none⟩)), (3, .int .i64 ((n : Int) - 1 - k))] e_ ∧ (k ≤ n) ∧ (I k w_)) _ ⟨0, rfl, zD2 ⟨rfl, rfl, congrArg (Value.int .i64) (by omega), trivial⟩, by omega, h0⟩ ?_
 rintro m_ e_ w1 ⟨k, rfl, ⟨e2, rfl⟩, hk2, HI⟩
 obtain ⟨hbx, R⟩ := hI k _ HI
 refine qO 4 ?_
 refine stp ?_
 refine qC ?_
 refine zA6 ?_
 refine zA3 rfl (fun hge => ?_) (fun hge => ?_)
 ·
  first | replace hge := qT hge | replace hge := qF hge | skip
  have hk3 : k < n := by omega
  obtain ⟨b_, o_, cs_, T_, fr_, rfl, hb_, hx_⟩ := R.at_ (by omega)
  refine qO 9 ?_
  refine stp ?_
  (refine zD4 rfl rfl ?_ ?_ ?_; omega; omega)
  refine stp (zD1 (v := .int .u8 (xs[n - 1 - k]'(by omega))) rfl hb_ (by rw [show o_ + (((n : Int) - 1 - k).toNat) * 1 = o_ + (n - 1 - k) from by omega]; exact zL6 hx_ (by rw [List.getElem?_map, List.getElem?_eq_getElem (by omega)]; rfl)) ?_)
  refine stp (yM5 rfl (qC0.mono ?_ (hy k _ hk3 HI)))
  rintro v_ w2_ ⟨rfl, HI2⟩
  refine stp ?_
  (first | (refine qP7 rfl ?_ ?_; (first | rfl | assumption)) | (refine qJ3 rfl ?_ ?_; (first | rfl | assumption)) | refine zM1 rfl ?_)
  refine zA6 ?_
  refine zJ5 rfl ?_
  refine qO 3 ?_
  refine stp ?_
  (first | (refine zL2 rfl rfl ?_ ?_; (constructor <;> omega)) | refine zQ5 rfl rfl ?_)
  refine qO 2 ?_
  refine ⟨_, ?_, k + 1, rfl, zD2 ⟨rfl, rfl, congrArg (Value.int .i64) (by omega), trivial⟩, by omega, HI2⟩
  omega
 ·
  first | replace hge := qT hge | replace hge := qF hge | skip
  have hk3 : k = n := by omega
  subst hk3
  refine yD3 ?_
  exact jB2 HI
theorem yI9 (w : World) {ad : Option Addr} {n c : Nat} {xs : List Int} (hn : n = xs.length) (hc : n ≤ c) (R : RowAt w 1 ad n (xs.map (.int .u8))) (hx : ∀ x ∈ xs, inR .u8 x) : zC5 Tryz.prog 140 #[.slice ad n c] w (.int .u64 (getP (xs.take 8))) := by
 have ln := R.lim
 have G := Grow.rfl' w
 refine zB1 Tryz.func140 Tryz.ntmps140 Tryz.results140 rfl rfl ?_
 refine qO 6 ?_
 refine stp (zB2 ?_)
 intro b1 w2 hb3 hc4 g5
 refine stn (zC2 (v := .int _ _) rfl rfl (by rfl) hc4 (by rfl) (by rfl) ?_)
 intro w6 hc7 u8
 have g9 := g5.upd u8 hb3
 have hge10 := Nat.le_trans G.size hb3
 replace G := G.tr g9
 clear u8 g5 hb3 hc4
 refine qO 7 ?_
 refine stp ?_
 refine qA2 rfl rfl rfl ?_
 rw [show (if (8 : Int) < (n : Int) then (8 : Int) else (n : Int)) = ((min n 8 : Nat) : Int) from by split <;> omega]
 refine stp ?_
 refine qH9 rfl rfl (by omega) (by omega) ?_
 rw [Int.toNat_natCast]
 have R8 : RowAt w 1 (if c = 0 then ad else ad.map (·.add (0 * 1))) (min n 8) ((xs.take 8).map (Value.int .u8)) := by
  have h := R.sliceH (m := min n 8) hc (by omega) (by omega)
  rwa [Nat.mul_one (min n 8), ← List.map_take, yN1 hn] at h
 generalize (if c = 0 then ad else ad.map (·.add (0 * 1))) = ad8 at R8 ⊢
 have hm8 : min n 8 = (xs.take 8).length := by rw [List.length_take]; omega
 have hx8 : ∀ x ∈ xs.take 8, inR .u8 x := fun x h => hx x (List.mem_of_mem_take h)
 have hl8 : (xs.take 8).length ≤ 8 := by rw [List.length_take]; omega
 generalize xs.take 8 = ys at R8 hm8 hx8 hl8 ⊢
 generalize min n 8 = m at R8 hm8 ⊢
 refine stp ?_
 refine zC8 rfl (qM5 _) ?_
 rintro v_ w5_ ⟨bx, rfl, hbxge, hbx, g5_⟩
 have hq3 := Nat.lt_of_lt_of_le (zC1 hc7) hbxge
 replace hc7 := g5_.heap hc7
 replace G := G.tr g5_
 refine qZ 2 ?_
 refine yE2 rfl rfl ?_
 intro rc hst hpd hps has hbd hsz hge l w6 hl hlp hmk g6 hw6
 have hb3l := zC1 hc7
 have hbxl := zC1 hbx
 replace hc7 := g6.heap hc7
 replace hbx := g6.heap hbx
 have hGs := G.size
 have hb3g := hge10
 replace G := G.tr g6
 generalize hmm : w5_.heap.size = mk at *
 refine Calls.mono (yA5 w6 hm8 (fun k W => W.heap[b1]? = some (.cells #[.int .u64 (getP (ys.drop (m - k)))] 23 (0, 0)) ∧ W.heap[bx]? = some (.cells #[.slice ad8 m c] 22 (0, 0)) ∧ W.heap[l]? = some (.loop rc) ∧ W.heap[mk]? = some (.deferred (some [])) ∧ Grow w W) (fun i w' h => ⟨h.2.1, R8.grow h.2.2.2.2⟩) ?_ ⟨by rw [Nat.sub_zero, hm8, List.drop_length]; exact hc7, hbx, hlp, hmk, G⟩) ?_
 ·rintro i w7 hi ⟨h1, h2, h4, h5, G7⟩
  refine qJ5 (ps := [12, 13]) (vs := [_, _]) (n := 20) h4 hps rfl hsz (by rfl) hge ?_
  rw [has, hbd]
  refine qO 3 ?_
  refine ⟨rc, h4, hst, ?_⟩
  have u1 := zW7 (o' := .loop { rc with state := .busy }) h4
  have h4b := qI0 (o' := .loop { rc with state := .busy }) h4
  have g1 := u1.heap h1 (by omega)
  have g2 := u1.heap h2 (by omega)
  have g5 := u1.heap h5 (by omega)
  have G8 := G7.upd u1 (by omega)
  generalize w7.putObj l (.loop { rc with state := .busy }) = w8 at *
  clear u1 h1 h2 h5
  have hyr := zY4 (ys.drop (m - i)) (fun x hx_ => hx8 x (List.mem_of_mem_drop hx_))
  have hpow := yN2 (show (ys.drop (m - i)).length ≤ 7 from by rw [List.length_drop]; omega)
  have hxi := hx8 (ys[m - 1 - i]'(by omega)) (List.getElem_mem _)
  simp only [inR] at hxi
  refine qZ 3 ?_
  refine stp ?_
  (first | (refine zZ3 (m := 256) rfl rfl (by decide) (by decide) ?_ ?_; (constructor <;> omega)) | refine zS6 (m := 256) rfl rfl (by decide) (by decide) ?_)
  refine qO 1 ?_
  refine stp ?_
  (first | (refine zH8 rfl ?_ ?_; (constructor <;> omega)) | refine zJ2 rfl ?_)
  refine stp ?_
  refine r_or rfl rfl ?_
  rw [jB6 _ _ hyr.1 (by omega) hxi.1 hxi.2]
  refine stn (zC2 (v := .int _ _) rfl rfl (by rfl) g1 (by rfl) (by rfl) ?_)
  intro w9 h1' u9
  refine zA6 ?_
  have h4c := u9.heap h4b (by omega)
  have u2 := zW7 (o' := .loop rc) h4c
  refine ⟨_, h4c, ?_⟩
  rw [qN3 hst hpd]
  refine ⟨rfl, ?_, u2.heap (u9.heap g2 (by omega)) (by omega), qI0 h4c, u2.heap (u9.heap g5 (by omega)) (by omega), (G8.upd u9 (by omega)).upd u2 (by omega)⟩
  rw [qU2 hm8 hi]
  exact u2.heap h1' (by omega)
 ·rintro r_ w7 ⟨v_, rfl, h1, h2, h4, h5, G7⟩
  refine ⟨_, rc, rfl, h4, by rw [hst]; simp, ?_⟩
  simp only [hpd]
  have u1 := zW7 (o' := .loop { rc with state := .exhausted, pending := none }) h4
  have g1 := u1.heap h1 (by omega)
  have g5 := u1.heap h5 (by omega)
  clear G
  have G := G7.upd u1 (by omega)
  generalize w7.putObj l _ = w8 at *
  clear u1 h1 h2 h5
  refine qO 6 ?_
  refine retM (vs := [_]) ⟨mk, _, rfl, run_takeDeferred g5, rfl⟩ ⟨rfl, trivial⟩ ⟨?_, G.upd (zW7 g5) (by omega)⟩
  rw [Nat.sub_self]; rfl
theorem yA6 (w : World) {ad : Option Addr} {n c : Nat} {xs : List Value} (hc : n ≤ c) (hc2 : c ≤ maxLen) (R : RowAt w 1 ad n xs) (h1 : ∀ q ∈ xs, q.oneCell' = true) (hb : n ≤ 17592186044416) : Calls Tryz.prog 138 #[.slice ad n c] w (Ret fun v w' => w'.ownsRow w.heap.size 23 1 v n xs ∧ Grow w w') := by
 have G := Grow.rfl' w
 refine zC0 Tryz.func138 Tryz.ntmps138 Tryz.results138 rfl rfl ?_
 refine qO 8 ?_
 refine stp (qP9 rfl rfl ?_)
 refine zA6 ?_
 cases ad with
 | none =>
  refine zM3 rfl ?_
  refine qO 5 ?_
  have hn : n = 0 := by
   rcases Nat.eq_zero_or_pos n with h | h
   ·exact h
   ·obtain ⟨b, o, cs, T, fr, h2, _⟩ := R.at_ h; cases h2
  subst hn
  have hx : xs = [] := List.eq_nil_of_length_eq_zero (by simpa using R.len)
  subst hx
  exact ret1 (zA1 rfl) ⟨World.ownsRow_nil _ _ _ _, G⟩
 | some ad =>
  refine zJ5 rfl ?_
  refine qZ 3 ?_
  refine stp (zB4 (cs := #[]) (el := 23) (fun w => by kernel_rfl) ?_)
  intro bs w5 hbs hcs g5
  have G5 := G.tr g5
  have own0 := yE3 (base := w.heap.size) (sz := 1) hcs (by have := G.size; omega)
  refine qO 1 ?_
  refine stp (zH1 rfl rfl rfl rfl own0 ⟨_, c, rfl, hc, hc2, R.grow G5⟩ h1 (by simp only [maxLen]; omega) (by omega) G5.size ?_)
  intro v6 w6 own6 gr6
  have G6 := G5.grown gr6 (zJ7 own0)
  rw [Nat.zero_add, List.nil_append] at own6
  refine qO 3 ?_
  exact ret1 (zA1 rfl) ⟨own6, G6⟩
theorem yA7 (w : World) {ad : Option Addr} {n c : Nat} : Calls Tryz.prog 139 #[.slice ad n c, .int .i64 8] w (Ret fun v w' => ∃ b1 b2, v = .func (.func 160) #[] #[.pointer (some ⟨b1, 0, none⟩), .pointer (some ⟨b2, 0, none⟩)] ∧ w.heap.size ≤ b1 ∧ w.heap.size ≤ b2 ∧ w'.heap[b1]? = some (.cells #[.slice ad n c] 22 (0, 0)) ∧ w'.heap[b2]? = some (.cells #[.int .i64 8] 3 (0, 0)) ∧ Grow w w') := by
 have G := Grow.rfl' w
 refine zC0 Tryz.func139 Tryz.ntmps139 Tryz.results139 rfl rfl ?_
 refine qZ 2 ?_
 refine stp ?_
 refine qC ?_
 intro b1 w2 hb3 hc4 g5
 have hge6 := Nat.le_trans G.size hb3
 replace G := G.tr g5
 clear g5 hb3
 refine stp ?_
 refine qC ?_
 intro b7 w8 hb9 hc10 g11
 have hge12 := Nat.le_trans G.size hb9
 replace hc4 := g11.heap hc4
 replace G := G.tr g11
 clear g11 hb9
 refine stp ?_
 (first | refine zO4 rfl ?_ | refine qC1 rfl ?_ | refine zM5 rfl ?_ | refine zF6 rfl ?_ | refine zK3 rfl ?_ | refine zP9 rfl ?_ | refine zE7 rfl ?_)
 refine qZ 5 ?_
 refine stp ?_
 refine qC ?_
 refine zA6 ?_
 refine zJ5 rfl ?_
 refine qZ 3 ?_
 refine stp (zT3 (vs := []) (us := [.pointer (some ⟨b1, 0, none⟩), .pointer (some ⟨b7, 0, none⟩)]) rfl rfl ?_)
 refine qO 3 ?_
 exact ret1 (zA1 rfl) ⟨_, _, rfl, hge6, hge12, hc4, hc10, G⟩
theorem qW1 (w : World) {b1 b2 l n c : Nat} {ad : Option Addr} {T T2 : TypeId} (hnc : n ≤ c) (hn : n ≤ 140737488355328) (I : Nat → World → Prop) (hI : ∀ i w', I i w' → w'.heap[b1]? = some (.cells #[.slice ad n c] T (0, 0)) ∧ w'.heap[b2]? = some (.cells #[.int .i64 8] T2 (0, 0))) (hgr : ∀ i w' w'', Grow w' w'' → I i w' → I i w'') (hy : ∀ j w', 8 * j < n → I j w' → qC0 Tryz.prog l #[.slice (if 8 * j + zH5 n j = 8 * j then ad else ad.map (·.add (8 * j * 1))) (zH5 n j) (zH5 n j)] w' (fun v w'' => v = .bool true ∧ I (j + 1) w'')) (h0 : I 0 w) : Calls Tryz.prog 160 #[.func (.yield l) #[] #[], .pointer (some ⟨b1, 0, none⟩), .pointer (some ⟨b2, 0, none⟩)] w (Ret fun v w' => I ((n + 7) / 8) w') := by
 refine zC0 Tryz.func160 Tryz.ntmps160 Tryz.results160 rfl rfl ?_
 refine qO 5 ?_
 refine zG4 (fun m_ e_ w_ => ∃ (k : Nat), m_ = n + 8 - 8 * k ∧ Fr [(0, .func (.yield l) #[] #[]), (1, .pointer (some ⟨b1, 0, none⟩)), (2, .pointer (some ⟨b2, 0, none⟩)), (4, .int .i64 ((8 * k : Nat) : Int))] e_ ∧ (8 * k < n + 8) ∧ (I k w_)) _ ⟨0, rfl, zD2 ⟨rfl, rfl, rfl, rfl, trivial⟩, by omega, h0⟩ ?_
 rintro m_ e_ w1 ⟨k, rfl, ⟨e2, rfl⟩, hk2, HI⟩
 obtain ⟨hb1, hb2⟩ := hI k _ HI
 refine qO 6 ?_
 refine stp ?_
 refine qC ?_
 refine zA6 ?_
 refine zA3 rfl (fun hlt => ?_) (fun hlt => ?_)
 ·
  first | replace hlt := qT hlt | replace hlt := qF hlt | skip
  have hk3 : 8 * k < n := by omega
  have hmin : (if (n : Int) - (8 * k : Nat) < 8 then (n : Int) - (8 * k : Nat) else 8) = (zH5 n k : Nat) := by unfold zH5; split <;> omega
  have hck : zH5 n k ≤ n - 8 * k := by unfold zH5; omega
  refine qZ 4 ?_
  refine zK0 7 [[], [], [], [1, 0], [2, 1, 0], [4, 3, 2, 1, 0], [5, 4, 3, 2, 1, 0]] mixed (by kernel_rfl) (by kernel_rfl) (by kernel_rfl) ?_
  intro w3 g4
  replace HI := hgr _ _ _ g4 HI
  replace HI := HI
  replace hb1 := g4.heap hb1
  replace hb2 := g4.heap hb2
  clear g4
  refine qA 3 ?_
  apply zA5
  ·intro w_ g_
   refine og rfl ?_
   refine qP8 rfl rfl (by omega) (by omega) ?_
   exact qX
  apply zA5
  ·intro w_ g_
   refine og rfl ?_
   refine qA1 rfl rfl rfl ?_
   exact qX
  apply zA5
  ·intro w_ g_
   refine og rfl ?_
   refine qA2 rfl rfl rfl ?_
   rw [show (if ((n - ((8 * k : Nat) : Int).toNat : Nat) : Int) < 8 then ((n - ((8 * k : Nat) : Int).toNat : Nat) : Int) else 8) = (zH5 n k : Nat) from by unfold zH5; split <;> omega]
   exact qX
  refine qA 1 ?_
  refine zG5 ?_
  intro w5 g6
  replace HI := hgr _ _ _ g6 HI
  replace HI := HI
  replace hb1 := g6.heap hb1
  replace hb2 := g6.heap hb2
  clear g6
  refine qO 8 ?_
  refine stp ?_
  (first | (refine zC3 rfl rfl ?_ ?_; (constructor <;> omega)) | refine zF7 rfl rfl ?_)
  refine qO 2 ?_
  refine stp ?_
  (first | (refine zC3 rfl rfl ?_ ?_; (constructor <;> omega)) | refine zF7 rfl rfl ?_)
  refine stp ?_
  refine yR9 rfl rfl rfl rfl (by omega) (by omega) (by omega) (by omega) ?_
  rw [show ((((8 * k : Nat) : Int) + (zH5 n k : Nat)).toNat) = 8 * k + zH5 n k from by omega, Int.toNat_natCast, show 8 * k + zH5 n k - 8 * k = zH5 n k from by omega]
  refine stp (yM5 rfl (qC0.mono ?_ (hy k _ hk3 HI)))
  rintro v_ w2_ ⟨rfl, HI2⟩
  refine stp ?_
  (first | (refine qP7 rfl ?_ ?_; (first | rfl | assumption)) | (refine qJ3 rfl ?_ ?_; (first | rfl | assumption)) | refine zM1 rfl ?_)
  refine zA6 ?_
  refine zJ5 rfl ?_
  obtain ⟨hb1b, hb2b⟩ := hI (k + 1) _ HI2
  refine qO 4 ?_
  refine stp ?_
  (first | (refine zC3 rfl rfl ?_ ?_; (constructor <;> omega)) | refine zF7 rfl rfl ?_)
  refine qO 2 ?_
  refine ⟨_, ?_, k + 1, rfl, zD2 ⟨rfl, rfl, rfl, congrArg (Value.int .i64) (by omega), trivial⟩, by omega, HI2⟩
  omega
 ·
  first | replace hlt := qT hlt | replace hlt := qF hlt | skip
  have hk3 : (n + 7) / 8 = k := by omega
  rw [hk3]
  refine yD3 ?_
  exact jB2 HI
theorem qR6 (w : World) {c : List Value} {t : Nd} (T : NodeR w c t) (hw4 : t.words.length ≤ 4096) (hb4 : t.bytes.length ≤ 4096) (hk4 : t.kids.length ≤ 4096) : Calls Tryz.prog 115 #[.agg c.toArray] w (Ret fun v w' => w'.ownsRow w.heap.size 23 1 v t.content.length (t.content.map (.int .u64)) ∧ Grow w w') := by
 obtain @⟨kind, size, words, bytes, kids, ws, bs, ks, kc, hk, hs, hW, hwr, hB, hbr, hK, hKs⟩ := T
 obtain ⟨aw, cw, rfl, hcw, hcw2, RW⟩ := hW
 obtain ⟨ab, cb, rfl, hcb, hcb2, RB⟩ := hB
 obtain ⟨ak, ck, rfl, hck, hck2, RK⟩ := hK
 have lw := RW.lim
 have lb := RB.lim
 have lk := RK.lim
 simp only [inR] at hk hs
 simp only [Nd.words, Nd.bytes, Nd.kids] at hw4 hb4 hk4
 have G := Grow.rfl' w
 refine zC0 Tryz.func115 Tryz.ntmps115 Tryz.results115 rfl rfl ?_
 refine qZ 2 ?_
 refine stp ?_
 refine qC ?_
 intro b1 w2 hb3 hc4 g5
 have hge6 := Nat.le_trans G.size hb3
 replace G := G.tr g5
 clear g5 hb3
 refine qO 6 ?_
 refine stp ?_
 refine zC8 rfl (yA6 _ hcw hcw2 (RW.grow G) (fun q hq => by obtain ⟨z, _, rfl⟩ := List.mem_map.1 hq; rfl) (by omega)) ?_
 rintro vc w5_ ⟨own0, g5_⟩
 have own1 := qC7 own0 G.size
 clear own0
 replace hc4 := g5_.heap hc4
 replace G := G.tr g5_
 refine stp (zB2 ?_)
 intro b7 w8 hb9 hc10 g11
 refine stn (zC2 (v := vc) rfl rfl (qQ0 own1) hc10 (by rfl) (by rfl) ?_)
 intro w7_ hs u7_
 have g7_ := g11.upd u7_ hb9
 replace own1 := zB8 own1 g7_
 have hge12 := Nat.le_trans G.size hb9
 have ne13 := qN hc4 hb9
 replace hc4 := g7_.heap hc4
 replace G := G.tr g7_
 clear u7_ g11 hb9 hc10
 refine qZ 6 ?_
 refine stp ?_
 refine zC8 rfl (yA7 _) ?_
 rintro v_ w6_ ⟨q1, q2, rfl, hq1, hq2, hc1, hc2, g6_⟩
 have hlt1 := zC1 hc4
 have hlt3 := zC1 hs
 replace hc4 := g6_.heap hc4
 replace own1 := zB8 own1 g6_
 replace hs := g6_.heap hs
 replace G := G.tr g6_
 refine qZ 2 ?_
 refine yE2 rfl rfl ?_
 intro rc hst hpd hps has hbd hsz hge l w6 hl hlp hmk g6 hw6
 have lt_hc4 := zC1 hc4
 skip
 have lt_hs := zC1 hs
 have lt_hc1 := zC1 hc1
 have lt_hc2 := zC1 hc2
 replace hc4 := g6.heap hc4
 replace own1 := zB8 own1 g6
 replace hs := g6.heap hs
 replace hc1 := g6.heap hc1
 replace hc2 := g6.heap hc2
 have hGs := G.size
 have hg1 := hge6
 have hg3 := hge12
 replace G := G.tr g6
 generalize hmm : w6_.heap.size = mk at *
 refine Calls.mono (qW1 w6 (l := l) hcb lb (fun j W => (∃ v, W.heap[b7]? = some (.cells #[v] 37 (0, 0)) ∧ W.ownsRow w.heap.size 23 1 v (words.length + j) ((words ++ (List.range j).map (zL5 bytes)).map (.int .u64))) ∧ W.heap[b1]? = some (.cells #[.int .i64 kind, .int .i64 size, .slice aw words.length cw, .slice ab bytes.length cb, .slice ak kids.length ck] 48 (0, 0)) ∧ W.heap[q1]? = some (.cells #[.slice ab bytes.length cb] 22 (0, 0)) ∧ W.heap[q2]? = some (.cells #[.int .i64 8] 3 (0, 0)) ∧ W.heap[l]? = some (.loop rc) ∧ W.heap[mk]? = some (.deferred (some [])) ∧ Grow w W) (fun i w' h => ⟨h.2.2.1, h.2.2.2.1⟩) (fun i w' w'' g ⟨⟨v, h1, h2⟩, h3, h4, h5, h6, h7, h8⟩ => ⟨⟨v, g.heap h1, zB8 h2 g⟩, g.heap h3, g.heap h4, g.heap h5, g.heap h6, g.heap h7, h8.tr g⟩) ?_ ⟨⟨_, hs, by simpa using own1⟩, hc4, hc1, hc2, hlp, hmk, G⟩) ?_
 ·rintro j w7 hj ⟨⟨vc2, h1, own2⟩, h3, h4, h5, h6, h7, G7⟩
  refine qJ5 (ps := [11]) (vs := [_]) (n := 22) h6 hps rfl hsz (by rfl) hge ?_
  rw [has, hbd]
  refine qO 3 ?_
  refine ⟨rc, h6, hst, ?_⟩
  have u1 := zW7 (o' := .loop { rc with state := .busy }) h6
  have k6 := qI0 (o' := .loop { rc with state := .busy }) h6
  have k1 := u1.heap h1 (by omega)
  have k2 := zF1 own2 u1 (zV0 own2 h6)
  have k3 := u1.heap h3 (by omega)
  have k4 := u1.heap h4 (by omega)
  have k5 := u1.heap h5 (by omega)
  have k7 := u1.heap h7 (by omega)
  have G8 := G7.upd u1 (by omega)
  generalize w7.putObj l (.loop { rc with state := .busy }) = w8 at *
  clear u1 h1 own2 h3 h4 h5 h7
  have hcn : zH5 bytes.length j ≤ 8 := by unfold zH5; omega
  have Rj : RowAt w8 1 (if 8 * j + zH5 bytes.length j = 8 * j then ab else ab.map (·.add (8 * j * 1))) (zH5 bytes.length j) (((bytes.drop (8 * j)).take 8).map (.int .u8)) := by
   have h := (RB.grow G8).chunk (l := 8 * j) (m := zH5 bytes.length j) (by unfold zH5; omega)
   rwa [← List.map_drop, ← List.map_take, qN5] at h
  have hlenj : zH5 bytes.length j = ((bytes.drop (8 * j)).take 8).length := by rw [List.length_take, List.length_drop, zH5]
  have hxj : ∀ x ∈ (bytes.drop (8 * j)).take 8, inR .u8 x := fun x hx_ => hbr x (List.mem_of_mem_drop (List.mem_of_mem_take hx_))
  refine qY7 ?_
  refine zK0 4 [[], [], [0], [1, 0]] mixed (by kernel_rfl) (by kernel_rfl) (by kernel_rfl) ?_
  intro w14 g15
  replace k1 := g15.heap k1
  replace k3 := g15.heap k3
  replace k4 := g15.heap k4
  replace k5 := g15.heap k5
  replace k6 := g15.heap k6
  replace k7 := g15.heap k7
  replace k2 := zB8 k2 g15
  replace G8 := G8.tr g15
  replace Rj := Rj.grow g15
  clear g15
  apply zA5
  ·intro w_ g_
   refine og rfl ?_
   refine zD1 rfl (Grow.heap g_ k1) (by rfl) ?_
   exact qX
  refine qA 1 ?_
  apply zA5
  ·intro w_ g_; refine og rfl ?_; refine zA2 rfl (zK6 (yI9 _ hlenj (Nat.le_refl _) (Rj.grow g_) hxj) (y := .int .u64 (zL5 bytes j)) (by rw [List.take_take]; rfl)) ?_; intro w2_ g2_; exact ⟨g2_, rfl⟩
  refine zS5 (fun w_ v => ∃ b, v = .slice (some ⟨b, 0, none⟩) 1 1 ∧ w_.heap[b]? = some (.cells #[.int .u64 (zL5 bytes j)] 23 (0, 0))) (fun _ _ _ g ⟨b, hv, hb⟩ => ⟨b, hv, g.heap hb⟩) ?_ ?_
  ·intro w_ g_
   refine og rfl ?_
   refine zB4 (cs := #[.int .u64 (zL5 bytes j)]) (el := 23) (fun w => by kernel_rfl) ?_
   intro b w2_ _ hb g2_
   exact ⟨g2_, b, rfl, hb⟩
  refine zG5 ?_
  intro w16 g17
  replace k1 := g17.heap k1
  replace k3 := g17.heap k3
  replace k4 := g17.heap k4
  replace k5 := g17.heap k5
  replace k6 := g17.heap k6
  replace k7 := g17.heap k7
  replace k2 := zB8 k2 g17
  replace G8 := G8.tr g17
  replace Rj := Rj.grow g17
  clear g17
  intro v_ hv_
  refine stp ?_
  obtain ⟨bq, rfl, hq⟩ := hv_
  refine zH1 rfl rfl rfl rfl k2 (Row.of_block (n := 1) hq rfl rfl (by omega)) (fun q hq_ => by simp at hq_; subst hq_; rfl) (by simp only [maxLen]; omega) (by omega) G8.size ?_
  intro v9 w9 own9 gr9
  have G9 := G8.grown gr9 (zJ7 k2)
  have m1 := zG7 gr9 k1 (zD3 k2 k1 (by decide))
  have m3 := zG7 gr9 k3 (zD3 k2 k3 (by decide))
  have m4 := zG7 gr9 k4 (zD3 k2 k4 (by decide))
  have m5 := zG7 gr9 k5 (zD3 k2 k5 (by decide))
  have m6 := zG7 gr9 k6 (zV0 k2 k6)
  have m7 := zG7 gr9 k7 (qE6 k2 k7)
  refine stn (zC2 (v := v9) rfl rfl (qQ0 own9) m1 (by rfl) (by rfl) ?_)
  intro w10 n1 u10
  refine zA6 ?_
  have n6 := u10.heap m6 (by omega)
  have u2 := zW7 (o' := .loop rc) n6
  refine ⟨_, n6, ?_⟩
  rw [qN3 hst hpd]
  have own10 := zF1 (zF1 own9 u10 (zD3 own9 m1 (by decide))) u2 (zV0 (zF1 own9 u10 (zD3 own9 m1 (by decide))) n6)
  refine ⟨rfl, ⟨_, u2.heap n1 (by omega), ?_⟩, u2.heap (u10.heap m3 (by omega)) (by omega), u2.heap (u10.heap m4 (by omega)) (by omega), u2.heap (u10.heap m5 (by omega)) (by omega), qI0 n6, u2.heap (u10.heap m7 (by omega)) (by omega), (G9.upd u10 (by omega)).upd u2 (by omega)⟩
  have e3 : (words ++ (List.range (j + 1)).map (zL5 bytes)).map (Value.int .u64) = (words ++ (List.range j).map (zL5 bytes)).map (Value.int .u64) ++ [.int .u64 (zL5 bytes j)] := by simp [List.range_succ]
  rw [e3, ← Nat.add_assoc]
  exact own10
 ·rintro r_ w7 ⟨v_, rfl, ⟨vc2, h1, own2⟩, h3, h4, h5, h6, h7, G7⟩
  refine ⟨_, rc, rfl, h6, by rw [hst]; simp, ?_⟩
  simp only [hpd]
  have u1 := zW7 (o' := .loop { rc with state := .exhausted, pending := none }) h6
  have k1 := u1.heap h1 (by omega)
  have k3 := u1.heap h3 (by omega)
  have k7 := u1.heap h7 (by omega)
  have k2 := zF1 own2 u1 (zV0 own2 h6)
  clear G
  have G := G7.upd u1 (by omega)
  generalize w7.putObj l _ = w8 at *
  clear u1 h1 h3 own2
  refine qZ 6 ?_
  refine stp (qT8 (z := .int .u64 0) (by_ := 8) rfl rfl rfl rfl (by rfl) (by rfl) k2 (by omega) (by omega) G.size ?_)
  intro v9 w9 own9 gr9
  have G9 := G.grown gr9 (zJ7 k2)
  have m7 := zG7 gr9 k7 (qE6 k2 k7)
  refine qO 3 ?_
  have u2 := zW7 (o' := .deferred none) m7
  refine retM (vs := [_]) ⟨mk, _, rfl, run_takeDeferred m7, rfl⟩ ⟨rfl, trivial⟩ ⟨?_, G9.upd u2 (by omega)⟩
  have own10 := zF1 own9 u2 (qE6 own9 m7)
  have e1 : (Nd.mk kind size words bytes kids).content.length = words.length + (bytes.length + 7) / 8 + kids.length := by simp only [Nd.content, zF3, List.length_append, List.length_map, List.length_range, List.length_replicate]
  have e2 : (Nd.mk kind size words bytes kids).content.map (Value.int .u64) = (words ++ (List.range ((bytes.length + 7) / 8)).map (zL5 bytes)).map (Value.int .u64) ++ List.replicate kids.length (.int .u64 0) := by simp [Nd.content, zF3]
  rw [e1, e2]
  exact own10
theorem zU0 (w : World) {c : List Value} {t : Nd} (T : NodeR w c t) (off : Int) : zC5 Tryz.prog 112 #[.agg c.toArray, .int .i64 off] w (.int .u64 (t.near off)) := by
 obtain @⟨kind, size, words, bytes, kids, ws, bs, ks, kc, hk, hs, hW, hwr, hB, hbr, hK, hKs⟩ := T
 obtain ⟨aw, cw, rfl, hcw, hcw2, RW⟩ := hW
 obtain ⟨ab, cb, rfl, hcb, hcb2, RB⟩ := hB
 obtain ⟨ak, ck, rfl, hck, hck2, RK⟩ := hK
 have lw := RW.lim
 have lb := RB.lim
 have lk := RK.lim
 simp only [inR] at hk hs
 have G := Grow.rfl' w
 refine zB1 Tryz.func112 Tryz.ntmps112 Tryz.results112 rfl rfl ?_
 refine qZ 2 ?_
 refine stp ?_
 refine qC ?_
 intro b1 w2 hb3 hc4 g5
 have hge6 := Nat.le_trans G.size hb3
 replace G := G.tr g5
 clear g5 hb3
 refine qO 7 ?_
 refine stp (zA7 (v := .agg #[.int .i64 (kind), .int .i64 (off), .int .i64 (0), .int .i64 (0), .int .i64 (0), .int .i64 (0), .int .i64 (0), .bool false]) (fun w => by kernel_rfl) ?_)
 refine stp (zB2 ?_)
 intro b7 w8 hb9 hc10 g11
 refine stn (qS hc10 ?_)
 intro w12 hc13 u14
 have g15 := g11.upd u14 hb9
 have hge16 := Nat.le_trans G.size hb9
 have ne17 := qN hc4 hb9
 replace hc4 := g15.heap hc4
 replace G := G.tr g15
 clear u14 g11 hb9 hc10
 refine qZ 10 ?_
 refine stp ?_
 refine qC ?_
 refine qO 2 ?_
 refine zA3 rfl (fun k1 => ?_) (fun k1 => ?_)
 ·
  first | replace k1 := qT k1 | replace k1 := qF k1 | skip
  refine qC8 10 [[], [0], [1, 0], [], [0], [1, 0], [5, 4, 3], [6, 5, 4, 0], [7, 6, 5, 4, 3, 2, 1, 0], [8, 7, 6, 5, 4, 3, 2, 1, 0]] [7, 9] [b7] (fun k_ w_ => match k_ with | 0 => w_.heap[b7]? = some (.cells #[.int .i64 (kind), .int .i64 (off), .int .i64 (0), .int .i64 (0), .int .i64 (0), .int .i64 (0), .int .i64 (0), .bool false] 70 (0, 0)) | 1 => w_.heap[b7]? = some (.cells #[.int .i64 (kind), .int .i64 (off), .int .i64 ((words.length : Int)), .int .i64 (0), .int .i64 (0), .int .i64 (0), .int .i64 (0), .bool false] 70 (0, 0)) | _ => w_.heap[b7]? = some (.cells #[.int .i64 (kind), .int .i64 (off), .int .i64 ((words.length : Int)), .int .i64 ((kids.length : Int)), .int .i64 (0), .int .i64 (0), .int .i64 (0), .bool false] 70 (0, 0))) mixed (by kernel_rfl) (by kernel_rfl) (by kernel_rfl) (by kernel_rfl) (fun k_ w_ w2_ g_ h_ => match k_, h_ with | 0, h_ => g_.heap h_ | 1, h_ => g_.heap h_ | n_ + 2, h_ => g_.heap h_) (fun w_ g_ => g_.heap hc13) ?_
  intro w18 g19
  replace hc4 := g19.heap hc4
  replace hc13 := g19.heap hc13
  replace G := G.tr g19
  clear g19
  refine qM 1 ?_
  apply zE0 (hm := by rfl)
  ·intro w_ g_; refine og rfl ?_; refine zD1 rfl (by exact g_.heap (by assumption) (by simp; omega)) (by rfl) ?_; exact qX
  refine qM 2 ?_
  apply zE0 (hm := by rfl)
  ·intro w_ g_; refine og rfl ?_; refine zD1 rfl (by exact g_.heap (by assumption) (by simp; omega)) (by rfl) ?_; exact qX
  refine qM 2 ?_
  apply zS8 0 (hm := by rfl)
  ·intro w_ g_ s_
   refine og rfl ?_
   refine zC2 (v := .int .i64 ((words.length : Int))) rfl rfl (by rfl) s_ (by rfl) (by rfl) ?_
   intro w2_ s2_ u_
   exact ⟨Kp.of_upd u_ (by simp), s2_, rfl⟩
  refine qM 1 ?_
  apply zS8 1 (hm := by rfl)
  ·intro w_ g_ s_
   refine og rfl ?_
   refine zC2 (v := .int .i64 ((kids.length : Int))) rfl rfl (by rfl) s_ (by rfl) (by rfl) ?_
   intro w2_ s2_ u_
   exact ⟨Kp.of_upd u_ (by simp), s2_, rfl⟩
  refine zV1 ?_
  intro w20 g21 S_
  clear hc13
  replace hc4 := g21.heap hc4 (by simp; omega)
  replace G := G.trK g21 (fun x hx => by simp at hx; subst hx; exact hge16)
  clear g21
  refine qZ 4 ?_
  refine stp (zA2 rfl (zP3 _ ⟨kind, off, (words.length : Int), (kids.length : Int), 0, 0, 0, false⟩) ?_)
  intro w22 g23
  replace hc4 := g23.heap hc4
  replace S_ := g23.heap S_
  replace G := G.tr g23
  clear g23
  refine qO 1 ?_
  refine stp (zB3 rfl rfl ?_)
  refine stp (zB3 rfl rfl ?_)
  refine qO 9 ?_
  refine ret1 (zA9 rfl) ⟨?_, G⟩
  simp [Nd.near, Nd.ptr, k1]
 ·
  first | replace k1 := qT k1 | replace k1 := qF k1 | skip
  refine qZ 2 ?_
  refine stp ?_
  refine qC ?_
  refine qO 2 ?_
  refine zA3 rfl (fun k2 => ?_) (fun k2 => ?_)
  ·
   first | replace k2 := qT k2 | replace k2 := qF k2 | skip
   refine qC8 17 [[], [0], [], [0], [1, 0], [], [0], [1, 0], [5, 4, 3, 2, 1, 0], [], [0], [1, 0], [9, 8, 7, 6, 5, 4, 3, 2, 1, 0], [12, 11], [13, 12, 0], [14, 13, 12, 11, 10, 9, 8, 7, 6, 5, 4, 3, 2, 1, 0], [15, 14, 13, 12, 11, 10, 9, 8, 7, 6, 5, 4, 3, 2, 1, 0]] [14, 16] [b7] (fun k_ w_ => match k_ with | 0 => w_.heap[b7]? = some (.cells #[.int .i64 (kind), .int .i64 (off), .int .i64 (0), .int .i64 (0), .int .i64 (0), .int .i64 (0), .int .i64 (0), .bool false] 70 (0, 0)) | 1 => w_.heap[b7]? = some (.cells #[.int .i64 (kind), .int .i64 (off), .int .i64 (0), .int .i64 (0), .int .i64 (size), .int .i64 (0), .int .i64 (0), .bool false] 70 (0, 0)) | _ => w_.heap[b7]? = some (.cells #[.int .i64 (kind), .int .i64 (off), .int .i64 (0), .int .i64 (0), .int .i64 (size), .int .i64 (((words.length : Int) + kids.length + bytes.length)), .int .i64 (0), .bool false] 70 (0, 0))) mixed (by kernel_rfl) (by kernel_rfl) (by kernel_rfl) (by kernel_rfl) (fun k_ w_ w2_ g_ h_ => match k_, h_ with | 0, h_ => g_.heap h_ | 1, h_ => g_.heap h_ | n_ + 2, h_ => g_.heap h_) (fun w_ g_ => g_.heap hc13) ?_
   intro w24 g25
   replace hc4 := g25.heap hc4
   replace hc13 := g25.heap hc13
   replace G := G.tr g25
   clear g25
   refine qM 1 ?_
   apply zE0 (hm := by rfl)
   ·intro w_ g_; refine og rfl ?_; refine zD1 rfl (by exact g_.heap (by assumption) (by simp; omega)) (by rfl) ?_; exact qX
   refine qM 1 ?_
   apply zE0 (hm := by rfl)
   ·intro w_ g_; refine og rfl ?_; refine zD1 rfl (by exact g_.heap (by assumption) (by simp; omega)) (by rfl) ?_; exact qX
   refine qM 2 ?_
   apply zE0 (hm := by rfl)
   ·intro w_ g_; refine og rfl ?_; refine zD1 rfl (by exact g_.heap (by assumption) (by simp; omega)) (by rfl) ?_; exact qX
   refine qM 1 ?_
   apply zE0 (hm := by rfl)
   ·intro w_ g_; refine og rfl ?_; (first | (refine zC3 rfl rfl ?_ ?_; (constructor <;> omega)) | refine zF7 rfl rfl ?_); exact qX
   refine qM 1 ?_
   apply zE0 (hm := by rfl)
   ·intro w_ g_; refine og rfl ?_; refine zD1 rfl (by exact g_.heap (by assumption) (by simp; omega)) (by rfl) ?_; exact qX
   refine qM 1 ?_
   apply zE0 (hm := by rfl)
   ·intro w_ g_; refine og rfl ?_; (first | (refine zC3 rfl rfl ?_ ?_; (constructor <;> omega)) | refine zF7 rfl rfl ?_); exact qX
   refine qM 1 ?_
   apply zS8 0 (hm := by rfl)
   ·intro w_ g_ s_
    refine og rfl ?_
    refine zC2 (v := .int .i64 (size)) rfl rfl (by rfl) s_ (by rfl) (by rfl) ?_
    intro w2_ s2_ u_
    exact ⟨Kp.of_upd u_ (by simp), s2_, rfl⟩
   refine qM 1 ?_
   apply zS8 1 (hm := by rfl)
   ·intro w_ g_ s_
    refine og rfl ?_
    refine zC2 (v := .int .i64 (((words.length : Int) + kids.length + bytes.length))) rfl rfl (by rfl) s_ (by rfl) (by rfl) ?_
    intro w2_ s2_ u_
    exact ⟨Kp.of_upd u_ (by simp), s2_, rfl⟩
   refine zV1 ?_
   intro w26 g27 S_
   clear hc13
   replace hc4 := g27.heap hc4 (by simp; omega)
   replace G := G.trK g27 (fun x hx => by simp at hx; subst hx; exact hge16)
   clear g27
   refine qZ 4 ?_
   refine stp (zA2 rfl (zP3 _ ⟨kind, off, 0, 0, size, ((words.length : Int) + kids.length + bytes.length), 0, false⟩) ?_)
   intro w28 g29
   replace hc4 := g29.heap hc4
   replace S_ := g29.heap S_
   replace G := G.tr g29
   clear g29
   refine qO 1 ?_
   refine stp (zB3 rfl rfl ?_)
   refine stp (zB3 rfl rfl ?_)
   refine qO 9 ?_
   refine ret1 (zA9 rfl) ⟨?_, G⟩
   simp [Nd.near, Nd.ptr, k1, k2]
  ·
   first | replace k2 := qT k2 | replace k2 := qF k2 | skip
   refine qZ 4 ?_
   refine stp (zA2 rfl (zP3 _ ⟨kind, off, 0, 0, 0, 0, 0, false⟩) ?_)
   intro w30 g31
   replace hc4 := g31.heap hc4
   replace hc13 := g31.heap hc13
   replace G := G.tr g31
   clear g31
   refine qO 1 ?_
   refine stp (zB3 rfl rfl ?_)
   refine stp (zB3 rfl rfl ?_)
   refine qO 9 ?_
   refine ret1 (zA9 rfl) ⟨?_, G⟩
   simp [Nd.near, Nd.ptr, k1, k2]
theorem zR3 (w : World) {c : List Value} {t : Nd} (T : NodeR w c t) (off : Int) (hk12 : t.kind = 1 ∨ t.kind = 2) : zC5 Tryz.prog 76 #[.agg c.toArray, .int .i64 off] w (.int .u64 (t.near off)) := by
 obtain @⟨kind, size, words, bytes, kids, ws, bs, ks, kc, hk, hs, hW, hwr, hB, hbr, hK, hKs⟩ := T
 obtain ⟨aw, cw, rfl, hcw, hcw2, RW⟩ := hW
 obtain ⟨ab, cb, rfl, hcb, hcb2, RB⟩ := hB
 obtain ⟨ak, ck, rfl, hck, hck2, RK⟩ := hK
 have lw := RW.lim
 have lb := RB.lim
 have lk := RK.lim
 simp only [inR] at hk hs
 simp only [Nd.kind] at hk12
 have G := Grow.rfl' w
 refine zB1 Tryz.func76 Tryz.ntmps76 Tryz.results76 rfl rfl ?_
 refine qZ 2 ?_
 refine stp ?_
 refine qC ?_
 intro b1 w2 hb3 hc4 g5
 have hge6 := Nat.le_trans G.size hb3
 replace G := G.tr g5
 clear g5 hb3
 refine qO 13 ?_
 refine stp (zA7 (v := .agg #[.int .i64 (kind), .int .i64 (off), .int .i64 ((words.length : Int)), .int .i64 ((kids.length : Int)), .int .i64 (0), .int .i64 (0), .int .i64 (0), .bool false]) (fun w => by kernel_rfl) ?_)
 refine stp (zB2 ?_)
 intro b7 w8 hb9 hc10 g11
 refine stn (qS hc10 ?_)
 intro w12 hc13 u14
 have g15 := g11.upd u14 hb9
 have hge16 := Nat.le_trans G.size hb9
 have ne17 := qN hc4 hb9
 replace hc4 := g15.heap hc4
 replace G := G.tr g15
 clear u14 g11 hb9 hc10
 refine qZ 6 ?_
 refine stp ?_
 refine qC ?_
 refine zA6 ?_
 refine zA3 rfl (fun k2 => ?_) (fun k2 => ?_)
 ·
  first | replace k2 := qT k2 | replace k2 := qF k2 | skip
  refine qO 10 ?_
  refine stp ?_
  (first | (refine zC3 rfl rfl ?_ ?_; (constructor <;> omega)) | refine zF7 rfl rfl ?_)
  refine qZ 3 ?_
  refine stp ?_
  (first | (refine zC3 rfl rfl ?_ ?_; (constructor <;> omega)) | refine zF7 rfl rfl ?_)
  refine stp (zA7 (v := .agg #[.int .i64 (2), .int .i64 (off), .int .i64 (0), .int .i64 (0), .int .i64 (size), .int .i64 (((words.length : Int) + kids.length + bytes.length)), .int .i64 (0), .bool false]) (fun w => by kernel_rfl) ?_)
  refine stn (qS hc13 ?_)
  intro w21 hc22 u23
  replace hc4 := u23.heap hc4 ne17
  replace G := G.upd u23 hge16
  clear u23 hc13
  refine qZ 3 ?_
  refine stp ?_
  (first | refine zC7 rfl (by assumption) (by rfl) ?_ | refine zF8 rfl (by assumption) (by rfl) (by rfl) ?_)
  refine stp (zA2 rfl (zV5 _ ⟨2, off, 0, 0, size, ((words.length : Int) + kids.length + bytes.length), 0, false⟩) ?_)
  intro w24 g25
  replace hc4 := g25.heap hc4
  replace hc22 := g25.heap hc22
  replace G := G.tr g25
  clear g25
  refine qO 1 ?_
  refine stp (zB3 rfl rfl ?_)
  refine stp (zB3 rfl rfl ?_)
  refine qO 9 ?_
  refine ret1 (zA9 rfl) ⟨?_, G⟩
  subst k2
  simp [Nd.near, Nd.ptr]
 ·
  first | replace k2 := qT k2 | replace k2 := qF k2 | skip
  have k1 : kind = 1 := by omega
  refine qZ 3 ?_
  refine stp ?_
  (first | refine zC7 rfl (by assumption) (by rfl) ?_ | refine zF8 rfl (by assumption) (by rfl) (by rfl) ?_)
  refine stp (zA2 rfl (zV5 _ ⟨kind, off, (words.length : Int), (kids.length : Int), 0, 0, 0, false⟩) ?_)
  intro w26 g27
  replace hc4 := g27.heap hc4
  replace hc13 := g27.heap hc13
  replace G := G.tr g27
  clear g27
  refine qO 1 ?_
  refine stp (zB3 rfl rfl ?_)
  refine stp (zB3 rfl rfl ?_)
  refine qO 9 ?_
  refine ret1 (zA9 rfl) ⟨?_, G⟩
  simp [Nd.near, Nd.ptr, k1]
theorem qO3 (w : World) (seg at_ : Int) : zC5 Tryz.prog 78 #[.int .i64 seg, .int .i64 at_] w (.int .u64 (farP seg at_)) := by
 have G := Grow.rfl' w
 refine zB1 Tryz.func78 Tryz.ntmps78 Tryz.results78 rfl rfl ?_
 refine qO 8 ?_
 refine stp (zA7 (v := .agg #[.int .i64 (3), .int .i64 (at_), .int .i64 (0), .int .i64 (0), .int .i64 (0), .int .i64 (0), .int .i64 (seg), .bool false]) (fun w => by kernel_rfl) ?_)
 refine stp (zA2 rfl (zV5 _ ⟨3, at_, 0, 0, 0, 0, seg, false⟩) ?_)
 intro w1 g2
 replace G := G.tr g2
 clear g2
 refine qO 1 ?_
 refine stp (zB3 rfl rfl ?_)
 refine stp (zB3 rfl rfl ?_)
 refine qO 9 ?_
 exact ret1 (zA9 rfl) ⟨rfl, G⟩
theorem qF9 (w : World) {bB q base : Nat} {so lv : Value} {segs : List Value} {A : List (List Int)} {size all : Int} {l : List Int} (h : BldAt 144 37 23 w bB (so) segs A size all) (hq : q ≤ A.length) (ol : w.ownsRow base 23 1 lv l.length (zI7 l)) (hb : ∀ k ∈ blks bB so segs, k < base) (hbw : base ≤ w.heap.size) (hA : A.length ≤ 1000) (hAs : ∀ s ∈ A, s.length ≤ 100000) (hl : l.length ≤ 100000) (ha0 : 0 ≤ all) (ha1 : all ≤ 1000000) : Calls Tryz.prog 114 #[.pointer (some ⟨bB, 0, none⟩), .int .i64 (q : Int), lv] w (Ret fun v w' => v = .bool (decide (((zI9 A q l).length : Int) ≤ 16) && (decide ((((zI9 A q l).getD q []).length : Int) ≤ size) && decide (all + l.length ≤ 4096))) ∧ ∃ so' segs', BldAt 144 37 23 w' bB (so') segs' (zI9 A q l) size (all + l.length) ∧ Kp (blks bB so segs) w w' ∧ ∀ k ∈ blks bB so' segs', k ∈ blks bB so segs ∨ w.heap.size ≤ k) := by
 obtain ⟨ado, co, rfl, hco, hco2, RO⟩ := zH3 h.out (by omega)
 obtain ⟨adl, cl, rfl, hcl, hcl2, RL⟩ := zH3 ol (by omega)
 have hbox := h.box
 have K0 := Kp.refl (blks bB (.slice ado A.length co) segs) w
 have ol0 := ol
 refine zC0 Tryz.func114 Tryz.ntmps114 Tryz.results114 rfl rfl ?_
 refine zU5 (zP8 rfl ?_)
 refine zA4 (og rfl ?_)
 (first | refine zI0 rfl ?_ | refine zE7 rfl ?_)
 refine zA6 ?_
 refine qT6 (fun e_ w_ => ∃ (so2 : Value) (segs2 : List Value), Fr [(0, .pointer (some ⟨bB, 0, none⟩)), (1, .int .i64 (q : Int)), (2, .slice adl l.length cl)] e_ ∧ (BldAt 144 37 23 w_ bB (so2) segs2 (growB A q) size all) ∧ (Kp (blks bB (.slice ado A.length co) segs) w w_) ∧ (∀ k ∈ blks bB so2 segs2, k ∈ blks bB (.slice ado A.length co) segs ∨ w.heap.size ≤ k)) ?_ ?_
 ·-- the parts
  refine zU5 (zP8 rfl ?_)
  refine zA4 (og rfl ?_)
  (first | refine zE4 rfl ?_ | refine zD0 rfl ?_)
  refine zA4 (og rfl ?_)
  (first | refine zE8 rfl ?_ | refine zD0 rfl ?_)
  refine stp (zE5 rfl ?_)
  refine stp (zB6 rfl ?_)
  refine stp (zD1 rfl (by assumption) (by rfl) ?_)
  refine stp (qA1 rfl rfl rfl ?_)
  refine zA4 (og rfl ?_)
  (first | (refine zQ8 rfl rfl ?_ ?_; (first | assumption | omega)) | (refine qP6 rfl rfl ?_ ?_; (first | assumption | omega)) | refine zE2 rfl rfl ?_)
  refine zA6 ?_
  refine zA3 rfl (fun hq0 => ?_) (fun hq0 => ?_)
  ·-- true
   first | (replace hq0 := of_decide_eq_true hq0) | (replace hq0 := of_decide_eq_false hq0) | skip
   have hqA : q = A.length := by omega
   refine zP8 rfl ?_
   refine zA4 (og rfl ?_)
   (first | refine zE8 rfl ?_ | refine zD0 rfl ?_)
   refine zA4 (og rfl ?_)
   (first | refine zE8 rfl ?_ | refine zD0 rfl ?_)
   refine stp (zE5 rfl ?_)
   refine stp (zB6 rfl ?_)
   refine stp (zD1 rfl (by assumption) (by rfl) ?_)
   refine stp (zB4 (cs := #[.slice none 0 0]) (el := 37) (fun w => by kernel_rfl) ?_)
   intro bs w5 hbs hcs g5
   replace hbox := g5.heap hbox
   replace h := h.grow g5
   replace ol := zB8 ol g5
   replace K0 := K0.tr g5.kp
   refine stp (zW8 rfl rfl rfl rfl h.out (Row.of_block (n := 1) hcs rfl rfl (by omega)) (fun q_ hq_ => by simp at hq_; subst hq_; rfl) (by simp only [maxLen]; omega) (by omega) (Nat.zero_le _) ?_)
   intro so1 w6 ho6 gr6 hbk6
   have hbox6 := zG7 gr6 hbox (zD3 h.out hbox (by decide))
   refine stp (zE5 rfl ?_)
   refine stp (zB6 rfl ?_)
   refine stn (zC2 (v := so1) rfl rfl (qQ0 ho6) hbox6 (by rfl) (by rfl) ?_)
   intro w7 hb7 u7
   have h7 := h.push (by decide) (by decide) (by decide) ho6 gr6 hb7 u7
   refine zA6 ?_
   have hK7 : Kp (blks bB (.slice ado A.length co) segs) w w7 := (K0.tr (Kp.of_grownBy gr6 (fun k hk => zG2.2 (.inr (.inl hk))))).tr (Kp.of_upd u7 (zG2.2 (.inl rfl)))
   have hnb : ∀ k ∈ blks bB so1 (segs ++ [.slice none 0 0]), k ∈ blks bB (.slice ado A.length co) segs ∨ w.heap.size ≤ k := by
    intro k hk
    rcases zG2.1 hk with hk | hk | ⟨i, v, hv, hk⟩
    ·exact .inl (zG2.2 (.inl hk))
    ·rcases hbk6 with hb | hb
     ·exact .inl (zG2.2 (.inr (.inl (hb ▸ hk))))
     ·rw [hb] at hk; simp only [Option.some.injEq] at hk; have := K0.size; omega
    ·rcases Nat.lt_or_ge i segs.length with hi | hi
     ·rw [List.getElem?_append_left hi] at hv; exact .inl (zG2.2 (.inr (.inr ⟨i, v, hv, hk⟩)))
     ·rw [List.getElem?_append_right hi] at hv; have := List.mem_of_getElem? hv; simp at this; subst this; simp [Value.ownBlock] at hk
   have hgB : growB A q = A ++ [[]] := by unfold growB; rw [if_pos hqA]
   rw [hgB]
   exact ⟨so1, segs ++ [.slice none 0 0], zD2 ⟨rfl, rfl, rfl, trivial⟩, h7, hK7, hnb⟩
  ·-- false
   first | (replace hq0 := of_decide_eq_true hq0) | (replace hq0 := of_decide_eq_false hq0) | skip
   have hqA : ¬ q = A.length := by omega
   refine zZ2 ?_
   have hgB : growB A q = A := by unfold growB; rw [if_neg hqA]
   rw [hgB]
   exact ⟨_, segs, zD2 ⟨rfl, rfl, rfl, trivial⟩, h, K0, fun k hk => .inl hk⟩
 ·-- behind them
  clear hbox h ol K0
  rintro e_ w1 ⟨so2, segs2, ⟨e2, rfl⟩, h2, K2, hnb⟩
  obtain ⟨hqB, hlB⟩ := zT6 hq
  have hsB := yS3 (A := A) (q := q) hAs
  obtain ⟨sv, hsv, osv⟩ := h2.at_ hqB
  have hgd : (growB A q).getD q [] = (growB A q)[q] := by rw [List.getD_eq_getElem?_getD, List.getElem?_eq_getElem hqB]; rfl
  rw [hgd] at hsB
  have hgA : (growB A q)[q]? = some (growB A q)[q] := List.getElem?_eq_getElem hqB
  have hfin : zI9 A q l = (growB A q).set q ((growB A q)[q] ++ l) := by unfold zI9; rw [hgd]
  rw [hfin]
  have hgl : (growB A q).length = (growB A q).length := rfl
  generalize (growB A q)[q] = ws at *
  generalize growB A q = B at *
  rcases h2.out.2 with ⟨_, h0⟩ | ⟨go, co2, cur, hso2, _, hgo, hc1, hc2, hc3, hc4⟩
  ·omega
  subst hso2
  have hcur : cur[0 + q * 1]? = some sv := by
   have h := zL6 (o := 0) (cs := cur) (xs := segs2) (m := B.length * 1) (by simpa using hc4) hsv
   simpa using h
  obtain ⟨ads, cs_, rfl, hcs1, hcs2, RS⟩ := zH3 osv (by omega)
  have hbox2 := h2.box
  have ne1 := zD3 osv hbox2 (by decide)
  have ne2 := zD3 osv hgo (by decide)
  skip
  have lvb := fun k (hk : (Value.slice adl l.length cl).ownBlock = some k) => ol0.lt k hk
  have ol2 := qD2 ol0 K2 (fun k hk hm => by have := lvb k hk; have := hb k hm; omega)
  have nlF : ∀ k, (Value.slice adl l.length cl).ownBlock = some k → k ∉ (Value.slice ads ws.length cs_).ownBlock.toList := by
   intro k hk hm
   rw [Option.mem_toList] at hm
   have h1 := lvb k hk
   rcases hnb k (zG2.2 (.inr (.inr ⟨q, _, hsv, hm⟩))) with h | h
   ·have := hb k h; omega
   ·omega
  refine zU5 ?_
  refine qC8 14 [[], [0], [1, 0], [2, 1, 0], [], [], [0], [1, 0], [2, 1, 0], [], [4, 3, 2, 1, 0], [5, 4, 3, 2, 1, 0], [], [7, 6, 5, 4, 3, 2, 1, 0]] [13] (Value.slice ads ws.length cs_).ownBlock.toList (fun k_ w_ => match k_ with | 0 => w_.ownsRow 0 23 1 (.slice ads ws.length cs_) ws.length (zI7 ws) | _ => True) mixed (by kernel_rfl) (by kernel_rfl) (by kernel_rfl) (by kernel_rfl) (fun k_ w_ w2_ g_ h_ => match k_, h_ with | 0, h_ => zB8 h_ g_ | n_ + 1, h_ => trivial) (fun w_ g_ => zB8 osv g_) ?_
  intro wr g3
  replace h2 := h2.grow g3
  replace K2 := K2.tr g3.kp
  replace hgo := g3.heap hgo
  replace hbox2 := g3.heap hbox2
  replace osv := zB8 osv g3
  replace ol2 := zB8 ol2 g3
  clear g3
  apply zE0 (hm := by rfl)
  ·intro w_ g_; refine og rfl ?_; (first | refine zE8 rfl ?_ | refine zD0 rfl ?_); exact ⟨Grow.rfl' _, rfl⟩
  apply zE0 (hm := by rfl)
  ·intro w_ g_; refine og rfl ?_; refine zE5 rfl ?_; exact ⟨Grow.rfl' _, rfl⟩
  apply zE0 (hm := by rfl)
  ·intro w_ g_; refine og rfl ?_; refine zB6 rfl ?_; exact ⟨Grow.rfl' _, rfl⟩
  apply zE0 (hm := by rfl)
  ·intro w_ g_
   refine og rfl ?_
   refine zD1 rfl (g_.heap hbox2 (by rw [Option.mem_toList]; exact ne1)) (by rfl) ?_
   exact ⟨Grow.rfl' _, rfl⟩
  apply zE0 (hm := by rfl)
  ·intro w_ g_; refine og rfl ?_; (first | refine zE4 rfl ?_ | refine zD0 rfl ?_); exact ⟨Grow.rfl' _, rfl⟩
  apply zE0 (hm := by rfl)
  ·intro w_ g_; refine og rfl ?_; (first | refine zE8 rfl ?_ | refine zD0 rfl ?_); exact ⟨Grow.rfl' _, rfl⟩
  apply zE0 (hm := by rfl)
  ·intro w_ g_; refine og rfl ?_; refine zE5 rfl ?_; exact ⟨Grow.rfl' _, rfl⟩
  apply zE0 (hm := by rfl)
  ·intro w_ g_; refine og rfl ?_; refine zB6 rfl ?_; exact ⟨Grow.rfl' _, rfl⟩
  apply zE0 (hm := by rfl)
  ·intro w_ g_
   refine og rfl ?_
   refine zD1 rfl (g_.heap hbox2 (by rw [Option.mem_toList]; exact ne1)) (by rfl) ?_
   exact ⟨Grow.rfl' _, rfl⟩
  apply zE0 (hm := by rfl)
  ·intro w_ g_; refine og rfl ?_; (first | refine zE4 rfl ?_ | refine zD0 rfl ?_); exact ⟨Grow.rfl' _, rfl⟩
  apply zE0 (hm := by rfl)
  ·intro w_ g_
   refine og rfl ?_
   refine zD4 rfl rfl (by omega) (by omega) ?_
   rw [Int.toNat_natCast]
   exact ⟨Grow.rfl' _, rfl⟩
  apply zE0 (hm := by rfl)
  ·intro w_ g_
   refine og rfl ?_
   refine zD1 (v := .slice ads ws.length cs_) rfl (g_.heap hgo (by rw [Option.mem_toList]; exact ne2)) hcur ?_
   exact ⟨Grow.rfl' _, rfl⟩
  apply zE0 (hm := by rfl)
  ·intro w_ g_; refine og rfl ?_; (first | refine zJ1 rfl ?_ | refine zD0 rfl ?_); exact ⟨Grow.rfl' _, rfl⟩
  refine yS1 0 (fun w_ v => w_.ownsRow 0 23 1 v (ws ++ l).length (zI7 (ws ++ l)) ∧ ∀ k, v.ownBlock = some k → (Value.slice ads ws.length cs_).ownBlock = some k ∨ wr.heap.size ≤ k) (fun _ _ _ g ⟨h1, h2⟩ => ⟨zB8 h1 g, h2⟩) (by rfl) (by rfl) ?_ ?_
  ·intro w_ g_ s_
   refine og rfl ?_
   refine zW8 rfl rfl rfl rfl s_ (zH3 (qD2 ol2 g_ nlF) (by omega)) (fun q_ hq_ => by obtain ⟨z, _, rfl⟩ := List.mem_map.1 hq_; rfl) (by simp only [maxLen]; omega) (by omega) (Nat.zero_le _) ?_
   intro v9 w9 own9 gr9 hbk9
   refine ⟨Kp.of_grownBy gr9 (fun k hk => by rw [Option.mem_toList]; exact hk), trivial, by rw [List.length_append, zI7, List.map_append]; exact own9, fun k hk => ?_⟩
   rcases hbk9 with h | h
   ·exact .inl (h ▸ hk)
   ·rw [h] at hk; simp only [Option.some.injEq] at hk; have := g_.size; exact .inr (by omega)
  refine zV1 ?_
  intro w4 g5 S_
  have K3 := g5
  clear g5
  intro v_ hv_
  refine zA4 (og rfl ?_)
  refine zD4 rfl rfl (by omega) (by omega) ?_
  rw [Int.toNat_natCast]
  obtain ⟨ov, hvn⟩ := hv_
  obtain ⟨adv, cv, rfl, hcv1, hcv2, RV⟩ := zH3 ov (by rw [List.length_append]; omega)
  refine yL2 (og rfl ?_)
  have hgo3 := K3.heap hgo (by rw [Option.mem_toList]; exact ne2)
  refine zC2 (v := .slice adv (ws ++ l).length cv) rfl rfl (by rfl) hgo3 (Nat.ble_eq_true_of_le (by omega)) rfl ?_
  intro w8 hgo8 u8
  have h8 := h2.more (by decide) (by decide) (by decide) hgA hsv ov K3 hvn rfl hgo hgo8 (by simp) u8
  have hbox8 := h8.box
  have K8 : Kp (blks bB (.slice ado A.length co) segs) w w8 := (K2.trans K3 (fun x hx => hnb x (zG2.2 (.inr (.inr ⟨q, _, hsv, Option.mem_toList.1 hx⟩))))).trans (Kp.of_upd (F := [go]) u8 (by simp)) (fun x hx => by simp at hx; subst hx; exact hnb _ (zG2.2 (.inr (.inl rfl))))
  have hnb8 : ∀ k ∈ blks bB (.slice (some ⟨go, 0, none⟩) B.length co2) (segs2.set q (.slice adv (ws ++ l).length cv)), k ∈ blks bB (.slice ado A.length co) segs ∨ w.heap.size ≤ k := by
   intro k hk
   rcases zG2.1 hk with hk | hk | ⟨i, v, hv, hk⟩
   ·exact hnb k (zG2.2 (.inl hk))
   ·exact hnb k (zG2.2 (.inr (.inl hk)))
   ·by_cases hi : i = q
    ·subst hi
     rw [List.getElem?_set_self (List.getElem?_eq_some_iff.1 hsv).1] at hv
     simp only [Option.some.injEq] at hv
     subst hv
     rcases hvn k hk with h | h
     ·exact hnb k (zG2.2 (.inr (.inr ⟨i, _, hsv, h⟩)))
     ·have := K2.size; exact .inr (by omega)
    ·rw [List.getElem?_set_ne (Ne.symm hi)] at hv
     exact hnb k (zG2.2 (.inr (.inr ⟨i, v, hv, hk⟩)))
  refine zA6 ?_
  refine zU5 (zP8 rfl ?_)
  refine zA4 (og rfl ?_)
  (first | refine zE8 rfl ?_ | refine zD0 rfl ?_)
  refine stp (zE5 rfl ?_)
  refine stp (zB6 rfl ?_)
  refine stp (zD1 rfl hbox8 (by rfl) ?_)
  refine zA4 (og rfl ?_)
  (first | refine zJ1 rfl ?_ | refine zD0 rfl ?_)
  refine stp (qA1 rfl rfl rfl ?_)
  refine zA4 (og rfl ?_)
  (first | (refine zC3 rfl rfl ?_ ?_; (constructor <;> omega)) | refine zF7 rfl rfl ?_)
  refine stp (zE5 rfl ?_)
  refine stp (zB6 rfl ?_)
  refine stn (zC2 (v := .int .i64 (all + l.length)) rfl rfl (by rfl) hbox8 (by rfl) (by rfl) ?_)
  intro w9 hb9 u9
  have h9 := h8.count (all' := all + l.length) (by decide) (by decide) hb9 u9
  have K9 := K8.tr (Kp.of_upd u9 (zG2.2 (.inl rfl)))
  have ngB : go ≠ bB := fun he => zD3 h8.out hbox8 (by decide) (by rw [he]; rfl)
  have hgo9 := u9.heap hgo8 ngB
  have hcell9 : ((cur.toList.set (0 + q * 1) (.slice adv (ws ++ l).length cv)).toArray)[0 + q * 1]? = some (.slice adv (ws ++ l).length cv) := by
   rw [List.getElem?_toArray, List.getElem?_set_self (by rw [Array.length_toList]; omega)]
  have e1 : (B.set q (ws ++ l)).getD q [] = ws ++ l := by rw [List.getD_eq_getElem?_getD, List.getElem?_set_self hqB]; rfl
  have e2 : (B.set q (ws ++ l)).length = B.length := List.length_set
  rw [e1, e2]
  refine zA6 ?_
  by_cases hA16 : (B.length : Int) ≤ 16
  ·
   by_cases hSz : ((ws ++ l).length : Int) ≤ size
   ·
    refine zU5 ?_
    refine zK0 29 [[], [0], [1, 0], [2, 1, 0], [3, 2, 1, 0], [4, 3, 2, 1, 0], [5, 4, 3, 2, 1, 0], [6, 5, 4, 3, 2, 1, 0], [7, 6, 5, 4, 3, 2, 1, 0], [8, 7, 6, 5, 4, 3, 2, 1, 0], [9, 8, 7, 6, 5, 4, 3, 2, 1, 0], [10, 9, 8, 7, 6, 5, 4], [11, 10, 9, 8, 7, 6, 5, 4, 3, 2, 1, 0], [12, 11, 10, 9, 8, 7, 6, 5, 4, 3, 2, 1, 0], [13, 12, 11, 10, 9, 8, 7, 6, 5, 4, 3, 2, 1, 0], [14, 13, 12, 11, 10, 9, 8], [15, 14, 13, 12, 11, 10, 9, 0], [16, 15, 14, 13, 12, 11, 10, 1, 0], [17, 16, 15, 14, 13, 12, 11, 2, 1, 0], [18, 17, 16, 15, 14, 13, 12, 11, 10, 9, 8, 7, 6, 5, 4, 3, 2, 1, 0], [19, 18, 17, 16, 15, 14, 13, 12, 11, 10, 9, 8, 7, 6, 5, 4, 3, 2, 1, 0], [20, 19, 18, 17, 16, 15, 14, 13, 12, 11, 10, 9, 8, 7, 6, 5, 4, 3, 2, 1, 0], [21, 20, 19, 18, 17, 16, 15, 14, 13, 12, 11, 10, 9, 8, 7, 6, 5, 4, 3, 2, 1, 0], [22, 21, 20, 19, 18, 17, 16, 15, 14, 13, 12, 11, 10, 9, 8, 7, 6, 5, 4, 3, 2, 1, 0], [23, 22, 21, 20, 19, 18, 17, 16, 15, 14, 13, 12, 11, 10, 9, 8, 7, 6, 5, 4, 3, 2, 1, 0], [24, 23, 22, 21, 20, 19, 18, 17, 16, 15, 14, 13, 12, 11, 10, 9, 8, 7, 6, 5, 4, 3, 2, 1, 0], [25, 24, 23, 22, 21, 20, 19, 18, 17, 16, 15, 14, 13, 12, 11, 10, 9, 8, 7, 6, 5, 4, 3, 2, 1, 0], [26, 25, 24, 23, 22, 21, 20, 19, 18, 17, 16, 15, 14, 13, 12, 11, 10, 9, 8, 7, 6, 5, 4, 3, 2, 1, 0], [27, 26, 25, 24, 23, 22, 21, 20, 19, 18, 17, 16, 15, 14, 13, 12, 11, 10, 9, 8, 7, 6, 5, 4, 3, 2, 1, 0]] mixed (by kernel_rfl) (by kernel_rfl) (by kernel_rfl) ?_
    intro w6 g7
    replace hb9 := g7.heap hb9
    replace hgo9 := g7.heap hgo9
    replace h9 := h9.grow g7
    replace K9 := K9.tr g7.kp
    clear g7
    apply zA5
    ·intro w_ g_; refine og rfl ?_; (first | refine zE8 rfl ?_ | refine zD0 rfl ?_); exact ⟨Grow.rfl' _, rfl⟩
    apply zA5
    ·intro w_ g_; refine og rfl ?_; refine zE5 rfl ?_; exact ⟨Grow.rfl' _, rfl⟩
    apply zA5
    ·intro w_ g_; refine og rfl ?_; refine zB6 rfl ?_; exact ⟨Grow.rfl' _, rfl⟩
    apply zA5
    ·intro w_ g_
     refine og rfl ?_
     refine zD1 rfl (Grow.heap g_ hb9) (by rfl) ?_
     exact ⟨Grow.rfl' _, rfl⟩
    apply zA5
    ·intro w_ g_; refine og rfl ?_; refine qA1 rfl rfl rfl ?_; exact ⟨Grow.rfl' _, rfl⟩
    apply zA5
    ·intro w_ g_; refine og rfl ?_; (first | (refine zW3 rfl rfl ?_ ?_; (first | assumption | omega)) | (refine zW4 rfl rfl ?_ ?_; (first | assumption | omega)) | refine zQ6 rfl rfl ?_); exact ⟨Grow.rfl' _, rfl⟩
    apply zA5
    ·intro w_ g_; refine og rfl ?_; (first | refine zG6 rfl ?_ | refine zD0 rfl ?_); exact ⟨Grow.rfl' _, rfl⟩
    apply zA5
    ·intro w_ g_; refine og rfl ?_; (first | refine zE8 rfl ?_ | refine zD0 rfl ?_); exact ⟨Grow.rfl' _, rfl⟩
    apply zA5
    ·intro w_ g_; refine og rfl ?_; refine zE5 rfl ?_; exact ⟨Grow.rfl' _, rfl⟩
    apply zA5
    ·intro w_ g_; refine og rfl ?_; refine zB6 rfl ?_; exact ⟨Grow.rfl' _, rfl⟩
    apply zA5
    ·intro w_ g_
     refine og rfl ?_
     refine zD1 rfl (Grow.heap g_ hb9) (by rfl) ?_
     exact ⟨Grow.rfl' _, rfl⟩
    apply zA5
    ·intro w_ g_; refine og rfl ?_; (first | refine zE4 rfl ?_ | refine zD0 rfl ?_); exact ⟨Grow.rfl' _, rfl⟩
    apply zA5
    ·intro w_ g_
     refine og rfl ?_
     refine zD4 rfl rfl (by omega) (by omega) ?_
     rw [Int.toNat_natCast]
     exact ⟨Grow.rfl' _, rfl⟩
    apply zA5
    ·intro w_ g_
     refine og rfl ?_
     refine zD1 (v := .slice adv (ws ++ l).length cv) rfl (Grow.heap g_ hgo9) hcell9 ?_
     exact ⟨Grow.rfl' _, rfl⟩
    apply zA5
    ·intro w_ g_; refine og rfl ?_; refine qA1 rfl rfl rfl ?_; exact ⟨Grow.rfl' _, rfl⟩
    apply zA5
    ·intro w_ g_; refine og rfl ?_; (first | refine zE8 rfl ?_ | refine zD0 rfl ?_); exact ⟨Grow.rfl' _, rfl⟩
    apply zA5
    ·intro w_ g_; refine og rfl ?_; refine zE5 rfl ?_; exact ⟨Grow.rfl' _, rfl⟩
    apply zA5
    ·intro w_ g_; refine og rfl ?_; refine zB6 rfl ?_; exact ⟨Grow.rfl' _, rfl⟩
    apply zA5
    ·intro w_ g_
     refine og rfl ?_
     refine zD1 rfl (Grow.heap g_ hb9) (by rfl) ?_
     exact ⟨Grow.rfl' _, rfl⟩
    apply zA5
    ·intro w_ g_; refine og rfl ?_; (first | (refine zW3 rfl rfl ?_ ?_; (first | assumption | omega)) | (refine zW4 rfl rfl ?_ ?_; (first | assumption | omega)) | refine zQ6 rfl rfl ?_); exact ⟨Grow.rfl' _, rfl⟩
    apply zA5
    ·intro w_ g_
     refine og rfl ?_
     refine zH0 rfl rfl rfl ?_
     exact ⟨Grow.rfl' _, rfl⟩
    apply zA5
    ·intro w_ g_; refine og rfl ?_; (first | refine zG6 rfl ?_ | refine zD0 rfl ?_); exact ⟨Grow.rfl' _, rfl⟩
    apply zA5
    ·intro w_ g_; refine og rfl ?_; (first | refine zE8 rfl ?_ | refine zD0 rfl ?_); exact ⟨Grow.rfl' _, rfl⟩
    apply zA5
    ·intro w_ g_; refine og rfl ?_; refine zE5 rfl ?_; exact ⟨Grow.rfl' _, rfl⟩
    apply zA5
    ·intro w_ g_; refine og rfl ?_; refine zB6 rfl ?_; exact ⟨Grow.rfl' _, rfl⟩
    apply zA5
    ·intro w_ g_
     refine og rfl ?_
     refine zD1 rfl (Grow.heap g_ hb9) (by rfl) ?_
     exact ⟨Grow.rfl' _, rfl⟩
    apply zA5
    ·intro w_ g_; refine og rfl ?_; (first | (refine zW3 rfl rfl ?_ ?_; (first | assumption | omega)) | (refine zW4 rfl rfl ?_ ?_; (first | assumption | omega)) | refine zQ6 rfl rfl ?_); exact ⟨Grow.rfl' _, rfl⟩
    apply zA5
    ·intro w_ g_
     refine og rfl ?_
     refine zH0 rfl rfl rfl ?_
     exact ⟨Grow.rfl' _, rfl⟩
    apply zA5
    ·intro w_ g_; refine og rfl ?_; (first | refine zI0 rfl ?_ | refine zE7 rfl ?_); exact ⟨Grow.rfl' _, rfl⟩
    refine zG5 ?_
    intro w8 g9
    replace hb9 := g9.heap hb9
    replace hgo9 := g9.heap hgo9
    replace h9 := h9.grow g9
    replace K9 := K9.tr g9.kp
    clear g9
    refine zA6 ?_
    refine yG7 ?_
    refine ret1 (zO5 rfl) ⟨?_, _, _, h9, K9, hnb8⟩
    simp only [decide_eq_true hA16, decide_eq_true hSz, Bool.true_and, Bool.false_and]
   ·
    refine zU5 ?_
    refine zK0 29 [[], [0], [1, 0], [2, 1, 0], [3, 2, 1, 0], [4, 3, 2, 1, 0], [5, 4, 3, 2, 1, 0], [6, 5, 4, 3, 2, 1, 0], [7, 6, 5, 4, 3, 2, 1, 0], [8, 7, 6, 5, 4, 3, 2, 1, 0], [9, 8, 7, 6, 5, 4, 3, 2, 1, 0], [10, 9, 8, 7, 6, 5, 4], [11, 10, 9, 8, 7, 6, 5, 4, 3, 2, 1, 0], [12, 11, 10, 9, 8, 7, 6, 5, 4, 3, 2, 1, 0], [13, 12, 11, 10, 9, 8, 7, 6, 5, 4, 3, 2, 1, 0], [14, 13, 12, 11, 10, 9, 8], [15, 14, 13, 12, 11, 10, 9, 0], [16, 15, 14, 13, 12, 11, 10, 1, 0], [17, 16, 15, 14, 13, 12, 11, 2, 1, 0], [18, 17, 16, 15, 14, 13, 12, 11, 10, 9, 8, 7, 6, 5, 4, 3, 2, 1, 0], [19, 18, 17, 16, 15, 14, 13, 12, 11, 10, 9, 8, 7, 6, 5, 4, 3, 2, 1, 0], [20, 19, 18, 17, 16, 15, 14, 13, 12, 11, 10, 9, 8, 7, 6, 5, 4, 3, 2, 1, 0], [21, 20, 19, 18, 17, 16, 15, 14, 13, 12, 11, 10, 9, 8, 7, 6, 5, 4, 3, 2, 1, 0], [22, 21, 20, 19, 18, 17, 16, 15, 14, 13, 12, 11, 10, 9, 8, 7, 6, 5, 4, 3, 2, 1, 0], [23, 22, 21, 20, 19, 18, 17, 16, 15, 14, 13, 12, 11, 10, 9, 8, 7, 6, 5, 4, 3, 2, 1, 0], [24, 23, 22, 21, 20, 19, 18, 17, 16, 15, 14, 13, 12, 11, 10, 9, 8, 7, 6, 5, 4, 3, 2, 1, 0], [25, 24, 23, 22, 21, 20, 19, 18, 17, 16, 15, 14, 13, 12, 11, 10, 9, 8, 7, 6, 5, 4, 3, 2, 1, 0], [26, 25, 24, 23, 22, 21, 20, 19, 18, 17, 16, 15, 14, 13, 12, 11, 10, 9, 8, 7, 6, 5, 4, 3, 2, 1, 0], [27, 26, 25, 24, 23, 22, 21, 20, 19, 18, 17, 16, 15, 14, 13, 12, 11, 10, 9, 8, 7, 6, 5, 4, 3, 2, 1, 0]] mixed (by kernel_rfl) (by kernel_rfl) (by kernel_rfl) ?_
    intro w10 g11
    replace hb9 := g11.heap hb9
    replace hgo9 := g11.heap hgo9
    replace h9 := h9.grow g11
    replace K9 := K9.tr g11.kp
    clear g11
    apply zA5
    ·intro w_ g_; refine og rfl ?_; (first | refine zE8 rfl ?_ | refine zD0 rfl ?_); exact ⟨Grow.rfl' _, rfl⟩
    apply zA5
    ·intro w_ g_; refine og rfl ?_; refine zE5 rfl ?_; exact ⟨Grow.rfl' _, rfl⟩
    apply zA5
    ·intro w_ g_; refine og rfl ?_; refine zB6 rfl ?_; exact ⟨Grow.rfl' _, rfl⟩
    apply zA5
    ·intro w_ g_
     refine og rfl ?_
     refine zD1 rfl (Grow.heap g_ hb9) (by rfl) ?_
     exact ⟨Grow.rfl' _, rfl⟩
    apply zA5
    ·intro w_ g_; refine og rfl ?_; refine qA1 rfl rfl rfl ?_; exact ⟨Grow.rfl' _, rfl⟩
    apply zA5
    ·intro w_ g_; refine og rfl ?_; (first | (refine zW3 rfl rfl ?_ ?_; (first | assumption | omega)) | (refine zW4 rfl rfl ?_ ?_; (first | assumption | omega)) | refine zQ6 rfl rfl ?_); exact ⟨Grow.rfl' _, rfl⟩
    apply zA5
    ·intro w_ g_; refine og rfl ?_; (first | refine zG6 rfl ?_ | refine zD0 rfl ?_); exact ⟨Grow.rfl' _, rfl⟩
    apply zA5
    ·intro w_ g_; refine og rfl ?_; (first | refine zE8 rfl ?_ | refine zD0 rfl ?_); exact ⟨Grow.rfl' _, rfl⟩
    apply zA5
    ·intro w_ g_; refine og rfl ?_; refine zE5 rfl ?_; exact ⟨Grow.rfl' _, rfl⟩
    apply zA5
    ·intro w_ g_; refine og rfl ?_; refine zB6 rfl ?_; exact ⟨Grow.rfl' _, rfl⟩
    apply zA5
    ·intro w_ g_
     refine og rfl ?_
     refine zD1 rfl (Grow.heap g_ hb9) (by rfl) ?_
     exact ⟨Grow.rfl' _, rfl⟩
    apply zA5
    ·intro w_ g_; refine og rfl ?_; (first | refine zE4 rfl ?_ | refine zD0 rfl ?_); exact ⟨Grow.rfl' _, rfl⟩
    apply zA5
    ·intro w_ g_
     refine og rfl ?_
     refine zD4 rfl rfl (by omega) (by omega) ?_
     rw [Int.toNat_natCast]
     exact ⟨Grow.rfl' _, rfl⟩
    apply zA5
    ·intro w_ g_
     refine og rfl ?_
     refine zD1 (v := .slice adv (ws ++ l).length cv) rfl (Grow.heap g_ hgo9) hcell9 ?_
     exact ⟨Grow.rfl' _, rfl⟩
    apply zA5
    ·intro w_ g_; refine og rfl ?_; refine qA1 rfl rfl rfl ?_; exact ⟨Grow.rfl' _, rfl⟩
    apply zA5
    ·intro w_ g_; refine og rfl ?_; (first | refine zE8 rfl ?_ | refine zD0 rfl ?_); exact ⟨Grow.rfl' _, rfl⟩
    apply zA5
    ·intro w_ g_; refine og rfl ?_; refine zE5 rfl ?_; exact ⟨Grow.rfl' _, rfl⟩
    apply zA5
    ·intro w_ g_; refine og rfl ?_; refine zB6 rfl ?_; exact ⟨Grow.rfl' _, rfl⟩
    apply zA5
    ·intro w_ g_
     refine og rfl ?_
     refine zD1 rfl (Grow.heap g_ hb9) (by rfl) ?_
     exact ⟨Grow.rfl' _, rfl⟩
    apply zA5
    ·intro w_ g_; refine og rfl ?_; (first | (refine zW3 rfl rfl ?_ ?_; (first | assumption | omega)) | (refine zW4 rfl rfl ?_ ?_; (first | assumption | omega)) | refine zQ6 rfl rfl ?_); exact ⟨Grow.rfl' _, rfl⟩
    apply zA5
    ·intro w_ g_
     refine og rfl ?_
     refine zH0 rfl rfl rfl ?_
     exact ⟨Grow.rfl' _, rfl⟩
    apply zA5
    ·intro w_ g_; refine og rfl ?_; (first | refine zG6 rfl ?_ | refine zD0 rfl ?_); exact ⟨Grow.rfl' _, rfl⟩
    apply zA5
    ·intro w_ g_; refine zE1 rfl ?_; exact ⟨Grow.rfl' _, rfl⟩
    apply zA5
    ·intro w_ g_; refine zE1 rfl ?_; exact ⟨Grow.rfl' _, rfl⟩
    apply zA5
    ·intro w_ g_; refine zE1 rfl ?_; exact ⟨Grow.rfl' _, rfl⟩
    apply zA5
    ·intro w_ g_; refine zE1 rfl ?_; exact ⟨Grow.rfl' _, rfl⟩
    apply zA5
    ·intro w_ g_; refine zE1 rfl ?_; exact ⟨Grow.rfl' _, rfl⟩
    apply zA5
    ·intro w_ g_
     refine og rfl ?_
     refine zH6 rfl rfl rfl ?_
     exact ⟨Grow.rfl' _, rfl⟩
    apply zA5
    ·intro w_ g_; refine og rfl ?_; (first | refine zI0 rfl ?_ | refine zE7 rfl ?_); exact ⟨Grow.rfl' _, rfl⟩
    refine zG5 ?_
    intro w12 g13
    replace hb9 := g13.heap hb9
    replace hgo9 := g13.heap hgo9
    replace h9 := h9.grow g13
    replace K9 := K9.tr g13.kp
    clear g13
    refine zA6 ?_
    refine yG7 ?_
    refine ret1 (zO5 rfl) ⟨?_, _, _, h9, K9, hnb8⟩
    simp only [decide_eq_true hA16, decide_eq_false hSz, Bool.true_and, Bool.false_and]
  ·
   by_cases hSz : ((ws ++ l).length : Int) ≤ size
   ·
    refine zU5 ?_
    refine zK0 29 [[], [0], [1, 0], [2, 1, 0], [3, 2, 1, 0], [4, 3, 2, 1, 0], [5, 4, 3, 2, 1, 0], [6, 5, 4, 3, 2, 1, 0], [7, 6, 5, 4, 3, 2, 1, 0], [8, 7, 6, 5, 4, 3, 2, 1, 0], [9, 8, 7, 6, 5, 4, 3, 2, 1, 0], [10, 9, 8, 7, 6, 5, 4], [11, 10, 9, 8, 7, 6, 5, 4, 3, 2, 1, 0], [12, 11, 10, 9, 8, 7, 6, 5, 4, 3, 2, 1, 0], [13, 12, 11, 10, 9, 8, 7, 6, 5, 4, 3, 2, 1, 0], [14, 13, 12, 11, 10, 9, 8], [15, 14, 13, 12, 11, 10, 9, 0], [16, 15, 14, 13, 12, 11, 10, 1, 0], [17, 16, 15, 14, 13, 12, 11, 2, 1, 0], [18, 17, 16, 15, 14, 13, 12, 11, 10, 9, 8, 7, 6, 5, 4, 3, 2, 1, 0], [19, 18, 17, 16, 15, 14, 13, 12, 11, 10, 9, 8, 7, 6, 5, 4, 3, 2, 1, 0], [20, 19, 18, 17, 16, 15, 14, 13, 12, 11, 10, 9, 8, 7, 6, 5, 4, 3, 2, 1, 0], [21, 20, 19, 18, 17, 16, 15, 14, 13, 12, 11, 10, 9, 8, 7, 6, 5, 4, 3, 2, 1, 0], [22, 21, 20, 19, 18, 17, 16, 15, 14, 13, 12, 11, 10, 9, 8, 7, 6, 5, 4, 3, 2, 1, 0], [23, 22, 21, 20, 19, 18, 17, 16, 15, 14, 13, 12, 11, 10, 9, 8, 7, 6, 5, 4, 3, 2, 1, 0], [24, 23, 22, 21, 20, 19, 18, 17, 16, 15, 14, 13, 12, 11, 10, 9, 8, 7, 6, 5, 4, 3, 2, 1, 0], [25, 24, 23, 22, 21, 20, 19, 18, 17, 16, 15, 14, 13, 12, 11, 10, 9, 8, 7, 6, 5, 4, 3, 2, 1, 0], [26, 25, 24, 23, 22, 21, 20, 19, 18, 17, 16, 15, 14, 13, 12, 11, 10, 9, 8, 7, 6, 5, 4, 3, 2, 1, 0], [27, 26, 25, 24, 23, 22, 21, 20, 19, 18, 17, 16, 15, 14, 13, 12, 11, 10, 9, 8, 7, 6, 5, 4, 3, 2, 1, 0]] mixed (by kernel_rfl) (by kernel_rfl) (by kernel_rfl) ?_
    intro w14 g15
    replace hb9 := g15.heap hb9
    replace hgo9 := g15.heap hgo9
    replace h9 := h9.grow g15
    replace K9 := K9.tr g15.kp
    clear g15
    apply zA5
    ·intro w_ g_; refine og rfl ?_; (first | refine zE8 rfl ?_ | refine zD0 rfl ?_); exact ⟨Grow.rfl' _, rfl⟩
    apply zA5
    ·intro w_ g_; refine og rfl ?_; refine zE5 rfl ?_; exact ⟨Grow.rfl' _, rfl⟩
    apply zA5
    ·intro w_ g_; refine og rfl ?_; refine zB6 rfl ?_; exact ⟨Grow.rfl' _, rfl⟩
    apply zA5
    ·intro w_ g_
     refine og rfl ?_
     refine zD1 rfl (Grow.heap g_ hb9) (by rfl) ?_
     exact ⟨Grow.rfl' _, rfl⟩
    apply zA5
    ·intro w_ g_; refine og rfl ?_; refine qA1 rfl rfl rfl ?_; exact ⟨Grow.rfl' _, rfl⟩
    apply zA5
    ·intro w_ g_; refine og rfl ?_; (first | (refine zW3 rfl rfl ?_ ?_; (first | assumption | omega)) | (refine zW4 rfl rfl ?_ ?_; (first | assumption | omega)) | refine zQ6 rfl rfl ?_); exact ⟨Grow.rfl' _, rfl⟩
    apply zA5
    ·intro w_ g_; refine og rfl ?_; (first | refine zG6 rfl ?_ | refine zD0 rfl ?_); exact ⟨Grow.rfl' _, rfl⟩
    apply zA5
    ·intro w_ g_; refine zE1 rfl ?_; exact ⟨Grow.rfl' _, rfl⟩
    apply zA5
    ·intro w_ g_; refine zE1 rfl ?_; exact ⟨Grow.rfl' _, rfl⟩
    apply zA5
    ·intro w_ g_; refine zE1 rfl ?_; exact ⟨Grow.rfl' _, rfl⟩
    apply zA5
    ·intro w_ g_; refine zE1 rfl ?_; exact ⟨Grow.rfl' _, rfl⟩
    apply zA5
    ·intro w_ g_; refine zE1 rfl ?_; exact ⟨Grow.rfl' _, rfl⟩
    apply zA5
    ·intro w_ g_; refine zE1 rfl ?_; exact ⟨Grow.rfl' _, rfl⟩
    apply zA5
    ·intro w_ g_; refine zE1 rfl ?_; exact ⟨Grow.rfl' _, rfl⟩
    apply zA5
    ·intro w_ g_; refine zE1 rfl ?_; exact ⟨Grow.rfl' _, rfl⟩
    apply zA5
    ·intro w_ g_; refine zE1 rfl ?_; exact ⟨Grow.rfl' _, rfl⟩
    apply zA5
    ·intro w_ g_; refine zE1 rfl ?_; exact ⟨Grow.rfl' _, rfl⟩
    apply zA5
    ·intro w_ g_; refine zE1 rfl ?_; exact ⟨Grow.rfl' _, rfl⟩
    apply zA5
    ·intro w_ g_; refine zE1 rfl ?_; exact ⟨Grow.rfl' _, rfl⟩
    apply zA5
    ·intro w_ g_; refine zE1 rfl ?_; exact ⟨Grow.rfl' _, rfl⟩
    apply zA5
    ·intro w_ g_
     refine og rfl ?_
     refine zH6 rfl rfl rfl ?_
     exact ⟨Grow.rfl' _, rfl⟩
    apply zA5
    ·intro w_ g_; refine og rfl ?_; (first | refine zG6 rfl ?_ | refine zD0 rfl ?_); exact ⟨Grow.rfl' _, rfl⟩
    apply zA5
    ·intro w_ g_; refine zE1 rfl ?_; exact ⟨Grow.rfl' _, rfl⟩
    apply zA5
    ·intro w_ g_; refine zE1 rfl ?_; exact ⟨Grow.rfl' _, rfl⟩
    apply zA5
    ·intro w_ g_; refine zE1 rfl ?_; exact ⟨Grow.rfl' _, rfl⟩
    apply zA5
    ·intro w_ g_; refine zE1 rfl ?_; exact ⟨Grow.rfl' _, rfl⟩
    apply zA5
    ·intro w_ g_; refine zE1 rfl ?_; exact ⟨Grow.rfl' _, rfl⟩
    apply zA5
    ·intro w_ g_
     refine og rfl ?_
     refine zH6 rfl rfl rfl ?_
     exact ⟨Grow.rfl' _, rfl⟩
    apply zA5
    ·intro w_ g_; refine og rfl ?_; (first | refine zI0 rfl ?_ | refine zE7 rfl ?_); exact ⟨Grow.rfl' _, rfl⟩
    refine zG5 ?_
    intro w16 g17
    replace hb9 := g17.heap hb9
    replace hgo9 := g17.heap hgo9
    replace h9 := h9.grow g17
    replace K9 := K9.tr g17.kp
    clear g17
    refine zA6 ?_
    refine yG7 ?_
    refine ret1 (zO5 rfl) ⟨?_, _, _, h9, K9, hnb8⟩
    simp only [decide_eq_false hA16, Bool.true_and, Bool.false_and]
   ·
    refine zU5 ?_
    refine zK0 29 [[], [0], [1, 0], [2, 1, 0], [3, 2, 1, 0], [4, 3, 2, 1, 0], [5, 4, 3, 2, 1, 0], [6, 5, 4, 3, 2, 1, 0], [7, 6, 5, 4, 3, 2, 1, 0], [8, 7, 6, 5, 4, 3, 2, 1, 0], [9, 8, 7, 6, 5, 4, 3, 2, 1, 0], [10, 9, 8, 7, 6, 5, 4], [11, 10, 9, 8, 7, 6, 5, 4, 3, 2, 1, 0], [12, 11, 10, 9, 8, 7, 6, 5, 4, 3, 2, 1, 0], [13, 12, 11, 10, 9, 8, 7, 6, 5, 4, 3, 2, 1, 0], [14, 13, 12, 11, 10, 9, 8], [15, 14, 13, 12, 11, 10, 9, 0], [16, 15, 14, 13, 12, 11, 10, 1, 0], [17, 16, 15, 14, 13, 12, 11, 2, 1, 0], [18, 17, 16, 15, 14, 13, 12, 11, 10, 9, 8, 7, 6, 5, 4, 3, 2, 1, 0], [19, 18, 17, 16, 15, 14, 13, 12, 11, 10, 9, 8, 7, 6, 5, 4, 3, 2, 1, 0], [20, 19, 18, 17, 16, 15, 14, 13, 12, 11, 10, 9, 8, 7, 6, 5, 4, 3, 2, 1, 0], [21, 20, 19, 18, 17, 16, 15, 14, 13, 12, 11, 10, 9, 8, 7, 6, 5, 4, 3, 2, 1, 0], [22, 21, 20, 19, 18, 17, 16, 15, 14, 13, 12, 11, 10, 9, 8, 7, 6, 5, 4, 3, 2, 1, 0], [23, 22, 21, 20, 19, 18, 17, 16, 15, 14, 13, 12, 11, 10, 9, 8, 7, 6, 5, 4, 3, 2, 1, 0], [24, 23, 22, 21, 20, 19, 18, 17, 16, 15, 14, 13, 12, 11, 10, 9, 8, 7, 6, 5, 4, 3, 2, 1, 0], [25, 24, 23, 22, 21, 20, 19, 18, 17, 16, 15, 14, 13, 12, 11, 10, 9, 8, 7, 6, 5, 4, 3, 2, 1, 0], [26, 25, 24, 23, 22, 21, 20, 19, 18, 17, 16, 15, 14, 13, 12, 11, 10, 9, 8, 7, 6, 5, 4, 3, 2, 1, 0], [27, 26, 25, 24, 23, 22, 21, 20, 19, 18, 17, 16, 15, 14, 13, 12, 11, 10, 9, 8, 7, 6, 5, 4, 3, 2, 1, 0]] mixed (by kernel_rfl) (by kernel_rfl) (by kernel_rfl) ?_
    intro w18 g19
    replace hb9 := g19.heap hb9
    replace hgo9 := g19.heap hgo9
    replace h9 := h9.grow g19
    replace K9 := K9.tr g19.kp
    clear g19
    apply zA5
    ·intro w_ g_; refine og rfl ?_; (first | refine zE8 rfl ?_ | refine zD0 rfl ?_); exact ⟨Grow.rfl' _, rfl⟩
    apply zA5
    ·intro w_ g_; refine og rfl ?_; refine zE5 rfl ?_; exact ⟨Grow.rfl' _, rfl⟩
    apply zA5
    ·intro w_ g_; refine og rfl ?_; refine zB6 rfl ?_; exact ⟨Grow.rfl' _, rfl⟩
    apply zA5
    ·intro w_ g_
     refine og rfl ?_
     refine zD1 rfl (Grow.heap g_ hb9) (by rfl) ?_
     exact ⟨Grow.rfl' _, rfl⟩
    apply zA5
    ·intro w_ g_; refine og rfl ?_; refine qA1 rfl rfl rfl ?_; exact ⟨Grow.rfl' _, rfl⟩
    apply zA5
    ·intro w_ g_; refine og rfl ?_; (first | (refine zW3 rfl rfl ?_ ?_; (first | assumption | omega)) | (refine zW4 rfl rfl ?_ ?_; (first | assumption | omega)) | refine zQ6 rfl rfl ?_); exact ⟨Grow.rfl' _, rfl⟩
    apply zA5
    ·intro w_ g_; refine og rfl ?_; (first | refine zG6 rfl ?_ | refine zD0 rfl ?_); exact ⟨Grow.rfl' _, rfl⟩
    apply zA5
    ·intro w_ g_; refine zE1 rfl ?_; exact ⟨Grow.rfl' _, rfl⟩
    apply zA5
    ·intro w_ g_; refine zE1 rfl ?_; exact ⟨Grow.rfl' _, rfl⟩
    apply zA5
    ·intro w_ g_; refine zE1 rfl ?_; exact ⟨Grow.rfl' _, rfl⟩
    apply zA5
    ·intro w_ g_; refine zE1 rfl ?_; exact ⟨Grow.rfl' _, rfl⟩
    apply zA5
    ·intro w_ g_; refine zE1 rfl ?_; exact ⟨Grow.rfl' _, rfl⟩
    apply zA5
    ·intro w_ g_; refine zE1 rfl ?_; exact ⟨Grow.rfl' _, rfl⟩
    apply zA5
    ·intro w_ g_; refine zE1 rfl ?_; exact ⟨Grow.rfl' _, rfl⟩
    apply zA5
    ·intro w_ g_; refine zE1 rfl ?_; exact ⟨Grow.rfl' _, rfl⟩
    apply zA5
    ·intro w_ g_; refine zE1 rfl ?_; exact ⟨Grow.rfl' _, rfl⟩
    apply zA5
    ·intro w_ g_; refine zE1 rfl ?_; exact ⟨Grow.rfl' _, rfl⟩
    apply zA5
    ·intro w_ g_; refine zE1 rfl ?_; exact ⟨Grow.rfl' _, rfl⟩
    apply zA5
    ·intro w_ g_; refine zE1 rfl ?_; exact ⟨Grow.rfl' _, rfl⟩
    apply zA5
    ·intro w_ g_; refine zE1 rfl ?_; exact ⟨Grow.rfl' _, rfl⟩
    apply zA5
    ·intro w_ g_
     refine og rfl ?_
     refine zH6 rfl rfl rfl ?_
     exact ⟨Grow.rfl' _, rfl⟩
    apply zA5
    ·intro w_ g_; refine og rfl ?_; (first | refine zG6 rfl ?_ | refine zD0 rfl ?_); exact ⟨Grow.rfl' _, rfl⟩
    apply zA5
    ·intro w_ g_; refine zE1 rfl ?_; exact ⟨Grow.rfl' _, rfl⟩
    apply zA5
    ·intro w_ g_; refine zE1 rfl ?_; exact ⟨Grow.rfl' _, rfl⟩
    apply zA5
    ·intro w_ g_; refine zE1 rfl ?_; exact ⟨Grow.rfl' _, rfl⟩
    apply zA5
    ·intro w_ g_; refine zE1 rfl ?_; exact ⟨Grow.rfl' _, rfl⟩
    apply zA5
    ·intro w_ g_; refine zE1 rfl ?_; exact ⟨Grow.rfl' _, rfl⟩
    apply zA5
    ·intro w_ g_
     refine og rfl ?_
     refine zH6 rfl rfl rfl ?_
     exact ⟨Grow.rfl' _, rfl⟩
    apply zA5
    ·intro w_ g_; refine og rfl ?_; (first | refine zI0 rfl ?_ | refine zE7 rfl ?_); exact ⟨Grow.rfl' _, rfl⟩
    refine zG5 ?_
    intro w20 g21
    replace hb9 := g21.heap hb9
    replace hgo9 := g21.heap hgo9
    replace h9 := h9.grow g21
    replace K9 := K9.tr g21.kp
    clear g21
    refine zA6 ?_
    refine yG7 ?_
    refine ret1 (zO5 rfl) ⟨?_, _, _, h9, K9, hnb8⟩
    simp only [decide_eq_false hA16, Bool.true_and, Bool.false_and]
theorem zU1 (w : World) {base q i : Nat} {so : Value} {segs : List Value} {A : List (List Int)} {lim x : Int} {full : Bool} (h : OwnA 37 23 w base so segs A) (hbw : base ≤ w.heap.size) (hS : Sml A) (hq : q < A.length) (hi : i < len2 A q) : Calls Tryz.prog 75 #[.agg #[so, .int .i64 lim, .bool full], .int .i64 (q : Int), .int .i64 (i : Int), .int .u64 x] w (Ret fun v w' => LayV 37 23 w' base lim v ⟨setP A q i x, full⟩ ∧ Grow w w') := by
 have hA := hS.len
 have hAs := hS.all
 have hAq := hS.seg q
 have hsl := h.len
 obtain ⟨ado, co, sa, sc, rfl, hco, hco2, RO, hsf⟩ := h.fn (by omega)
 obtain ⟨hu, owu⟩ := hsf q hq
 have G := Grow.rfl' w
 refine zC0 Tryz.func75 Tryz.ntmps75 Tryz.results75 rfl rfl ?_
 refine qZ 2 ?_
 refine stp ?_
 refine qC ?_
 intro b1 w2 hb3 hc4 g5
 have hge6 := Nat.le_trans G.size hb3
 replace G := G.tr g5
 clear g5 hb3
 refine stp (zB2 ?_)
 intro b7 w8 hb9 hc10 g11
 refine qZ 9 ?_
 have hge12 := Nat.le_trans G.size hb9
 have ne13 := qN hc4 hb9
 replace hc4 := g11.heap hc4
 replace G := G.tr g11
 clear g11 hb9
 refine qZ 1 ?_
 refine stp ?_
 have own00 := World.ownsRow_nil w8 w.heap.size 37 1
 refine zH1 rfl rfl rfl rfl own00 ⟨_, co, rfl, hco, hco2, RO.grow G⟩ h.one (by simp only [maxLen]; omega) (by omega) G.size ?_
 intro v14 w15 own5 gr6
 have g6 := qQ5 gr6
 replace hc4 := g6.heap hc4
 replace hc10 := g6.heap hc10
 replace G := G.tr g6
 clear g6 gr6 own00
 rw [Nat.zero_add, List.nil_append] at own5
 obtain ⟨g5, c5, cur5, rfl, hg5b, hg5, hc51, hc52, hc53, hc54⟩ := qF2 own5 (by omega)
 have R5 := zH3 own5 (by omega)
 obtain ⟨_, _, h5_, _, _, R5⟩ := R5
 cases h5_
 refine qZ 11 ?_
 refine stp (zD7 R5 rfl rfl ?_ ?_); omega
 refine stp (zF2 (v := .slice (sa q) (len2 A q) (sc q)) (m := 0) R5 rfl (by rw [Nat.mul_one]; exact hu) ?_)
 refine stp ?_
 have own00 := World.ownsRow_nil w15 w.heap.size 23 1
 refine zH1 rfl rfl rfl rfl own00 (zH3 (zB8 owu G) (by omega)) (fun q_ hq_ => by obtain ⟨z, _, rfl⟩ := List.mem_map.1 hq_; rfl) (by simp only [maxLen]; omega) (by omega) G.size ?_
 intro v16 w17 own6 gr6
 have g6 := qQ5 gr6
 replace hc4 := g6.heap hc4
 replace hc10 := g6.heap hc10
 replace own5 := zB8 own5 g6
 replace hg5 := g6.heap hg5
 replace R5 := R5.grow g6
 replace G := G.tr g6
 clear g6 gr6 own00
 rw [Nat.zero_add, List.nil_append] at own6
 obtain ⟨g6, c6, cur6, rfl, hg6b, hg6, hc61, hc62, hc63, hc64⟩ := qF2 own6 (by omega)
 refine qZ 2 ?_
 have n56 : g5 ≠ g6 := fun he => by rw [he, hg6] at hg5; simp at hg5
 have m4 : g6 ≠ b1 := fun he => by rw [he, hc4] at hg6; simp at hg6
 have p4 : g5 ≠ b1 := fun he => by rw [he, hc4] at hg5; simp at hg5
 have m8 : g6 ≠ b7 := fun he => by rw [he, hc10] at hg6; simp at hg6
 have p8 : g5 ≠ b7 := fun he => by rw [he, hc10] at hg5; simp at hg5
 refine qZ 5 ?_
 refine stp ?_
 refine zD4 (b := g6) (o := 0) rfl rfl (by omega) (by omega) ?_
 rw [Int.toNat_natCast, Nat.zero_add, Nat.mul_one]
 refine stn (zC2 (v := .int .u64 x) rfl rfl rfl hg6 (Nat.ble_eq_true_of_le (by omega)) rfl ?_)
 intro w7 hs6 u7
 replace own6 := zV2 (i := i) (x := .int .u64 x) own6 hg6 hs6 (by simp)
 replace own5 := zF1 own5 u7 (zD3 own5 hg6 (by decide))
 replace hg5 := u7.heap hg5 n56
 replace hc4 := u7.heap hc4 m4.symm
 replace hc10 := u7.heap hc10 m8.symm
 replace G := G.upd u7 hg6b
 clear hg6
 have hg6 := hs6
 clear hs6 R5
 refine qZ 6 ?_
 refine stp ?_
 refine zD4 (b := g5) (o := 0) rfl rfl (by omega) (by omega) ?_
 rw [Int.toNat_natCast, Nat.zero_add, Nat.mul_one]
 refine stn (zC2 (v := .slice (some ⟨g6, 0, none⟩) (len2 A q) c6) rfl rfl rfl hg5 (Nat.ble_eq_true_of_le (by omega)) rfl ?_)
 intro w8 hs5 u8
 replace own5 := zV2 (i := q) (x := .slice (some ⟨g6, 0, none⟩) (len2 A q) c6) own5 hg5 hs5 (by simp)
 replace own6 := zF1 own6 u8 (zD3 own6 hg5 (by decide))
 replace hg6 := u8.heap hg6 n56.symm
 replace hc4 := u8.heap hc4 p4.symm
 replace hc10 := u8.heap hc10 p8.symm
 replace G := G.upd u8 hg5b
 clear hg5
 have hg5 := hs5
 clear hs5
 refine qZ 5 ?_
 refine stn (zC2 (v := .slice (some ⟨g5, 0, none⟩) A.length c5) rfl rfl (by rfl) hc4 (by rfl) (by rfl) ?_)
 intro w18 hc19 u20
 replace own5 := zF1 own5 u20 (zD3 own5 hc4 (by decide))
 replace own6 := zF1 own6 u20 (zD3 own6 hc4 (by decide))
 replace hc10 := u20.heap hc10 (by omega)
 replace G := G.upd u20 hge6
 clear u20 hc4
 refine qZ 4 ?_
 refine stn (qS hc10 ?_)
 intro w21 hc22 u23
 replace own5 := zF1 own5 u23 (zD3 own5 hc10 (by decide))
 replace own6 := zF1 own6 u23 (zD3 own6 hc10 (by decide))
 replace hc19 := u23.heap hc19 (by omega)
 replace G := G.upd u23 hge12
 clear u23 hc10
 refine qZ 2 ?_
 have hcp := OwnA.copy (q := q) (u := .slice (some ⟨g6, 0, none⟩) (len2 A q) c6) (ws := (A.getD q []).set i x) (so' := .slice (some ⟨g5, 0, none⟩) A.length c5) h hbw G (Nat.le_of_lt hq) (by rw [List.length_set, zI7, List.map_set]; exact own6) (by have e1 : growB A q = A := (by unfold growB; rw [if_neg (by omega)]); have e2 : growV segs q = segs := (by unfold growV; rw [if_neg (by omega)]); rw [e1, e2]; exact qC7 own5 hbw)
 rw [show growB A q = A from by unfold growB; rw [if_neg (by omega)]] at hcp
 refine ret1 (zB0 rfl hc22 (by rfl)) ⟨⟨_, _, rfl, hcp⟩, G⟩
theorem qB2 (w : World) {base q : Nat} {so lv : Value} {segs : List Value} {A : List (List Int)} {l : List Int} {lim : Int} {full : Bool} (h : OwnA 37 23 w base so segs A) (hbw : base ≤ w.heap.size) (hS : Sml A) (hq : q ≤ A.length) (lR : Row w 1 lv l.length (zI7 l)) (hl : l.length ≤ 10000) : Calls Tryz.prog 77 #[.agg #[so, .int .i64 lim, .bool full], .int .i64 (q : Int), lv] w (Ret fun v w' => LayV 37 23 w' base lim v (zG8 lim ⟨A, full⟩ q l) ∧ Grow w w') := by
 have hA := hS.len
 have hAs := hS.all
 have hAq := hS.seg q
 have hsl := h.len
 obtain ⟨ado, co, sa, sc, rfl, hco, hco2, RO, hsf⟩ := h.fn (by omega)
 obtain ⟨adu, cu, hu, owu⟩ := h.growV hq
 obtain ⟨adl, cl, rfl, hcl, hcl2, RL⟩ := lR
 have hgl := qV0 (q := q) hsl
 have hgb := zS1 A q
 have G := Grow.rfl' w
 refine zC0 Tryz.func77 Tryz.ntmps77 Tryz.results77 rfl rfl ?_
 refine qZ 2 ?_
 refine stp ?_
 refine qC ?_
 intro b1 w2 hb3 hc4 g5
 have hge6 := Nat.le_trans G.size hb3
 replace G := G.tr g5
 clear g5 hb3
 refine stp (zB2 ?_)
 intro b7 w8 hb9 hc10 g11
 refine qZ 9 ?_
 have hge12 := Nat.le_trans G.size hb9
 have ne13 := qN hc4 hb9
 replace hc4 := g11.heap hc4
 replace G := G.tr g11
 clear g11 hb9
 refine qZ 1 ?_
 refine stp ?_
 have own00 := World.ownsRow_nil w8 w.heap.size 37 1
 refine zH1 rfl rfl rfl rfl own00 ⟨_, co, rfl, hco, hco2, RO.grow G⟩ h.one (by simp only [maxLen]; omega) (by omega) G.size ?_
 intro v14 w15 own5 gr6
 have g6 := qQ5 gr6
 replace hc4 := g6.heap hc4
 replace hc10 := g6.heap hc10
 replace G := G.tr g6
 clear g6 gr6 own00
 rw [Nat.zero_add, List.nil_append] at own5
 obtain ⟨ad5, c5, rfl, hc5⟩ := zW9 own5
 refine qZ 2 ?_
 refine qT6 (fun e_ w_ => ∃ (v5 : Value), Fr [(1, .int .i64 (q : Int)), (2, .slice adl l.length cl), (3, .pointer (some ⟨b1, 0, none⟩)), (6, .pointer (some ⟨b7, 0, none⟩)), (7, v5)] e_ ∧ (w_.heap[b1]? = some (.cells #[.slice ado A.length co, .int .i64 lim, .bool full] 99 (0, 0))) ∧ (w_.heap[b7]? = some (.cells #[.slice none 0 0, .int .i64 0, .bool false] 99 (0, 0))) ∧ (w_.ownsRow w.heap.size 37 1 v5 (growB A q).length (growV segs q)) ∧ Grow w w_) ?_ ?_
 ·-- the parts
  refine qZ 5 ?_
  refine stp (zE2 rfl rfl ?_)
  refine zA6 ?_
  refine zA3 (b := (decide ((q : Int) = (A.length : Int)))) rfl (fun hq0 => ?_) (fun hq0 => ?_)
  ·
   replace hq0 := qT hq0
   have hqA : q = A.length := by omega
   refine qZ 2 ?_
   refine stp (zB4 (cs := #[.slice none 0 0]) (el := 37) (fun w => by kernel_rfl) ?_)
   intro bs16 w17 hb18 hc19 g20
   have hge21 := Nat.le_trans G.size hb18
   have ne22 := qN hc4 hb18
   have ne23 := qN hc10 hb18
   replace hc4 := g20.heap hc4
   replace hc10 := g20.heap hc10
   replace own5 := zB8 own5 g20
   replace G := G.tr g20
   clear g20
   refine stp (zH1 rfl rfl rfl rfl own5 (Row.of_block (n := 1) hc19 rfl rfl (by omega)) (fun q_ hq_ => by simp at hq_; subst hq_; rfl) (by simp only [maxLen]; omega) (by omega) G.size ?_)
   intro v24 w25 own6 gr6
   replace G := G.grown gr6 (zJ7 own5)
   replace hc4 := zG7 gr6 hc4 (zD3 own5 hc4 (by decide))
   replace hc10 := zG7 gr6 hc10 (zD3 own5 hc10 (by decide))
   refine stp (zE7 (v := v24) rfl ?_)
   refine zA6 ?_
   have e1 : (growB A q).length = A.length + 1 := by rw [hgb, if_pos hqA]
   have e2 : growV segs q = segs ++ [.slice none 0 0] := by unfold growV; rw [if_pos (by omega)]
   have own6' : w25.ownsRow w.heap.size 37 1 v24 (growB A q).length (growV segs q) := by rw [e1, e2]; exact own6
   exact ⟨v24, zD2 ⟨rfl, rfl, rfl, rfl, rfl, trivial⟩, hc4, hc10, own6', G⟩
  ·
   replace hq0 := qF hq0
   have hqA : ¬ q = A.length := by omega
   refine zZ2 ?_
   have e1 : (growB A q).length = A.length := by rw [hgb, if_neg hqA]
   have e2 : growV segs q = segs := by unfold growV; rw [if_neg (by omega)]
   have own5' : w15.ownsRow w.heap.size 37 1 (.slice ad5 A.length c5) (growB A q).length (growV segs q) := by rw [e1, e2]; exact own5
   exact ⟨_, zD2 ⟨rfl, rfl, rfl, rfl, rfl, trivial⟩, hc4, hc10, own5', G⟩
 ·-- behind them
  clear hc4 hc10 own5
  clear G
  rintro e_ w26 ⟨v5, ⟨e27, rfl⟩, hc4, hc10, own5, G⟩
  have hqB := (zT6 hq).1
  have hgb2 := (zT6 hq).2
  obtain ⟨g5, c5, cur5, rfl, hg5b, hg5, hc51, hc52, hc53, hc54⟩ := qF2 own5 (by omega)
  have R5 := zH3 own5 (by omega)
  obtain ⟨_, _, h5_, _, _, R5⟩ := R5
  cases h5_
  refine qZ 9 ?_
  refine stp (zD7 R5 rfl rfl ?_ ?_); omega
  refine stp (zF2 (v := .slice adu (len2 A q) cu) (m := 0) R5 rfl (by rw [Nat.mul_one]; exact hu) ?_)
  refine stp ?_
  have own00 := World.ownsRow_nil w26 w.heap.size 23 1
  refine zH1 rfl rfl rfl rfl own00 (zH3 (zB8 owu G) (by omega)) (fun q_ hq_ => by obtain ⟨z, _, rfl⟩ := List.mem_map.1 hq_; rfl) (by simp only [maxLen]; omega) (by omega) G.size ?_
  intro v28 w29 own6 gr6
  have g6 := qQ5 gr6
  replace hc4 := g6.heap hc4
  replace hc10 := g6.heap hc10
  replace own5 := zB8 own5 g6
  replace hg5 := g6.heap hg5
  replace R5 := R5.grow g6
  replace G := G.tr g6
  clear g6 gr6 own00
  rw [Nat.zero_add, List.nil_append] at own6
  refine stp (zE7 (v := v28) rfl ?_)
  refine qZ 3 ?_
  refine stp (zD0 (v := v28) rfl ?_)
  refine qZ 1 ?_
  refine stp ?_
  clear R5
  refine zH1 rfl rfl rfl rfl own6 ⟨_, cl, rfl, hcl, hcl2, RL.grow G⟩ (fun q_ hq_ => by obtain ⟨z, _, rfl⟩ := List.mem_map.1 hq_; rfl) (by simp only [maxLen]; omega) (by omega) G.size ?_
  intro v30 w31 own7 gr6
  replace G := G.grown gr6 (zJ7 own6)
  replace hc4 := zG7 gr6 hc4 (zD3 own6 hc4 (by decide))
  replace hc10 := zG7 gr6 hc10 (zD3 own6 hc10 (by decide))
  replace own5 := yW3 own5 own6 (by decide) gr6
  replace hg5 := zG7 gr6 hg5 (zD3 own6 hg5 (by decide))
  clear own6 gr6
  have own7' : w31.ownsRow w.heap.size 23 1 v30 (A.getD q [] ++ l).length (zI7 (A.getD q [] ++ l)) := by rw [List.length_append, zI7, List.map_append]; exact own7
  clear own7
  obtain ⟨ad7, c7, rfl, hc7⟩ := zW9 own7'
  refine qZ 7 ?_
  refine stp ?_
  refine zD4 (b := g5) (o := 0) rfl rfl (by omega) (by omega) ?_
  rw [Int.toNat_natCast, Nat.zero_add, Nat.mul_one]
  refine stn (zC2 (v := .slice ad7 (A.getD q [] ++ l).length c7) rfl rfl rfl hg5 (Nat.ble_eq_true_of_le (by omega)) rfl ?_)
  intro w8 hs5 u8
  replace own5 := zV2 (i := q) (x := .slice ad7 (A.getD q [] ++ l).length c7) own5 hg5 hs5 (by simp)
  replace own7' := zF1 own7' u8 (zD3 own7' hg5 (by decide))
  replace hc4 := u8.heap hc4 (fun he_ => by rw [he_, hg5] at hc4; simp at hc4)
  replace hc10 := u8.heap hc10 (fun he_ => by rw [he_, hg5] at hc10; simp at hc10)
  replace G := G.upd u8 hg5b
  clear hg5 hs5
  have hcp := OwnA.copy (q := q) (u := .slice ad7 (A.getD q [] ++ l).length c7) (ws := A.getD q [] ++ l) (so' := .slice (some ⟨g5, 0, none⟩) (growB A q).length c5) h hbw G hq own7' (qC7 own5 hbw)
  have hgA : (growB A q).set q (A.getD q [] ++ l) = zI9 A q l := by unfold zI9; rw [qF4]
  rw [hgA] at hcp
  have hnr := Near.more A q l hq
  have hS9 : ∀ s ∈ zI9 A q l, s.length ≤ 100000 := by
   intro s hm
   obtain ⟨j, hj, rfl⟩ := List.getElem_of_mem hm
   have h1_ := hnr.seg j
   have h2_ := hS.seg j
   rw [len2, zF5 hj] at h1_
   omega
  have hlen9 : (growB A q).length = (zI9 A q l).length := by rw [zM6, zS1]
  clear own5 own7'
  refine qZ 5 ?_
  refine stn (zC2 (v := .slice (some ⟨g5, 0, none⟩) ((growB A q).length) c5) rfl rfl (by rfl) hc4 (by rfl) (by rfl) ?_)
  intro w32 hc33 u34
  replace hc10 := u34.heap hc10 ne13.symm
  replace hcp := hcp.upd u34 hc4 (by decide) (by decide)
  replace G := G.upd u34 hge6
  clear u34 hc4
  refine qZ 6 ?_
  refine qG 4 ?_
  refine zA4 (zB7 (s := .bool _) (v := .bool (decide (((A.getD q [] ++ l).length : Int) > lim))) rfl (zF0 _) (fun hc39 => ?_) ?_)
  ·
   have hc39_ := hc39
   try simp only [sb] at hc39_
   refine zQ7 (gvt hc39) (gvt hc39) ?_
   exact ⟨rfl, rfl⟩
  refine stp (zJ3 rfl rfl rfl ?_)
  refine qZ 1 ?_
  refine qG 2 ?_
  refine zA4 (zB7 (s := .bool _) (v := .bool (decide (((growB A q).length : Int) > 16))) rfl (zF0 _) (fun hc42 => ?_) ?_)
  ·
   have hc42_ := hc42
   try simp only [sb] at hc42_
   refine zQ7 (gvt hc42) rfl ?_
   exact ⟨rfl, rfl⟩
  refine stp (zJ3 rfl rfl rfl ?_)
  refine qZ 1 ?_
  refine qG 1 ?_
  refine zA4 (zZ5 (s := .bool ((full || (decide (((A.getD q [] ++ l).length : Int) > lim))) || (decide (((growB A q).length : Int) > 16)))) (b := false) (v := .int .i64 (zB9 (zI9 A q l))) rfl (zF0 _) (fun hc44 => ?_) ?_)
  ·
   have hc44_ := hc44
   try simp only [sb] at hc44_
   exact zO6 (l := ([.slice (some ⟨g5, 0, none⟩) ((growB A q).length) c5] : List Value)) rfl (by show ([gv (!((full || (decide (((A.getD q [] ++ l).length : Int) > lim))) || (decide (((growB A q).length : Int) > 16)))) (.slice (some ⟨g5, 0, none⟩) ((growB A q).length) c5)] : List Value) = _; rw [gvt hc44]) (qV7 _ (hcp.rowat (by omega)).2 hlen9.symm (hcp.rows hS9) (by omega) hS9) (fun w2_ g2_ => ⟨rfl, g2_⟩)
  intro w45 g46
  replace hc10 := g46.heap hc10
  replace hcp := hcp.grow g46
  replace hc33 := g46.heap hc33
  replace G := G.tr g46
  clear g46
  refine zA4 (zB7 (s := .bool _) (v := .bool (decide ((zB9 (zI9 A q l)) > 4096))) rfl (zF0 _) (fun hc47 => ?_) ?_)
  ·
   have hc47_ := hc47
   try simp only [sb] at hc47_
   refine zQ7 (gvt hc47) rfl ?_
   exact ⟨rfl, rfl⟩
  refine stp (zJ3 rfl rfl rfl ?_)
  refine qZ 1 ?_
  refine stn (zC2 (v := .bool (((full || (decide (((A.getD q [] ++ l).length : Int) > lim))) || (decide (((growB A q).length : Int) > 16))) || (decide ((zB9 (zI9 A q l)) > 4096)))) rfl rfl (by rfl) hc33 (by rfl) (by rfl) ?_)
  intro w48 hc49 u50
  replace hc10 := u50.heap hc10 ne13.symm
  replace hcp := hcp.upd u50 hc33 (by decide) (by decide)
  replace G := G.upd u50 hge6
  clear u50 hc33
  refine qZ 4 ?_
  refine stn (qS hc10 ?_)
  intro w51 hc52 u53
  replace hcp := hcp.upd u53 hc10 (by decide) (by decide)
  replace hc49 := u53.heap hc49 ne13
  replace G := G.upd u53 hge12
  clear u53 hc10
  refine qZ 2 ?_
  have hfo := yY4 full ((A.getD q [] ++ l).length : Int) ((growB A q).length : Int) (zB9 (zI9 A q l)) lim
  refine ret1 (zB0 rfl hc52 (by rfl)) ⟨⟨_, _, ?_, hcp⟩, G⟩
  rw [hfo]
  simp only [zG8, qQ7, hlen9]
  rw [show len2 (zI9 A q l) q = (A.getD q [] ++ l).length from by simp only [len2]; rw [zJ0 A q q l hq, if_pos rfl]]
  rfl
theorem yJ0 : ∀ (n_ : Nat) (w : World) {base s i : Nat} {so : Value} {segs : List Value} {S : Lay} {lim : Int} {c : List Value} {t : Nd} (h : OwnA 37 23 w base so segs S.A) (hbw : base ≤ w.heap.size) (T : NodeR w c t) (hR : t.fine) (hone : 1 ≤ S.A.length) (hl1 : 1 ≤ lim) (hl2 : lim ≤ 4096) (hF : S.full = false → Fit lim S.A ∧ s < S.A.length ∧ i < len2 S.A s), t.sz ≤ n_ → Calls Tryz.prog 42 #[.agg #[so, .int .i64 lim, .bool S.full], .agg c.toArray, .int .i64 (s : Int), .int .i64 (i : Int)] w (Ret fun v w' => LayV 37 23 w' base lim v (t.lay lim S s i) ∧ Grow w w') := by
 intro n_
 induction n_ with
 | zero => intro w base s i so segs S lim c t h hbw T hR hone hl1 hl2 hF hm_; exact absurd hm_ (by have := t.sz_pos; omega)
 | succ n_ ih_ =>
 intro w base s i so segs S lim c t h hbw T hR hone hl1 hl2 hF hm_
 obtain ⟨ads, ns, cs, rfl⟩ := zE6 h.out
 have Tk := T
 obtain @⟨kind, size, words, bytes, kids, ws, bs, ks, kc, hk, hs, hW, hwr, hB, hbr, hK, hKs⟩ := T
 obtain ⟨aw, cw, rfl, hcw, hcw2, RW⟩ := hW
 obtain ⟨ab, cb, rfl, hcb, hcb2, RB⟩ := hB
 obtain ⟨ak, ck, rfl, hck, hck2, RK⟩ := hK
 have lw := RW.lim
 have lb := RB.lim
 have lk := RK.lim
 simp only [inR] at hk hs
 have T0 := Tk
 obtain ⟨hkd, hlw, hlb, hlk, hnn, hnm, hkn, hb1⟩ := Nd.own_b (Nd.fine_own hR)
 have G := Grow.rfl' w
 refine zC0 Tryz.func42 Tryz.ntmps42 Tryz.results42 rfl rfl ?_
 refine qZ 2 ?_
 refine stp ?_
 refine qC ?_
 intro b1 w2 hb3 hc4 g5
 have hge6 := Nat.le_trans G.size hb3
 replace h := h.grow g5
 replace G := G.tr g5
 clear g5 hb3
 refine stp ?_
 refine qC ?_
 intro b7 w8 hb9 hc10 g11
 have hge12 := Nat.le_trans G.size hb9
 have ne13 := qN hc4 hb9
 replace h := h.grow g11
 replace hc4 := g11.heap hc4
 replace G := G.tr g11
 clear g11 hb9
 refine stp (zB2 ?_)
 intro b14 w15 hb16 hc17 g18
 refine qZ 5 ?_
 have hge19 := Nat.le_trans G.size hb16
 have ne20 := qN hc4 hb16
 have ne21 := qN hc10 hb16
 replace h := h.grow g18
 replace hc4 := g18.heap hc4
 replace hc10 := g18.heap hc10
 replace G := G.tr g18
 clear g18 hb16
 refine qZ 1 ?_
 refine stp (zE2 rfl rfl ?_)
 refine qZ 1 ?_
 refine qG 2 ?_
 refine stp (zJ3 rfl rfl rfl ?_)
 refine zA6 ?_
 refine zA3 (b := ((decide (kind = 0)) || S.full)) rfl (fun h1 => ?_) (fun h1 => ?_)
 ·
  simp only [sb] at h1
  have hl : (Nd.mk kind size words bytes kids).lay lim S s i = S := by simp only [Nd.lay]; rw [if_pos h1]
  refine qZ 3 ?_
  refine stn (qS hc17 ?_)
  intro w24 hc25 u26
  replace h := h.upd u26 hc17 (by decide) (by decide)
  replace hc4 := u26.heap hc4 ne20
  replace hc10 := u26.heap hc10 ne21
  replace G := G.upd u26 hge19
  clear u26 hc17
  refine qZ 2 ?_
  rw [hl]
  refine ret1 (zB0 rfl hc25 (by rfl)) ⟨⟨_, _, rfl, h⟩, G⟩
 ·
  simp only [sb] at h1
  obtain ⟨h1k, h1f⟩ := h1
  obtain ⟨F, hsA, hiA⟩ := hF h1f
  have FS := F.sml hl2
  have hA16 := F.most
  have htn := zK5 S.A
  refine qZ 4 ?_
  refine stp (zA2 (v := .int .i64 ((Nd.mk kind size words bytes kids).need)) rfl (yA2 _ (T0.grow G)) ?_)
  intro w27 g28
  replace h := h.grow g28
  replace hc4 := g28.heap hc4
  replace hc10 := g28.heap hc10
  replace hc17 := g28.heap hc17
  replace G := G.tr g28
  clear g28
  refine qZ 6 ?_
  refine stp (zE2 rfl rfl ?_)
  refine zA6 ?_
  refine zA3 (b := (decide (((Nd.mk kind size words bytes kids).need) = 0))) rfl (fun h2 => ?_) (fun h2 => ?_)
  ·
   replace h2 := qT h2
   refine qZ 9 ?_
   refine stp (zE2 rfl rfl ?_)
   refine zA6 ?_
   refine zA3 (b := (decide (kind = 1))) rfl (fun h3 => ?_) (fun h3 => ?_)
   ·
    replace h3 := qT h3
    have hl : (Nd.mk kind size words bytes kids).lay lim S s i = ⟨setP S.A s i ((Nd.mk kind size words bytes kids).near (-1)), S.full⟩ := by simp only [Nd.lay]; rw [if_neg (by simp [h1k, h1f]), if_pos h2, if_pos h3]
    refine qZ 4 ?_
    refine zK0 7 [[], [], [], [], [], [1, 0], [5, 4, 3, 2, 1, 0]] mixed (by kernel_rfl) (by kernel_rfl) (by kernel_rfl) ?_
    intro w29 g30
    replace h := h.grow g30
    replace hc4 := g30.heap hc4
    replace hc10 := g30.heap hc10
    replace hc17 := g30.heap hc17
    replace G := G.tr g30
    clear g30
    refine qA 5 ?_
    apply zA5
    ·intro w_ g_; refine og rfl ?_; exact zA2 (v := .int .u64 ((Nd.mk kind size words bytes kids).near (-1))) rfl (zR3 _ (T0.grow (G.tr g_)) (-1) (by simp only [Nd.kind]; omega)) (fun w2_ g2_ => ⟨g2_, rfl⟩)
    refine zS5 (fun w_ v_ => LayV 37 23 w_ base lim v_ (⟨setP (S.A) s i ((Nd.mk kind size words bytes kids).near (-1)), S.full⟩)) (fun _ _ _ g_ h_ => h_.grow g_) ?_ ?_
    ·intro w_ g_
     refine og rfl ?_
     refine zC8 rfl (zU1 _ (h.grow g_) (Nat.le_trans hbw (G.tr g_).size) FS hsA hiA) ?_
     rintro v2_ w2_ ⟨hl_, g2_⟩
     exact ⟨g2_, hl_⟩
    refine zG5 ?_
    intro w31 g32
    replace h := h.grow g32
    replace hc4 := g32.heap hc4
    replace hc10 := g32.heap hc10
    replace hc17 := g32.heap hc17
    replace G := G.tr g32
    clear g32
    intro v_p hv_p
    obtain ⟨so_p, segs_p, rfl, h_p⟩ := hv_p
    obtain ⟨ad_p, n_p, c_p, rfl⟩ := zE6 h_p.out
    refine stn (qS hc17 ?_)
    intro w33 hc34 u35
    replace h := h.upd u35 hc17 (by decide) (by decide)
    replace hc4 := u35.heap hc4 ne20
    replace hc10 := u35.heap hc10 ne21
    replace h_p := h_p.upd u35 hc17 (by decide) (by decide)
    replace G := G.upd u35 hge19
    clear u35 hc17
    refine qZ 2 ?_
    rw [hl]
    refine ret1 (zB0 rfl hc34 (by rfl)) ⟨⟨_, _, rfl, h_p⟩, G⟩
   ·
    replace h3 := qF h3
    have hl : (Nd.mk kind size words bytes kids).lay lim S s i = ⟨setP S.A s i ((Nd.mk kind size words bytes kids).near (0)), S.full⟩ := by simp only [Nd.lay]; rw [if_neg (by simp [h1k, h1f]), if_pos h2, if_neg h3]
    refine qZ 2 ?_
    refine zK0 7 [[], [], [], [], [], [1, 0], [5, 4, 3, 2, 1, 0]] mixed (by kernel_rfl) (by kernel_rfl) (by kernel_rfl) ?_
    intro w36 g37
    replace h := h.grow g37
    replace hc4 := g37.heap hc4
    replace hc10 := g37.heap hc10
    replace hc17 := g37.heap hc17
    replace G := G.tr g37
    clear g37
    refine qA 5 ?_
    apply zA5
    ·intro w_ g_; refine og rfl ?_; exact zA2 (v := .int .u64 ((Nd.mk kind size words bytes kids).near 0)) rfl (zR3 _ (T0.grow (G.tr g_)) (0) (by simp only [Nd.kind]; omega)) (fun w2_ g2_ => ⟨g2_, rfl⟩)
    refine zS5 (fun w_ v_ => LayV 37 23 w_ base lim v_ (⟨setP (S.A) s i ((Nd.mk kind size words bytes kids).near (0)), S.full⟩)) (fun _ _ _ g_ h_ => h_.grow g_) ?_ ?_
    ·intro w_ g_
     refine og rfl ?_
     refine zC8 rfl (zU1 _ (h.grow g_) (Nat.le_trans hbw (G.tr g_).size) FS hsA hiA) ?_
     rintro v2_ w2_ ⟨hl_, g2_⟩
     exact ⟨g2_, hl_⟩
    refine zG5 ?_
    intro w38 g39
    replace h := h.grow g39
    replace hc4 := g39.heap hc4
    replace hc10 := g39.heap hc10
    replace hc17 := g39.heap hc17
    replace G := G.tr g39
    clear g39
    intro v_p hv_p
    obtain ⟨so_p, segs_p, rfl, h_p⟩ := hv_p
    obtain ⟨ad_p, n_p, c_p, rfl⟩ := zE6 h_p.out
    refine stn (qS hc17 ?_)
    intro w40 hc41 u42
    replace h := h.upd u42 hc17 (by decide) (by decide)
    replace hc4 := u42.heap hc4 ne20
    replace hc10 := u42.heap hc10 ne21
    replace h_p := h_p.upd u42 hc17 (by decide) (by decide)
    replace G := G.upd u42 hge19
    clear u42 hc17
    refine qZ 2 ?_
    rw [hl]
    refine ret1 (zB0 rfl hc41 (by rfl)) ⟨⟨_, _, rfl, h_p⟩, G⟩
  ·
   replace h2 := qF h2
   have hp0 := qD3 lim (Nd.mk kind size words bytes kids) S s i F.one
   have hpn := qZ7 lim (Nd.mk kind size words bytes kids) S s i F.one
   obtain ⟨hlast, hlastE⟩ := qQ8 F.one
   have hlseg := F.seg (zA8 S.A)
   have hl : (Nd.mk kind size words bytes kids).lay lim S s i = Nd.lays lim kids (zG8 lim (zC6 lim (Nd.mk kind size words bytes kids) S s i).S (zC6 lim (Nd.mk kind size words bytes kids) S s i).seg (Nd.mk kind size words bytes kids).content) (zC6 lim (Nd.mk kind size words bytes kids) S s i).seg ((zC6 lim (Nd.mk kind size words bytes kids) S s i).at_ + ((Nd.mk kind size words bytes kids).need.toNat - kids.length)) := by simp only [Nd.lay]; rw [if_neg (by simp [h1k, h1f]), if_neg h2]
   rw [hl]
   clear hl
   obtain ⟨ado, co, sa, sc, hso_, hco, hco2, RO, hsf⟩ := h.fn (by omega)
   cases hso_
   refine qZ 6 ?_
   refine stp ?_
   refine zL2 rfl rfl ?_ ?_; constructor <;> omega
   rw [hlastE]
   refine qZ 12 ?_
   refine stp (zD7 RO rfl rfl ?_ ?_); omega
   refine stp (zF2 (v := .slice (sa (zA8 S.A)) (len2 S.A (zA8 S.A)) (sc (zA8 S.A))) (m := 0) RO rfl (by rw [Nat.mul_one]; exact (hsf _ (by assumption)).1) ?_)
   refine qZ 3 ?_
   refine qT6 (fun e_ w_ => ∃ (ad4 : Option Addr) (n4 : Nat) (c4 : Nat) (segs4 : List Value), Fr [(4, .pointer (some ⟨b1, 0, none⟩)), (5, .pointer (some ⟨b7, 0, none⟩)), (8, .pointer (some ⟨b14, 0, none⟩)), (9, .int .i64 ((Nd.mk kind size words bytes kids).need)), (12, .int .i64 ((zC6 lim (Nd.mk kind size words bytes kids) S s i).seg : Int)), (13, .int .i64 ((zC6 lim (Nd.mk kind size words bytes kids) S s i).at_ : Int))] e_ ∧ (w_.heap[b7]? = some (.cells #[.int .i64 kind, .int .i64 size, .slice aw words.length cw, .slice ab bytes.length cb, .slice ak kids.length ck] 48 (0, 0))) ∧ (w_.heap[b14]? = some (.cells #[.slice none 0 0, .int .i64 0, .bool false] 99 (0, 0))) ∧ (w_.heap[b1]? = some (.cells #[.slice ad4 n4 c4, .int .i64 lim, .bool (zC6 lim (Nd.mk kind size words bytes kids) S s i).S.full] 99 (0, 0))) ∧ (OwnA 37 23 w_ base (.slice ad4 n4 c4) segs4 ((zC6 lim (Nd.mk kind size words bytes kids) S s i).S.A)) ∧ Grow w w_) ?_ ?_
   ·-- the parts
    refine qZ 4 ?_
    refine stp (zE2 rfl rfl ?_)
    refine qZ 1 ?_
    refine qG 2 ?_
    refine zA4 (zB7 (s := .bool _) (v := .int .i64 (((len2 S.A (zA8 S.A)) : Int) + ((Nd.mk kind size words bytes kids).need))) rfl (zG3 _) (fun hc45 => ?_) ?_)
    ·
     have hc45_ := qT hc45
     refine zC3 (gvt hc45) (gvt hc45) ?_ ?_; constructor <;> omega
     exact ⟨rfl, rfl⟩
    refine qG 2 ?_
    refine zA4 (zB7 (s := .bool _) (v := .bool (decide ((((len2 S.A (zA8 S.A)) : Int) + ((Nd.mk kind size words bytes kids).need)) ≤ lim))) rfl (zG3 _) (fun hc48 => ?_) ?_)
    ·
     have hc48_ := qT hc48
     refine zQ6 (gvt hc48) (gvt hc48) ?_
     exact ⟨rfl, rfl⟩
    refine stp (zI8 rfl rfl rfl ?_)
    refine zA6 ?_
    refine zA3 (b := ((decide ((s : Int) = (zA8 S.A : Int))) && (decide ((((len2 S.A (zA8 S.A)) : Int) + ((Nd.mk kind size words bytes kids).need)) ≤ lim)))) rfl (fun h3 => ?_) (fun h3 => ?_)
    ·
     simp only [sb] at h3
     have hsl : s = zA8 S.A := by omega
     have hi2 := hiA
     rw [hsl] at hi2
     have hp : (zC6 lim (Nd.mk kind size words bytes kids) S s i) = ⟨⟨setP S.A s i ((Nd.mk kind size words bytes kids).near ((len2 S.A (zA8 S.A) : Int) - i - 1)), S.full⟩, zA8 S.A, len2 S.A (zA8 S.A)⟩ := by unfold zC6; rw [if_pos ⟨by omega, h3.2⟩]
     refine zK0 10 [[], [], [], [], [], [], [1, 0], [2, 1, 0], [4, 3, 2, 1, 0], [8, 7, 6, 5, 4, 3, 2, 1, 0]] mixed (by kernel_rfl) (by kernel_rfl) (by kernel_rfl) ?_
     intro w49 g50
     replace hc10 := g50.heap hc10
     replace hc17 := g50.heap hc17
     replace hc4 := g50.heap hc4
     replace h := h.grow g50
     replace RO := RO.grow g50
     replace G := G.tr g50
     clear g50
     refine qA 6 ?_
     apply zA5
     ·intro w_ g_; refine og rfl ?_; refine zL2 rfl rfl ?_ ?_; constructor <;> omega; exact qX
     apply zA5
     ·intro w_ g_; refine og rfl ?_; refine zL2 rfl rfl ?_ ?_; constructor <;> omega; exact qX
     apply zA5
     ·intro w_ g_; refine og rfl ?_; exact zA2 (v := .int .u64 ((Nd.mk kind size words bytes kids).near ((((len2 S.A (zA8 S.A)) : Int) - (i : Int)) - 1))) rfl (zR3 _ (T0.grow (G.tr g_)) ((((len2 S.A (zA8 S.A)) : Int) - (i : Int)) - 1) (by simp only [Nd.kind]; omega)) (fun w2_ g2_ => ⟨g2_, rfl⟩)
     refine zS5 (fun w_ v_ => LayV 37 23 w_ base lim v_ (⟨setP (S.A) s i ((Nd.mk kind size words bytes kids).near ((len2 S.A (zA8 S.A) : Int) - i - 1)), S.full⟩)) (fun _ _ _ g_ h_ => h_.grow g_) ?_ ?_
     ·intro w_ g_
      refine og rfl ?_
      refine zC8 rfl (zU1 _ (h.grow g_) (Nat.le_trans hbw (G.tr g_).size) FS hsA hiA) ?_
      rintro v2_ w2_ ⟨hl_, g2_⟩
      exact ⟨g2_, hl_⟩
     refine zG5 ?_
     intro w51 g52
     replace hc10 := g52.heap hc10
     replace hc17 := g52.heap hc17
     replace hc4 := g52.heap hc4
     replace h := h.grow g52
     replace RO := RO.grow g52
     replace G := G.tr g52
     clear g52
     intro v_p hv_p
     obtain ⟨so_p, segs_p, rfl, h_p⟩ := hv_p
     obtain ⟨ad_p, n_p, c_p, rfl⟩ := zE6 h_p.out
     refine stn (qS hc4 ?_)
     intro w53 hc54 u55
     replace hc10 := u55.heap hc10 ne13.symm
     replace hc17 := u55.heap hc17 ne20.symm
     replace h := h.upd u55 hc4 (by decide) (by decide)
     replace h_p := h_p.upd u55 hc4 (by decide) (by decide)
     replace G := G.upd u55 hge6
     clear u55 hc4
     refine zA6 ?_
     rw [hp]
     exact ⟨_, _, _, _, zD2 ⟨rfl, rfl, rfl, rfl, rfl, rfl, trivial⟩, hc10, hc17, hc54, h_p, G⟩
    ·
     simp only [sb] at h3
     refine qZ 5 ?_
     refine stp (zE2 rfl rfl ?_)
     refine qZ 1 ?_
     refine qG 2 ?_
     refine zA4 (zB7 (s := .bool _) (v := .int .i64 (((len2 S.A (zA8 S.A)) : Int) + ((Nd.mk kind size words bytes kids).need))) rfl (zF0 _) (fun hc58 => ?_) ?_)
     ·
      have hc58_ := hc58
      try simp only [sb] at hc58_
      refine zC3 (gvt hc58) (gvt hc58) ?_ ?_; constructor <;> omega
      exact ⟨rfl, rfl⟩
     refine zA4 (zB7 (s := .bool _) (v := .int .i64 ((((len2 S.A (zA8 S.A)) : Int) + ((Nd.mk kind size words bytes kids).need)) + 1)) rfl (zF0 _) (fun hc59 => ?_) ?_)
     ·
      have hc59_ := hc59
      try simp only [sb] at hc59_
      refine zC3 (gvt hc59) rfl ?_ ?_; constructor <;> omega
      exact ⟨rfl, rfl⟩
     refine qG 2 ?_
     refine zA4 (zB7 (s := .bool _) (v := .bool (decide (((((len2 S.A (zA8 S.A)) : Int) + ((Nd.mk kind size words bytes kids).need)) + 1) > lim))) rfl (zF0 _) (fun hc62 => ?_) ?_)
     ·
      have hc62_ := hc62
      try simp only [sb] at hc62_
      refine zQ7 (gvt hc62) (gvt hc62) ?_
      exact ⟨rfl, rfl⟩
     refine stp (zJ3 rfl rfl rfl ?_)
     refine zA6 ?_
     refine zA3 (b := ((decide ((s : Int) = (zA8 S.A : Int))) || (decide (((((len2 S.A (zA8 S.A)) : Int) + ((Nd.mk kind size words bytes kids).need)) + 1) > lim)))) rfl (fun h4 => ?_) (fun h4 => ?_)
     ·
      simp only [sb] at h4
      have hp : (zC6 lim (Nd.mk kind size words bytes kids) S s i) = ⟨zG8 lim ⟨setP S.A s i (farP ((zA8 S.A : Int) + 1) 0), S.full⟩ (zA8 S.A + 1) [(Nd.mk kind size words bytes kids).near 0], zA8 S.A + 1, 1⟩ := by unfold zC6; rw [if_neg (by omega), if_pos (by simp only [qJ7, Bool.or_eq_true, decide_eq_true_eq]; omega)]
      have hqc0 : ((zA8 S.A + 1 : Nat) : Int) = ((zA8 S.A : Int) + 1) := by omega
      refine qZ 3 ?_
      refine stp (zC3 rfl rfl ?_ ?_); constructor <;> omega
      refine qZ 6 ?_
      refine zK0 12 [[], [], [], [], [], [1, 0], [5, 4, 3, 2, 1, 0], [], [], [8, 7, 6, 5, 4, 3, 2, 0], [9, 8, 7, 6, 5, 4, 3, 1, 0], [10, 9, 8, 7, 6, 5, 4, 3, 2, 1, 0]] mixed (by kernel_rfl) (by kernel_rfl) (by kernel_rfl) ?_
      intro w63 g64
      replace hc10 := g64.heap hc10
      replace hc17 := g64.heap hc17
      replace hc4 := g64.heap hc4
      replace h := h.grow g64
      replace RO := RO.grow g64
      replace G := G.tr g64
      clear g64
      refine qA 5 ?_
      apply zA5
      ·intro w_ g_; refine og rfl ?_; exact zA2 (v := .int .u64 (farP ((zA8 S.A : Int) + 1) 0)) rfl (qO3 _ ((zA8 S.A : Int) + 1) 0) (fun w2_ g2_ => ⟨g2_, rfl⟩)
      refine zS5 (fun w_ v_ => LayV 37 23 w_ base lim v_ (⟨setP (S.A) s i (farP ((zA8 S.A : Int) + 1) 0), S.full⟩)) (fun _ _ _ g_ h_ => h_.grow g_) ?_ ?_
      ·intro w_ g_
       refine og rfl ?_
       refine zC8 rfl (zU1 _ (h.grow g_) (Nat.le_trans hbw (G.tr g_).size) FS hsA hiA) ?_
       rintro v2_ w2_ ⟨hl_, g2_⟩
       exact ⟨g2_, hl_⟩
      refine qA 2 ?_
      apply zA5
      ·intro w_ g_; intro v6_ hv6_; show OpG _ _ _ _ _ _; refine og rfl ?_; exact zA2 (v := .int .u64 ((Nd.mk kind size words bytes kids).near 0)) rfl (zR3 _ (T0.grow (G.tr g_)) (0) (by simp only [Nd.kind]; omega)) (fun w2_ g2_ => ⟨g2_, rfl⟩)
      refine zS5 (fun w_ v_ => Row w_ 1 v_ 1 (zI7 [(Nd.mk kind size words bytes kids).near 0])) (fun _ _ _ g_ h_ => h_.grow g_) ?_ ?_
      ·intro w_ g_
       intro v6_ hv6_; show OpG _ _ _ _ _ _
       refine og rfl ?_
       refine zB4 (cs := #[.int .u64 ((Nd.mk kind size words bytes kids).near 0)]) (el := 23) (fun w => by kernel_rfl) ?_
       intro bs_ w2_ hb_ hc_ g2_
       exact ⟨g2_, Row.of_block (n := 1) hc_ rfl rfl (by omega)⟩
      refine zS5 (fun w_ v_ => LayV 37 23 w_ base lim v_ (zG8 lim ⟨setP S.A s i (farP ((zA8 S.A : Int) + 1) 0), S.full⟩ (zA8 S.A + 1) [(Nd.mk kind size words bytes kids).near 0])) (fun _ _ _ g_ h_ => h_.grow g_) ?_ ?_
      ·intro w_ g_
       intro v6_ hv6_; intro v10_ hv10_; show OpG _ _ _ _ _ _
       refine og rfl ?_
       obtain ⟨so_p, segs_p, rfl, h_p⟩ := hv6_
       have hqc : ((zA8 S.A + 1 : Nat) : Int) = ((zA8 S.A : Int) + 1) := by omega
       have hcal := qB2 _ (q := zA8 S.A + 1) (lim := lim) (full := S.full) (l := [(Nd.mk kind size words bytes kids).near 0]) h_p (Nat.le_trans hbw (G.tr g_).size) (FS.set s i (farP ((zA8 S.A : Int) + 1) 0)) (by rw [zD5]; omega) hv10_ (by simp)
       rw [hqc] at hcal
       refine zC8 rfl hcal ?_
       rintro v2_ w2_ ⟨hl_, g2_⟩
       exact ⟨g2_, hl_⟩
      refine zG5 ?_
      intro w65 g66
      replace hc10 := g66.heap hc10
      replace hc17 := g66.heap hc17
      replace hc4 := g66.heap hc4
      replace h := h.grow g66
      replace RO := RO.grow g66
      replace G := G.tr g66
      clear g66
      intro v_p hv_p
      intro v_l hv_l
      intro v_m hv_m
      obtain ⟨so_m, segs_m, rfl, h_m⟩ := hv_m
      obtain ⟨ad_m, n_m, c_m, rfl⟩ := zE6 h_m.out
      refine stn (qS hc4 ?_)
      intro w67 hc68 u69
      replace hc10 := u69.heap hc10 ne13.symm
      replace hc17 := u69.heap hc17 ne20.symm
      replace h := h.upd u69 hc4 (by decide) (by decide)
      replace h_m := h_m.upd u69 hc4 (by decide) (by decide)
      replace G := G.upd u69 hge6
      clear u69 hc4
      refine qZ 3 ?_
      refine stp (zC3 rfl rfl ?_ ?_); constructor <;> omega
      refine qZ 2 ?_
      rw [hp]
      exact ⟨_, _, _, _, zD2 ⟨rfl, rfl, rfl, rfl, rfl, rfl, trivial⟩, hc10, hc17, hc68, h_m, G⟩
     ·
      simp only [sb] at h4
      have hp : (zC6 lim (Nd.mk kind size words bytes kids) S s i) = ⟨zG8 lim ⟨setP S.A s i (farP (zA8 S.A) (len2 S.A (zA8 S.A))), S.full⟩ (zA8 S.A) [(Nd.mk kind size words bytes kids).near 0], zA8 S.A, len2 S.A (zA8 S.A) + 1⟩ := by unfold zC6; rw [if_neg (by omega), if_neg (by simp only [qJ7, Bool.or_eq_true, decide_eq_true_eq]; omega)]
      refine qZ 2 ?_
      refine zK0 12 [[], [], [], [], [], [1, 0], [5, 4, 3, 2, 1, 0], [], [], [8, 7, 6, 5, 4, 3, 2, 0], [9, 8, 7, 6, 5, 4, 3, 1, 0], [10, 9, 8, 7, 6, 5, 4, 3, 2, 1, 0]] mixed (by kernel_rfl) (by kernel_rfl) (by kernel_rfl) ?_
      intro w70 g71
      replace hc10 := g71.heap hc10
      replace hc17 := g71.heap hc17
      replace hc4 := g71.heap hc4
      replace h := h.grow g71
      replace RO := RO.grow g71
      replace G := G.tr g71
      clear g71
      refine qA 5 ?_
      apply zA5
      ·intro w_ g_; refine og rfl ?_; exact zA2 (v := .int .u64 (farP (zA8 S.A : Int) (len2 S.A (zA8 S.A) : Int))) rfl (qO3 _ (zA8 S.A : Int) (len2 S.A (zA8 S.A) : Int)) (fun w2_ g2_ => ⟨g2_, rfl⟩)
      refine zS5 (fun w_ v_ => LayV 37 23 w_ base lim v_ (⟨setP (S.A) s i (farP (zA8 S.A : Int) (len2 S.A (zA8 S.A) : Int)), S.full⟩)) (fun _ _ _ g_ h_ => h_.grow g_) ?_ ?_
      ·intro w_ g_
       refine og rfl ?_
       refine zC8 rfl (zU1 _ (h.grow g_) (Nat.le_trans hbw (G.tr g_).size) FS hsA hiA) ?_
       rintro v2_ w2_ ⟨hl_, g2_⟩
       exact ⟨g2_, hl_⟩
      refine qA 2 ?_
      apply zA5
      ·intro w_ g_; intro v6_ hv6_; show OpG _ _ _ _ _ _; refine og rfl ?_; exact zA2 (v := .int .u64 ((Nd.mk kind size words bytes kids).near 0)) rfl (zR3 _ (T0.grow (G.tr g_)) (0) (by simp only [Nd.kind]; omega)) (fun w2_ g2_ => ⟨g2_, rfl⟩)
      refine zS5 (fun w_ v_ => Row w_ 1 v_ 1 (zI7 [(Nd.mk kind size words bytes kids).near 0])) (fun _ _ _ g_ h_ => h_.grow g_) ?_ ?_
      ·intro w_ g_
       intro v6_ hv6_; show OpG _ _ _ _ _ _
       refine og rfl ?_
       refine zB4 (cs := #[.int .u64 ((Nd.mk kind size words bytes kids).near 0)]) (el := 23) (fun w => by kernel_rfl) ?_
       intro bs_ w2_ hb_ hc_ g2_
       exact ⟨g2_, Row.of_block (n := 1) hc_ rfl rfl (by omega)⟩
      refine zS5 (fun w_ v_ => LayV 37 23 w_ base lim v_ (zG8 lim ⟨setP S.A s i (farP (zA8 S.A : Int) (len2 S.A (zA8 S.A) : Int)), S.full⟩ (zA8 S.A) [(Nd.mk kind size words bytes kids).near 0])) (fun _ _ _ g_ h_ => h_.grow g_) ?_ ?_
      ·intro w_ g_
       intro v6_ hv6_; intro v10_ hv10_; show OpG _ _ _ _ _ _
       refine og rfl ?_
       obtain ⟨so_p, segs_p, rfl, h_p⟩ := hv6_
       have hqc : ((zA8 S.A : Nat) : Int) = (zA8 S.A : Int) := by omega
       have hcal := qB2 _ (q := zA8 S.A) (lim := lim) (full := S.full) (l := [(Nd.mk kind size words bytes kids).near 0]) h_p (Nat.le_trans hbw (G.tr g_).size) (FS.set s i (farP (zA8 S.A : Int) (len2 S.A (zA8 S.A) : Int))) (by rw [zD5]; omega) hv10_ (by simp)
       rw [hqc] at hcal
       refine zC8 rfl hcal ?_
       rintro v2_ w2_ ⟨hl_, g2_⟩
       exact ⟨g2_, hl_⟩
      refine zG5 ?_
      intro w72 g73
      replace hc10 := g73.heap hc10
      replace hc17 := g73.heap hc17
      replace hc4 := g73.heap hc4
      replace h := h.grow g73
      replace RO := RO.grow g73
      replace G := G.tr g73
      clear g73
      intro v_p hv_p
      intro v_l hv_l
      intro v_m hv_m
      obtain ⟨so_m, segs_m, rfl, h_m⟩ := hv_m
      obtain ⟨ad_m, n_m, c_m, rfl⟩ := zE6 h_m.out
      refine stn (qS hc4 ?_)
      intro w74 hc75 u76
      replace hc10 := u76.heap hc10 ne13.symm
      replace hc17 := u76.heap hc17 ne20.symm
      replace h := h.upd u76 hc4 (by decide) (by decide)
      replace h_m := h_m.upd u76 hc4 (by decide) (by decide)
      replace G := G.upd u76 hge6
      clear u76 hc4
      refine qZ 3 ?_
      refine stp (zC3 rfl rfl ?_ ?_); constructor <;> omega
      refine qZ 2 ?_
      rw [hp]
      exact ⟨_, _, _, _, zD2 ⟨rfl, rfl, rfl, rfl, rfl, rfl, trivial⟩, hc10, hc17, hc75, h_m, G⟩
   ·-- behind them
    clear hc10 hc17 hc4 h RO
    clear G
    rintro e_ w77 ⟨ad4, n4, c4, segs4, ⟨e78, rfl⟩, hc10, hc17, hc4, h, G⟩
    obtain ⟨hpG, hpS, hpA, hpF, hpU⟩ := hp0
    generalize (zC6 lim (Nd.mk kind size words bytes kids) S s i) = p at *
    have hpl := FS.len
    have hSp : Sml p.S.A := ⟨by have := hpn.len; omega, fun j => by have := hpn.seg j; have := F.seg j; omega⟩
    have hpb := hSp.seg p.seg
    rw [← hpA] at hpb
    have hco : ((Nd.mk kind size words bytes kids).content.length : Int) = (Nd.mk kind size words bytes kids).need := Nd.content_length _ (by simp only [Nd.kind]; omega) (by simpa only [Nd.kind, Nd.bytes] using hb1)
    have hok := LayOk.more lim p.S p.seg (Nd.mk kind size words bytes kids).content (Nat.le_of_lt hpS)
    have hge2 : p.at_ + (Nd.mk kind size words bytes kids).content.length ≤ len2 (zG8 lim p.S p.seg (Nd.mk kind size words bytes kids).content).A p.seg := by rw [hpA, show (zG8 lim p.S p.seg (Nd.mk kind size words bytes kids).content).A = zI9 p.S.A p.seg (Nd.mk kind size words bytes kids).content from rfl]; simp only [len2]; rw [zJ0 _ _ _ _ (Nat.le_of_lt hpS), if_pos rfl, List.length_append]; exact Nat.le_refl _
    have hQ0 : (zG8 lim p.S p.seg (Nd.mk kind size words bytes kids).content).full = false → p.S.full = false := fun hx => by cases hy : p.S.full with | false => rfl | true => rw [hok.full hy] at hx; exact absurd hx (by simp)
    refine zU5 ?_
    refine zK0 5 [[], [], [], [0], [3, 2, 1, 0]] mixed (by kernel_rfl) (by kernel_rfl) (by kernel_rfl) ?_
    intro w79 g80
    replace hc10 := g80.heap hc10
    replace hc17 := g80.heap hc17
    replace h := h.grow g80
    replace hc4 := g80.heap hc4
    replace G := G.tr g80
    clear g80
    refine qA 3 ?_
    refine zS5 (fun w_ v_ => Row w_ 1 v_ (Nd.mk kind size words bytes kids).content.length (zI7 (Nd.mk kind size words bytes kids).content)) (fun _ _ _ g_ h_ => h_.grow g_) ?_ ?_
    ·intro w_ g_
     refine og rfl ?_
     refine zC8 rfl (qM3 _ (T0.grow (G.tr g_)) hlw hlb hlk) ?_
     rintro v2_ w2_ ⟨ho_, g2_⟩
     exact ⟨g2_, zH3 ho_ (by omega)⟩
    refine zS5 (fun w_ v_ => LayV 37 23 w_ base lim v_ (zG8 lim p.S p.seg (Nd.mk kind size words bytes kids).content)) (fun _ _ _ g_ h_ => h_.grow g_) ?_ ?_
    ·intro w_ g_
     intro v3_ hv3_; show OpG _ _ _ _ _ _
     refine og rfl ?_
     refine zC8 rfl (qB2 _ (q := p.seg) (lim := lim) (full := p.S.full) (l := (Nd.mk kind size words bytes kids).content) (h.grow g_) (Nat.le_trans hbw (G.tr g_).size) hSp (Nat.le_of_lt hpS) hv3_ (by omega)) ?_
     rintro v2_ w2_ ⟨hl_, g2_⟩
     exact ⟨g2_, hl_⟩
    refine zG5 ?_
    intro w81 g82
    replace hc10 := g82.heap hc10
    replace hc17 := g82.heap hc17
    replace h := h.grow g82
    replace hc4 := g82.heap hc4
    replace G := G.tr g82
    clear g82
    intro v_c hv_c
    intro v_m hv_m
    obtain ⟨so_m, segs_m, rfl, h_m⟩ := hv_m
    obtain ⟨ad_m, n_m, c_m, rfl⟩ := zE6 h_m.out
    refine stn (qS hc4 ?_)
    intro w83 hc84 u85
    replace hc10 := u85.heap hc10 ne13.symm
    replace hc17 := u85.heap hc17 ne20.symm
    replace h := h.upd u85 hc4 (by decide) (by decide)
    replace h_m := h_m.upd u85 hc4 (by decide) (by decide)
    replace G := G.upd u85 hge6
    clear u85 hc4
    refine zA6 ?_
    obtain ⟨Q, hQ⟩ : ∃ Q, Q = zG8 lim p.S p.seg (Nd.mk kind size words bytes kids).content := ⟨_, rfl⟩
    rw [← hQ] at hge2 hQ0 hok ⊢
    have hok_A : (zG8 lim p.S p.seg (Nd.mk kind size words bytes kids).content).A = Q.A := by rw [hQ]
    rw [hok_A] at h_m
    have hc84' : w83.heap[b1]? = some (.cells #[.slice ad_m n_m c_m, .int .i64 lim, .bool (Q.full)] 99 (0, 0)) := by rw [hQ]; exact hc84
    clear hok_A hQ hc84
    have hc84 := hc84'
    clear hc84'
    have hQs : p.seg < Q.A.length := Nat.lt_of_lt_of_le hpS hok.grew.len
    have hQ1 : 1 ≤ Q.A.length := by omega
    refine qZ 6 ?_
    refine zG4 (fun m_ e_ w_ => ∃ (k : Nat) (ad5 : Option Addr) (n5 : Nat) (c5 : Nat) (segs5 : List Value), m_ = kids.length - k ∧ Fr [(4, .pointer (some ⟨b1, 0, none⟩)), (5, .pointer (some ⟨b7, 0, none⟩)), (8, .pointer (some ⟨b14, 0, none⟩)), (9, .int .i64 ((Nd.mk kind size words bytes kids).need)), (12, .int .i64 (p.seg : Int)), (13, .int .i64 (p.at_ : Int)), (14, .int .i64 (k : Int))] e_ ∧ (k ≤ kids.length) ∧ (w_.heap[b7]? = some (.cells #[.int .i64 kind, .int .i64 size, .slice aw words.length cw, .slice ab bytes.length cb, .slice ak kids.length ck] 48 (0, 0))) ∧ (w_.heap[b14]? = some (.cells #[.slice none 0 0, .int .i64 0, .bool false] 99 (0, 0))) ∧ (w_.heap[b1]? = some (.cells #[.slice ad5 n5 c5, .int .i64 lim, .bool ((Nd.lays lim (kids.take k) Q p.seg (p.at_ + ((Nd.mk kind size words bytes kids).need.toNat - kids.length))).full)] 99 (0, 0))) ∧ (OwnA 37 23 w_ base (.slice ad5 n5 c5) segs5 ((Nd.lays lim (kids.take k) Q p.seg (p.at_ + ((Nd.mk kind size words bytes kids).need.toNat - kids.length))).A)) ∧ Grow w w_) _ ⟨0, ad_m, n_m, c_m, segs_m, rfl, zD2 ⟨rfl, rfl, rfl, rfl, rfl, rfl, rfl, trivial⟩, by omega, hc10, hc17, hc84, h_m, G⟩ ?_
    clear hc10 hc17 hc84 h_m
    clear G
    rintro m_ e_ w86 ⟨k, ad5, n5, c5, segs5, rfl, ⟨e87, rfl⟩, hk2, hc10, hc17, hc84, h5, G⟩
    refine qZ 7 ?_
    refine stp (zI1 rfl rfl ?_)
    refine zA6 ?_
    refine zA3 (b := (decide ((k : Int) < (kids.length : Int)))) rfl (fun hlt => ?_) (fun hlt => ?_)
    ·
     replace hlt := qT hlt
     have hk3 : k < kids.length := by omega
     have hat := KidsR.at_ k kids[k] hKs (by simp [hk3])
     obtain ⟨y0, y1, ya, yn, yc, za, zn, zc, ua, un, uc, hy⟩ := hat.cells
     rw [hy] at hat
     have hsz := Nd.szs_at kids k kids[k] (by simp [hk3])
     have hfk := Nd.fine_kid hR hk3
     have hkn2 := hkn h1k
     have hlk_ := Nd.lays_ok lim (kids.take k) Q p.seg (p.at_ + ((Nd.mk kind size words bytes kids).need.toNat - kids.length)) hQ1
     have hss : p.seg < (Nd.lays lim (kids.take k) Q p.seg (p.at_ + ((Nd.mk kind size words bytes kids).need.toNat - kids.length))).A.length := Nat.lt_of_lt_of_le hQs hlk_.grew.len
     have hii : p.at_ + ((Nd.mk kind size words bytes kids).need.toNat - kids.length) + k < len2 (Nd.lays lim (kids.take k) Q p.seg (p.at_ + ((Nd.mk kind size words bytes kids).need.toNat - kids.length))).A p.seg := by have := hlk_.grew.seg p.seg; omega
     have hFk : (Nd.lays lim (kids.take k) Q p.seg (p.at_ + ((Nd.mk kind size words bytes kids).need.toNat - kids.length))).full = false → Fit lim (Nd.lays lim (kids.take k) Q p.seg (p.at_ + ((Nd.mk kind size words bytes kids).need.toNat - kids.length))).A ∧ p.seg < (Nd.lays lim (kids.take k) Q p.seg (p.at_ + ((Nd.mk kind size words bytes kids).need.toNat - kids.length))).A.length ∧ p.at_ + ((Nd.mk kind size words bytes kids).need.toNat - kids.length) + k < len2 (Nd.lays lim (kids.take k) Q p.seg (p.at_ + ((Nd.mk kind size words bytes kids).need.toNat - kids.length))).A p.seg := fun hx => ⟨hlk_.fit (hok.fit (hpF F (hQ0 (by cases hy_ : Q.full with | false => rfl | true => rw [hlk_.full hy_] at hx; exact absurd hx (by simp)))) (by cases hy_ : Q.full with | false => rfl | true => rw [hlk_.full hy_] at hx; exact absurd hx (by simp))) hx, hss, hii⟩
     refine qZ 3 ?_
     refine zK0 17 [[], [], [0], [], [2, 1, 0], [3, 2, 1, 0], [], [], [], [1, 0], [], [0], [1, 0], [5, 4, 3, 2, 1, 0], [], [7, 6, 5, 4, 3, 2, 1, 0], [15, 14, 13, 12, 11, 10, 9, 8, 7, 6, 5, 4, 3, 2, 1, 0]] mixed (by kernel_rfl) (by kernel_rfl) (by kernel_rfl) ?_
     intro w88 g89
     replace hc10 := g89.heap hc10
     replace hc17 := g89.heap hc17
     replace hc84 := g89.heap hc84
     replace h5 := h5.grow g89
     replace G := G.tr g89
     clear g89
     refine qA 4 ?_
     apply zA5
     ·intro w_ g_; refine og rfl ?_; refine zD7 (RK.grow (G.tr g_)) rfl rfl ?_ ?_; omega; exact qX
     apply zA5
     ·intro w_ g_; refine og rfl ?_; refine zO7 (RK.grow (G.tr g_)) rfl (by decide) (by rw [RK.len]; omega) hy ?_; exact qX
     refine qA 3 ?_
     apply zA5
     ·intro w_ g_; refine og rfl ?_; refine zC3 rfl rfl ?_ ?_; constructor <;> omega; exact qX
     refine qA 3 ?_
     apply zA5
     ·intro w_ g_; refine og rfl ?_; refine zL2 rfl rfl ?_ ?_; constructor <;> omega; exact qX
     refine qA 1 ?_
     apply zA5
     ·intro w_ g_; refine og rfl ?_; refine zC3 rfl rfl ?_ ?_; constructor <;> omega; exact qX
     refine zS5 (fun w_ v_ => LayV 37 23 w_ base lim v_ ((Nd.lays lim (kids.take (k + 1)) Q p.seg (p.at_ + ((Nd.mk kind size words bytes kids).need.toNat - kids.length))))) (fun _ _ _ g_ h_ => h_.grow g_) ?_ ?_
     ·intro w_ g_
      refine og rfl ?_
      have hcal := ih_ _ (h5.grow g_) (Nat.le_trans hbw (G.tr g_).size) (hat.grow (G.tr g_)) hfk (by omega) hl1 hl2 hFk (by simp only [Nd.sz] at hm_; omega)
      rw [show ((p.at_ + ((Nd.mk kind size words bytes kids).need.toNat - kids.length) + k : Nat) : Int) = (p.at_ : Int) + (Nd.mk kind size words bytes kids).need - kids.length + k from by omega, ← Nd.lays_take hk3] at hcal
      refine zC8 rfl hcal ?_
      rintro v2_ w2_ ⟨hl_, g2_⟩
      exact ⟨g2_, hl_⟩
     refine zG5 ?_
     intro w90 g91
     replace hc10 := g91.heap hc10
     replace hc17 := g91.heap hc17
     replace hc84 := g91.heap hc84
     replace h5 := h5.grow g91
     replace G := G.tr g91
     clear g91
     intro v_k hv_k
     obtain ⟨so_k, segs_k, rfl, h_k⟩ := hv_k
     obtain ⟨ad_k, n_k, c_k, rfl⟩ := zE6 h_k.out
     refine stn (qS hc84 ?_)
     intro w92 hc93 u94
     replace hc10 := u94.heap hc10 ne13.symm
     replace hc17 := u94.heap hc17 ne20.symm
     replace h5 := h5.upd u94 hc84 (by decide) (by decide)
     replace h_k := h_k.upd u94 hc84 (by decide) (by decide)
     replace G := G.upd u94 hge6
     clear u94 hc84
     refine qZ 3 ?_
     refine stp (zC3 rfl rfl ?_ ?_); constructor <;> omega
     refine qZ 2 ?_
     refine ⟨_, ?_, k + 1, ad_k, n_k, c_k, segs_k, rfl, zD2 ⟨rfl, rfl, rfl, rfl, rfl, rfl, congrArg (Value.int .i64) (by omega), trivial⟩, by omega, hc10, hc17, hc93, h_k, G⟩
     omega
    ·
     replace hlt := qF hlt
     have hk3 : k = kids.length := by omega
     have hSK : (Nd.lays lim (kids.take k) Q p.seg (p.at_ + ((Nd.mk kind size words bytes kids).need.toNat - kids.length))) = Nd.lays lim kids Q p.seg (p.at_ + ((Nd.mk kind size words bytes kids).need.toNat - kids.length)) := by rw [hk3, List.take_length]
     refine qZ 4 ?_
     refine stn (qS hc17 ?_)
     intro w95 hc96 u97
     replace hc10 := u97.heap hc10 ne21
     replace hc84 := u97.heap hc84 ne20
     replace h5 := h5.upd u97 hc17 (by decide) (by decide)
     replace G := G.upd u97 hge19
     clear u97 hc17
     refine qZ 2 ?_
     rw [← hSK]
     refine ret1 (zB0 rfl hc96 (by rfl)) ⟨⟨_, _, rfl, h5⟩, G⟩
theorem zX7 (w : World) {c : List Value} {t : Nd} (T : NodeR w c t) (n : Int) : Calls Tryz.prog 21 #[.agg c.toArray, .int .i64 n] w (Ret fun v w' => ∃ so segs, v = .tuple #[so, .int .i64 (t.build n).2] ∧ OwnA 37 23 w' w.heap.size so segs (t.build n).1 ∧ Grow w w') := by
 obtain ⟨y0, y1, ya, yn, yc, za, zn, zc, ua, un, uc, rfl⟩ := T.cells
 have G := Grow.rfl' w
 refine zC0 Tryz.func21 Tryz.ntmps21 Tryz.results21 rfl rfl ?_
 refine qZ 2 ?_
 refine stp ?_
 refine qC ?_
 intro b1 w2 hb3 hc4 g5
 have hge6 := Nat.le_trans G.size hb3
 replace G := G.tr g5
 clear g5 hb3
 refine qZ 7 ?_
 refine stp (zI1 rfl rfl ?_)
 refine qZ 1 ?_
 refine qG 1 ?_
 refine zA4 (zB7 (s := .bool _) (v := .bool (decide (n > 4096))) rfl (zF0 _) (fun hc8 => ?_) ?_)
 ·
  have hc8_ := hc8
  try simp only [sb] at hc8_
  refine zQ7 (gvt hc8) rfl ?_
  exact ⟨rfl, rfl⟩
 refine stp (zJ3 rfl rfl rfl ?_)
 refine qZ 1 ?_
 refine zA4 (zB7 (s := .bool _) (v := .agg #[.int .i64 y0, .int .i64 y1, .slice ya yn yc, .slice za zn zc, .slice ua un uc]) rfl (zF0 _) (fun hc9 => ?_) ?_)
 ·
  have hc9_ := hc9
  try simp only [sb] at hc9_
  refine zC7 rfl hc4 (by rfl) ?_
  exact ⟨rfl, rfl⟩
 refine zA4 (zZ5 (s := .bool ((decide (n < 1)) || (decide (n > 4096)))) (b := false) (v := .bool (t.right 32)) rfl (zF0 _) (fun hc10 => ?_) ?_)
 ·
  have hc10_ := hc10
  try simp only [sb] at hc10_
  exact zO6 (l := ([.agg #[.int .i64 y0, .int .i64 y1, .slice ya yn yc, .slice za zn zc, .slice ua un uc]] : List Value)) rfl (by show ([gv (!((decide (n < 1)) || (decide (n > 4096)))) (.agg #[.int .i64 y0, .int .i64 y1, .slice ya yn yc, .slice za zn zc, .slice ua un uc])] : List Value) = _; rw [gvt hc10]) (qW0 _ (T.grow G)) (fun w2_ g2_ => ⟨rfl, g2_⟩)
 intro w11 g12
 replace hc4 := g12.heap hc4
 replace G := G.tr g12
 clear g12
 refine zA4 (zB7 (s := .bool _) (v := .bool (!(t.right 32))) rfl (zF0 _) (fun hc13 => ?_) ?_)
 ·
  have hc13_ := hc13
  try simp only [sb] at hc13_
  refine zM1 (gvt hc13) ?_
  exact ⟨rfl, rfl⟩
 refine stp (zJ3 rfl rfl rfl ?_)
 refine zA6 ?_
 refine zA3 (b := (((decide (n < 1)) || (decide (n > 4096))) || (!(t.right 32)))) rfl (fun h1 => ?_) (fun h1 => ?_)
 ·
  simp only [sb] at h1
  have hb : t.build n = ([], 1) := by unfold Nd.build; rw [if_pos]; rcases h1 with (h | h) | h; exact .inl h; exact .inr (.inl h); exact .inr (.inr h)
  refine qZ 6 ?_
  rw [hb]
  refine ret2 (zA1 (v := .slice none 0 0) rfl) (zA1 (v := .int .i64 1) rfl) ⟨_, _, rfl, OwnA.nil _ _ _ _, G⟩
 ·
  simp only [sb] at h1
  obtain ⟨⟨h1a, h1b⟩, h1c⟩ := h1
  have hlb1 : 1 ≤ n := by omega
  have hlb2 : n ≤ 4096 := by omega
  have hnb : ¬ (n < 1 ∨ n > 4096 ∨ t.right 32 = false) := by rw [h1c]; simp; omega
  refine qZ 3 ?_
  refine stp (zB4 (cs := #[.int .u64 0]) (el := 23) (fun w => by kernel_rfl) ?_)
  intro bs14 w15 hb16 hc17 g18
  have hge19 := Nat.le_trans G.size hb16
  replace hc4 := g18.heap hc4
  replace G := G.tr g18
  clear g18
  refine stp (zB4 (cs := #[.slice (some ⟨bs14, 0, none⟩) 1 1]) (el := 37) (fun w => by kernel_rfl) ?_)
  intro bs20 w21 hb22 hc23 g24
  have hge25 := Nat.le_trans G.size hb22
  replace hc4 := g24.heap hc4
  replace hc17 := g24.heap hc17
  replace G := G.tr g24
  clear g24
  refine qZ 1 ?_
  refine stp (zA7 (v := .agg #[.slice (some ⟨bs20, 0, none⟩) 1 1, .int .i64 n, .bool false]) (fun w => by kernel_rfl) ?_)
  refine qZ 1 ?_
  refine stp ?_
  have h0 := OwnA.init (TO := 37) (TW := 23) (base := w.heap.size) hc23 hc17 hge25 hge19
  refine zC8 rfl (yJ0 _ _ (s := 0) (i := 0) (S := ⟨[[0]], false⟩) (lim := n) h0 G.size (T.grow G) ⟨32, h1c⟩ (by simp) hlb1 hlb2 (fun _ => ⟨Fit.init hlb1, by simp, by simp [len2]⟩) (Nat.le_refl _)) ?_
  rintro v_ w26 ⟨⟨so_p, segs_p, rfl, h_p⟩, g_⟩
  replace hc4 := g_.heap hc4
  replace hc17 := g_.heap hc17
  replace hc23 := g_.heap hc23
  replace G := G.tr g_
  clear g_
  obtain ⟨ad_p, n_p, c_p, rfl⟩ := zE6 h_p.out
  clear h0
  refine stp (zB2 ?_)
  intro b27 w28 hb29 hc30 g31
  refine stn (qS hc30 ?_)
  intro w32 hc33 u34
  have g35 := g31.upd u34 hb29
  have hge36 := Nat.le_trans G.size hb29
  have ne37 := qN hc4 hb29
  have ne38 := qN hc17 hb29
  have ne39 := qN hc23 hb29
  replace hc4 := g35.heap hc4
  replace hc17 := g35.heap hc17
  replace hc23 := g35.heap hc23
  replace h_p := h_p.grow g35
  replace G := G.tr g35
  clear u34 g31 hb29 hc30
  refine qZ 7 ?_
  refine zA3 (b := ((t.lay n ⟨[[0]], false⟩ 0 0).full)) rfl (fun h2 => ?_) (fun h2 => ?_)
  ·
   have hb : t.build n = ([], 24) := by unfold Nd.build; rw [if_neg hnb, if_pos h2]
   refine qZ 6 ?_
   rw [hb]
   refine ret2 (zA1 (v := .slice none 0 0) rfl) (zA1 (v := .int .i64 24) rfl) ⟨_, _, rfl, OwnA.nil _ _ _ _, G⟩
  ·
   have hb : t.build n = ((t.lay n ⟨[[0]], false⟩ 0 0).A, 0) := by unfold Nd.build; rw [if_neg hnb, if_neg (by rw [h2]; simp)]
   refine qZ 9 ?_
   rw [hb]
   refine ret2 (zA1 (v := .slice ad_p n_p c_p) rfl) (zA1 (v := .int .i64 0) rfl) ⟨_, _, rfl, h_p, G⟩
instance : IfcI Tryz.prog 76 := ⟨⟨_, Tryz.underlying76⟩⟩
theorem zS9 : MethI Tryz.prog 110 "Word" 183 := ⟨fun v args w => by kernel_rfl⟩
theorem zX8 : MethI Tryz.prog 110 "Sizes" 182 := ⟨fun v args w => by kernel_rfl⟩
theorem qG0 (w : World) {a b m : Int} (ha : inR .i64 a) (hb : inR .i64 b) (hm : inR .i64 m) : zC5 Tryz.prog 87 #[.int .i64 a, .int .i64 b, .int .i64 m] w (.tuple #[.int .i64 (if zL3 a b m then a + b else 0), .bool (zL3 a b m)]) := by
 simp only [inR] at ha hb hm
 have G := Grow.rfl' w
 refine zB1 Tryz.func87 Tryz.ntmps87 Tryz.results87 rfl rfl ?_
 refine qZ 10 ?_
 refine stp (qA2 rfl rfl rfl ?_)
 refine stp (zI1 rfl rfl ?_)
 refine qZ 1 ?_
 refine qG 2 ?_
 refine zA4 (zB7 (s := .bool _) (v := .bool (decide (a > m))) rfl (zF0 _) (fun hc3 => ?_) ?_)
 ·
  have hc3_ := hc3
  try simp only [sb] at hc3_
  refine zQ7 (gvt hc3) (gvt hc3) ?_
  exact ⟨rfl, rfl⟩
 refine stp (zJ3 rfl rfl rfl ?_)
 refine qZ 1 ?_
 refine qG 3 ?_
 refine zA4 (zB7 (s := .bool _) (v := .int .i64 (m - a)) rfl (zF0 _) (fun hc7 => ?_) ?_)
 ·
  have hc7_ := hc7
  try simp only [sb] at hc7_
  refine zL2 (gvt hc7) (gvt hc7) ?_ ?_; constructor <;> omega
  exact ⟨rfl, rfl⟩
 refine zA4 (zB7 (s := .bool _) (v := .bool (decide (b > (m - a)))) rfl (zF0 _) (fun hc8 => ?_) ?_)
 ·
  have hc8_ := hc8
  try simp only [sb] at hc8_
  refine zQ7 (gvt hc8) (gvt hc8) ?_
  exact ⟨rfl, rfl⟩
 refine stp (zJ3 rfl rfl rfl ?_)
 refine zA6 ?_
 refine zA3 (b := (((decide ((if b < a then b else a) < 0)) || (decide (a > m))) || (decide (b > (m - a))))) rfl (fun h1 => ?_) (fun h1 => ?_)
 ·
  simp only [sb] at h1
  refine qZ 6 ?_
  refine ret2 (zA1 (v := .int .i64 0) rfl) (zA1 (v := .bool false) rfl) ⟨?_, G⟩
  have h9 : zL3 a b m = false := by simp only [zL3]; exact decide_eq_false (by omega)
  rw [h9]; rfl
 ·
  simp only [sb] at h1
  have h9 : zL3 a b m = true := by simp only [zL3]; exact decide_eq_true (by omega)
  refine qZ 5 ?_
  refine stp (zC3 rfl rfl ?_ ?_); constructor <;> omega
  refine qZ 4 ?_
  refine ret2 (zA1 (v := .int .i64 (a + b)) rfl) (zA1 (v := .bool true) rfl) ⟨?_, G⟩
  rw [h9]; rfl
theorem qH1 (w : World) {ad : Option Addr} {c : Nat} {sz : List Int} {seg a n : Int} (R : RowAt w 1 ad sz.length (sz.map (.int .i64))) (hs : ∀ i, i < sz.length → 0 ≤ sz.getD i 0 ∧ sz.getD i 0 ≤ 140737488355328) (ha : inR .i64 a) (hn : inR .i64 n) : zC5 Tryz.prog 119 #[.slice ad sz.length c, .int .i64 seg, .int .i64 a, .int .i64 n] w (.bool (zG9 sz seg a n)) := by
 have ll := R.lim
 have G := Grow.rfl' w
 refine zB1 Tryz.func119 Tryz.ntmps119 Tryz.results119 rfl rfl ?_
 refine qZ 8 ?_
 refine stp (zI1 rfl rfl ?_)
 refine qZ 1 ?_
 refine qG 3 ?_
 refine zA4 (zB7 (s := .bool _) (v := .bool (decide (seg ≥ (sz.length : Int)))) rfl (zF0 _) (fun hc4 => ?_) ?_)
 ·
  have hc4_ := hc4
  try simp only [sb] at hc4_
  refine qE5 (gvt hc4) (gvt hc4) ?_
  exact ⟨rfl, rfl⟩
 refine stp (zJ3 rfl rfl rfl ?_)
 refine zA6 ?_
 refine zA3 (b := ((decide (seg < 0)) || (decide (seg ≥ (sz.length : Int))))) rfl (fun h1 => ?_) (fun h1 => ?_)
 ·
  simp only [sb] at h1
  refine qZ 5 ?_
  refine ret1 (zA1 (v := .bool false) rfl) ⟨?_, G⟩
  have h9 : zG9 sz seg a n = false := by unfold zG9; rw [decide_eq_false (by omega), Bool.false_and]
  rw [h9]
 ·
  simp only [sb] at h1
  have h9 := hs seg.toNat (by omega)
  refine qZ 7 ?_
  refine stp (zL7 (R.grow G) rfl rfl ?_ ?_ ?_); omega; omega
  refine stp (zF2 (v := .int .i64 (sz.getD seg.toNat 0)) (m := 0) (R.grow G) rfl (by rw [Nat.mul_one]; exact qQ3 0 (by omega)) ?_)
  refine stp (zA2 (v := .tuple #[.int .i64 (if zL3 a n (sz.getD seg.toNat 0) then a + n else 0), .bool (zL3 a n (sz.getD seg.toNat 0))]) rfl (qG0 _ ha hn (m := sz.getD seg.toNat 0) (by simp only [inR]; omega)) ?_)
  intro w5 g6
  replace G := G.tr g6
  clear g6
  refine qZ 12 ?_
  refine ret1 (zA1 (v := .bool (zL3 a n (sz.getD seg.toNat 0))) rfl) ⟨?_, G⟩
  unfold zG9; rw [decide_eq_true (by omega), Bool.true_and]
theorem yA8 (w : World) {u : Value} {A : List (List Int)} {seg a : Int} (hA : zG1 w u A) : zC5 Tryz.prog 184 #[u, .int .i64 seg, .int .i64 a] w (.tuple #[.int .u64 ((zI3 A seg a).1), .int .u16 ((zI3 A seg a).2)]) := by
 obtain ⟨ada, ca, segsa, sa, sca, rfl, -, -, RA, hsa, hra⟩ := hA.fn
 have la := RA.lim
 have G := Grow.rfl' w
 refine zB1 Tryz.func184 Tryz.ntmps184 Tryz.results184 rfl rfl ?_
 refine qZ 9 ?_
 refine stp (zI1 rfl rfl ?_)
 refine qZ 1 ?_
 refine qG 3 ?_
 refine zA4 (zB7 (s := .bool _) (v := .bool (decide (seg ≥ (A.length : Int)))) rfl (zF0 _) (fun hc4 => ?_) ?_)
 ·
  have hc4_ := hc4
  try simp only [sb] at hc4_
  refine qE5 (gvt hc4) (gvt hc4) ?_
  exact ⟨rfl, rfl⟩
 refine stp (zJ3 rfl rfl rfl ?_)
 refine qZ 1 ?_
 refine qG 1 ?_
 refine zA4 (zB7 (s := .bool _) (v := .bool (decide (a < 0))) rfl (zF0 _) (fun hc6 => ?_) ?_)
 ·
  have hc6_ := hc6
  try simp only [sb] at hc6_
  refine zI1 (gvt hc6) rfl ?_
  exact ⟨rfl, rfl⟩
 refine stp (zJ3 rfl rfl rfl ?_)
 refine qZ 1 ?_
 refine qG 3 ?_
 refine zA4 (zB7 (s := .bool _) (v := .pointer (some (eadr ada ((seg).toNat * 1)))) rfl (zF0 _) (fun hc10 => ?_) ?_)
 ·
  have hc10_ := hc10
  try simp only [sb] at hc10_
  refine zL7 (RA.grow G) (gvt hc10) (gvt hc10) ?_ ?_ ?_; omega; omega
  exact ⟨rfl, rfl⟩
 refine zA4 (zB7 (s := .bool _) (v := .slice (sa seg.toNat) (len2 A seg.toNat) (sca seg.toNat)) rfl (zF0 _) (fun hc11 => ?_) ?_)
 ·
  have hc11_ := hc11
  try simp only [sb] at hc11_
  refine zF2 (v := .slice (sa seg.toNat) (len2 A seg.toNat) (sca seg.toNat)) (m := 0) (RA.grow G) (gvt hc11) (by rw [Nat.mul_one]; exact hsa _ (by omega)) ?_
  exact ⟨rfl, rfl⟩
 refine qG 1 ?_
 refine zA4 (zB7 (s := .bool _) (v := .bool (decide (a ≥ ((len2 A seg.toNat) : Int)))) rfl (zF0 _) (fun hc13 => ?_) ?_)
 ·
  have hc13_ := hc13
  try simp only [sb] at hc13_
  refine qE5 (gvt hc13) (gvt hc13) ?_
  exact ⟨rfl, rfl⟩
 refine stp (zJ3 rfl rfl rfl ?_)
 refine zA6 ?_
 refine zA3 (b := ((((decide (seg < 0)) || (decide (seg ≥ (A.length : Int)))) || (decide (a < 0))) || (decide (a ≥ ((len2 A seg.toNat) : Int))))) rfl (fun h1 => ?_) (fun h1 => ?_)
 ·
  simp only [sb] at h1
  refine qZ 6 ?_
  refine ret2 (zA1 (v := .int .u64 0) rfl) (zA1 (v := .int .u16 20) rfl) ⟨?_, G⟩
  have h9 : zI3 A seg a = (0, 20) := by unfold zI3; rw [if_neg (by omega)]
  rw [h9]
 ·
  simp only [sb] at h1
  obtain ⟨-, -, Rk⟩ := hra seg.toNat (by omega)
  have lk := Rk.lim
  refine qZ 5 ?_
  refine stp (zL7 (RA.grow G) rfl rfl ?_ ?_ ?_); omega; omega
  refine stp (zF2 (v := .slice (sa seg.toNat) (len2 A seg.toNat) (sca seg.toNat)) (m := 0) (RA.grow G) rfl (by rw [Nat.mul_one]; exact hsa _ (by omega)) ?_)
  refine qZ 1 ?_
  refine stp (zL7 (Rk.grow G) rfl rfl ?_ ?_ ?_); omega; omega
  refine stp (zF2 (v := .int .u64 ((A.getD seg.toNat []).getD a.toNat 0)) (m := 0) (Rk.grow G) rfl (by rw [Nat.mul_one]; exact qQ3 0 (by simp only [len2] at *; omega)) ?_)
  refine qZ 4 ?_
  refine ret2 (zA1 (v := .int .u64 ((A.getD seg.toNat []).getD a.toNat 0)) rfl) (zA1 (v := .int .u16 0) rfl) ⟨?_, G⟩
  have h9 : zI3 A seg a = ((A.getD seg.toNat []).getD a.toNat 0, 0) := by unfold zI3; rw [if_pos (by omega)]
  rw [h9]
theorem zN0 (w : World) (p : Pt) : zC5 Tryz.prog 89 #[.agg #[.int .i64 p.kind, .int .i64 p.off, .int .i64 p.data, .int .i64 p.ptrs, .int .i64 p.size, .int .i64 p.count, .int .i64 p.seg, .bool p.dbl]] w (.bool (zK1 p)) := by
 have G := Grow.rfl' w
 refine zB1 Tryz.func89 Tryz.ntmps89 Tryz.results89 rfl rfl ?_
 refine qZ 2 ?_
 refine stp ?_
 refine qC ?_
 intro b1 w2 hb3 hc4 g5
 have hge6 := Nat.le_trans G.size hb3
 replace G := G.tr g5
 clear g5 hb3
 refine qZ 6 ?_
 refine stp (zE2 rfl rfl ?_)
 refine qZ 1 ?_
 refine qG 2 ?_
 refine zA4 (zB7 (s := .bool _) (v := .bool (decide (p.kind = 2))) rfl (zF0 _) (fun hc9 => ?_) ?_)
 ·
  have hc9_ := hc9
  try simp only [sb] at hc9_
  refine zE2 (gvt hc9) rfl ?_
  exact ⟨rfl, rfl⟩
 refine stp (zJ3 rfl rfl rfl ?_)
 refine qZ 3 ?_
 refine ret1 (zA1 (v := .bool ((decide (p.kind = 1)) || (decide (p.kind = 2)))) rfl) ⟨?_, G⟩
 rfl
theorem qR7 (w : World) (o : Ob) : zC5 Tryz.prog 118 #[.agg #[.int .i64 o.kind, .int .i64 o.seg, .int .i64 o.at_, .int .i64 o.data, .int .i64 o.ptrs, .int .i64 o.size, .int .i64 o.count]] w (.agg #[.int .i64 o.kind, .int .i64 0, .int .i64 o.data, .int .i64 o.ptrs, .int .i64 o.size, .int .i64 o.count, .int .i64 0, .bool false]) := by
 have G := Grow.rfl' w
 refine zB1 Tryz.func118 Tryz.ntmps118 Tryz.results118 rfl rfl ?_
 refine qZ 2 ?_
 refine stp ?_
 refine qC ?_
 intro b1 w2 hb3 hc4 g5
 have hge6 := Nat.le_trans G.size hb3
 replace G := G.tr g5
 clear g5 hb3
 refine stp (zB2 ?_)
 intro b7 w8 hb9 hc10 g11
 refine qZ 4 ?_
 have hge12 := Nat.le_trans G.size hb9
 have ne13 := qN hc4 hb9
 replace hc4 := g11.heap hc4
 replace G := G.tr g11
 clear g11 hb9
 refine qZ 9 ?_
 refine stp (zA7 (v := .agg #[.int .i64 o.kind, .int .i64 0, .int .i64 o.data, .int .i64 o.ptrs, .int .i64 o.size, .int .i64 o.count, .int .i64 0, .bool false]) (fun w => by kernel_rfl) ?_)
 refine stn (qS hc10 ?_)
 intro w14 hc15 u16
 replace hc4 := u16.heap hc4 ne13
 replace G := G.upd u16 hge12
 clear u16 hc10
 refine qZ 2 ?_
 refine ret1 (zB0 rfl hc15 (by rfl)) ⟨?_, G⟩
 rfl
theorem qH2 (w : World) (o : Ob) : zC5 Tryz.prog 93 #[.agg #[.int .i64 o.kind, .int .i64 o.seg, .int .i64 o.at_, .int .i64 o.data, .int .i64 o.ptrs, .int .i64 o.size, .int .i64 o.count]] w (.int .i64 (zD8 o)) := by
 have G := Grow.rfl' w
 refine zB1 Tryz.func93 Tryz.ntmps93 Tryz.results93 rfl rfl ?_
 refine qZ 2 ?_
 refine stp ?_
 refine qC ?_
 intro b1 w2 hb3 hc4 g5
 have hge6 := Nat.le_trans G.size hb3
 replace G := G.tr g5
 clear g5 hb3
 refine qZ 7 ?_
 refine stp (zE2 rfl rfl ?_)
 refine zA6 ?_
 refine zA3 (b := (decide (o.kind = 3))) rfl (fun h1 => ?_) (fun h1 => ?_)
 ·
  replace h1 := qT h1
  refine qZ 5 ?_
  refine ret1 (zA1 (v := .int .i64 0) rfl) ⟨?_, G⟩
  simp [zD8, Ob.pt, *]
 ·
  replace h1 := qF h1
  refine qZ 4 ?_
  refine stp (zA2 (v := .agg #[.int .i64 o.kind, .int .i64 0, .int .i64 o.data, .int .i64 o.ptrs, .int .i64 o.size, .int .i64 o.count, .int .i64 0, .bool false]) rfl (qR7 _ ⟨o.kind, o.seg, o.at_, o.data, o.ptrs, o.size, o.count⟩) ?_)
  intro w7 g8
  replace hc4 := g8.heap hc4
  replace G := G.tr g8
  clear g8
  refine stp (zA2 (v := .tuple #[.int .i64 (zH4 ⟨o.kind, 0, o.data, o.ptrs, o.size, o.count, 0, false⟩), .int .u16 (zI4 ⟨o.kind, 0, o.data, o.ptrs, o.size, o.count, 0, false⟩)]) rfl (qB0 _ ⟨o.kind, 0, o.data, o.ptrs, o.size, o.count, 0, false⟩) ?_)
  intro w9 g10
  replace hc4 := g10.heap hc4
  replace G := G.tr g10
  clear g10
  refine qZ 12 ?_
  refine ret1 (zA1 (v := .int .i64 (zH4 ⟨o.kind, 0, o.data, o.ptrs, o.size, o.count, 0, false⟩)) rfl) ⟨?_, G⟩
  simp [zD8, Ob.pt, *]
theorem zR4 (w : World) {u : Value} {A : List (List Int)} (hA : zG1 w u A) (seg a : Int) : zC5 Tryz.prog 183 #[.agg #[u], .int .i64 seg, .int .i64 a] w (.tuple #[.int .u64 ((zI3 A seg a).1), .int .u16 ((zI3 A seg a).2)]) := by
 obtain ⟨ada, ca, segsa, sa, sca, rfl, -, -, RA, hsa, hra⟩ := hA.fn
 have G := Grow.rfl' w
 refine zB1 Tryz.func183 Tryz.ntmps183 Tryz.results183 rfl rfl ?_
 refine qZ 2 ?_
 refine stp ?_
 refine qC ?_
 intro b1 w2 hb3 hc4 g5
 have hge6 := Nat.le_trans G.size hb3
 replace G := G.tr g5
 clear g5 hb3
 refine qZ 9 ?_
 refine stp (zA2 (v := .tuple #[.int .u64 ((zI3 A seg a).1), .int .u16 ((zI3 A seg a).2)]) rfl (yA8 _ (hA.grow G)) ?_)
 intro w7 g8
 replace hc4 := g8.heap hc4
 replace G := G.tr g8
 clear g8
 refine qZ 6 ?_
 refine ret2 (zA1 (v := .int .u64 ((zI3 A seg a).1)) rfl) (zA1 (v := .int .u16 ((zI3 A seg a).2)) rfl) ⟨?_, G⟩
 rfl
theorem qH7 (w : World) {u : Value} {A : List (List Int)} (hA : zG1 w u A) (hl : A.length ≤ 1000) : Calls Tryz.prog 182 #[.agg #[u]] w (Ret fun r w2 => ∃ ad c, r = .slice ad A.length c ∧ RowAt w2 1 ad A.length (A.map fun s => .int .i64 (s.length : Int)) ∧ Grow w w2) := by
 obtain ⟨segs_, ⟨ada, ca, rfl, hc1_, hc2_, RA⟩, hrows⟩ := hA
 have G := Grow.rfl' w
 refine zC0 Tryz.func182 Tryz.ntmps182 Tryz.results182 rfl rfl ?_
 refine qZ 2 ?_
 refine stp ?_
 refine qC ?_
 intro b1 w2 hb3 hc4 g5
 have hge6 := Nat.le_trans G.size hb3
 replace G := G.tr g5
 clear g5 hb3
 refine qZ 6 ?_
 refine stp ?_
 refine zC8 rfl (qB1 _ (RA.grow G) rfl (fun i q hq => by obtain ⟨v, h1, h2⟩ := hrows i q hq; exact ⟨v, h1, h2.grow G⟩) (by omega)) ?_
 rintro v_ w7 ⟨own, g_⟩
 replace hc4 := g_.heap hc4
 replace G := G.tr g_
 clear g_
 obtain ⟨ad5, c5, rfl, hc5, hc6, RS⟩ := zH3 own (by omega)
 refine qZ 3 ?_
 refine ret1 (zA1 (v := .slice ad5 A.length c5) rfl) ⟨_, _, rfl, RS, G⟩
theorem qD6 (w : World) {src : Value} {s : Src} (H : SrcOk Tryz.prog w src s) (seg a : Int) : zC5 Tryz.prog 88 #[src, .int .i64 seg, .int .i64 a] w (.tuple #[.agg #[.int .i64 ((ptrS s seg a).1.kind), .int .i64 ((ptrS s seg a).1.off), .int .i64 ((ptrS s seg a).1.data), .int .i64 ((ptrS s seg a).1.ptrs), .int .i64 ((ptrS s seg a).1.size), .int .i64 ((ptrS s seg a).1.count), .int .i64 ((ptrS s seg a).1.seg), .bool ((ptrS s seg a).1.dbl)], .int .u16 ((ptrS s seg a).2)]) := by
 have G := Grow.rfl' w
 refine zB1 Tryz.func88 Tryz.ntmps88 Tryz.results88 rfl rfl ?_
 refine qZ 2 ?_
 refine stp (zB2 ?_)
 intro b1 w2 hb3 hc4 g5
 refine qZ 4 ?_
 refine stp (zD0 (v := src) rfl ?_)
 refine qZ 2 ?_
 have hge6 := Nat.le_trans G.size hb3
 replace G := G.tr g5
 clear g5 hb3
 refine stp (qD5 H G rfl rfl rfl ?_)
 intro w7 g8
 replace hc4 := g8.heap hc4
 replace G := G.tr g8
 clear g8
 refine qZ 10 ?_
 refine stp (zI5 rfl rfl ?_)
 refine zA6 ?_
 refine zA3 (b := (decide (((s.word seg a).2) ≠ 0))) rfl (fun h1 => ?_) (fun h1 => ?_)
 ·
  replace h1 := qT h1
  refine qZ 2 ?_
  refine stp (zA7 (v := .agg #[.int .i64 0, .int .i64 0, .int .i64 0, .int .i64 0, .int .i64 0, .int .i64 0, .int .i64 0, .bool false]) (fun w => by kernel_rfl) ?_)
  refine qZ 1 ?_
  refine stn (qS hc4 ?_)
  intro w9 hc10 u11
  replace G := G.upd u11 hge6
  clear u11 hc4
  refine qZ 3 ?_
  refine ret2 (zB0 rfl hc10 (by rfl)) (zA1 (v := .int .u16 ((s.word seg a).2)) rfl) ⟨?_, G⟩
  have h9 : ptrS s seg a = (Pt0, (s.word seg a).2) := by unfold ptrS; rw [if_pos h1]
  rw [h9]; rfl
 ·
  replace h1 := qF h1
  refine qZ 4 ?_
  refine stp (zA2 (v := .tuple #[.agg #[.int .i64 ((decP (s.word seg a).1).kind), .int .i64 ((decP (s.word seg a).1).off), .int .i64 ((decP (s.word seg a).1).data), .int .i64 ((decP (s.word seg a).1).ptrs), .int .i64 ((decP (s.word seg a).1).size), .int .i64 ((decP (s.word seg a).1).count), .int .i64 ((decP (s.word seg a).1).seg), .bool ((decP (s.word seg a).1).dbl)], .int .u16 (decE (s.word seg a).1)]) rfl (zF4 _ _ (H.num seg a).1 (H.num seg a).2.1) ?_)
  intro w12 g13
  replace hc4 := g13.heap hc4
  replace G := G.tr g13
  clear g13
  refine qZ 2 ?_
  refine stn (qS hc4 ?_)
  intro w14 hc15 u16
  replace G := G.upd u16 hge6
  clear u16 hc4
  refine qZ 3 ?_
  refine ret2 (zB0 rfl hc15 (by rfl)) (zA1 (v := .int .u16 (decE (s.word seg a).1)) rfl) ⟨?_, G⟩
  have h9 : ptrS s seg a = (decP (s.word seg a).1, decE (s.word seg a).1) := by unfold ptrS; rw [if_neg h1]
  rw [h9]
theorem qB3 (w : World) {src : Value} {s : Src} (H : SrcOk Tryz.prog w src s) (p : Pt) (seg a : Int) (hp : PtR p) (ha : inR .i64 a) : zC5 Tryz.prog 90 #[src, .agg #[.int .i64 p.kind, .int .i64 p.off, .int .i64 p.data, .int .i64 p.ptrs, .int .i64 p.size, .int .i64 p.count, .int .i64 p.seg, .bool p.dbl], .int .i64 seg, .int .i64 a] w (.tuple #[.agg #[.int .i64 ((zB5 s p seg a).1.kind), .int .i64 ((zB5 s p seg a).1.seg), .int .i64 ((zB5 s p seg a).1.at_), .int .i64 ((zB5 s p seg a).1.data), .int .i64 ((zB5 s p seg a).1.ptrs), .int .i64 ((zB5 s p seg a).1.size), .int .i64 ((zB5 s p seg a).1.count)], .int .u16 ((zB5 s p seg a).2)]) := by
 have hw9 := zX1 hp.of
 have G := Grow.rfl' w
 refine zB1 Tryz.func90 Tryz.ntmps90 Tryz.results90 rfl rfl ?_
 refine qZ 2 ?_
 refine stp ?_
 refine qC ?_
 intro b1 w2 hb3 hc4 g5
 have hge6 := Nat.le_trans G.size hb3
 replace G := G.tr g5
 clear g5 hb3
 refine stp (zB2 ?_)
 intro b7 w8 hb9 hc10 g11
 refine qZ 5 ?_
 have hge12 := Nat.le_trans G.size hb9
 have ne13 := qN hc4 hb9
 replace hc4 := g11.heap hc4
 replace G := G.tr g11
 clear g11 hb9
 refine qZ 11 ?_
 refine stp (zA7 (v := .agg #[.int .i64 p.kind, .int .i64 seg, .int .i64 a, .int .i64 p.data, .int .i64 p.ptrs, .int .i64 p.size, .int .i64 p.count]) (fun w => by kernel_rfl) ?_)
 refine stp (zB2 ?_)
 intro b14 w15 hb16 hc17 g18
 refine stn (qS hc17 ?_)
 intro w19 hc20 u21
 have g22 := g18.upd u21 hb16
 have hge23 := Nat.le_trans G.size hb16
 have ne24 := qN hc4 hb16
 have ne25 := qN hc10 hb16
 replace hc4 := g22.heap hc4
 replace hc10 := g22.heap hc10
 replace G := G.tr g22
 clear u21 g18 hb16 hc17
 refine qZ 4 ?_
 refine stp (zA2 (v := .agg #[.int .i64 p.kind, .int .i64 0, .int .i64 p.data, .int .i64 p.ptrs, .int .i64 p.size, .int .i64 p.count, .int .i64 0, .bool false]) rfl (qR7 _ ⟨p.kind, seg, a, p.data, p.ptrs, p.size, p.count⟩) ?_)
 intro w26 g27
 replace hc4 := g27.heap hc4
 replace hc10 := g27.heap hc10
 replace hc20 := g27.heap hc20
 replace G := G.tr g27
 clear g27
 refine stp (zA2 (v := .tuple #[.int .i64 (zH4 ⟨p.kind, 0, p.data, p.ptrs, p.size, p.count, 0, false⟩), .int .u16 (zI4 ⟨p.kind, 0, p.data, p.ptrs, p.size, p.count, 0, false⟩)]) rfl (qB0 _ ⟨p.kind, 0, p.data, p.ptrs, p.size, p.count, 0, false⟩) ?_)
 intro w28 g29
 replace hc4 := g29.heap hc4
 replace hc10 := g29.heap hc10
 replace hc20 := g29.heap hc20
 replace G := G.tr g29
 clear g29
 refine qZ 11 ?_
 refine stp (zI5 rfl rfl ?_)
 refine qZ 2 ?_
 refine zA3 (b := (decide ((zI4 ⟨p.kind, 0, p.data, p.ptrs, p.size, p.count, 0, false⟩) ≠ 0))) rfl (fun h1 => ?_) (fun h1 => ?_)
 ·
  replace h1 := qT h1
  refine qZ 2 ?_
  refine stp (zA7 (v := .agg #[.int .i64 0, .int .i64 0, .int .i64 0, .int .i64 0, .int .i64 0, .int .i64 0, .int .i64 0]) (fun w => by kernel_rfl) ?_)
  refine qZ 1 ?_
  refine stn (qS hc10 ?_)
  intro w30 hc31 u32
  replace hc4 := u32.heap hc4 ne13
  replace hc20 := u32.heap hc20 ne25.symm
  replace G := G.upd u32 hge12
  clear u32 hc10
  refine qZ 3 ?_
  refine ret2 (zB0 rfl hc31 (by rfl)) (zA1 (v := .int .u16 (zI4 ⟨p.kind, 0, p.data, p.ptrs, p.size, p.count, 0, false⟩)) rfl) ⟨?_, G⟩
  have h9 : zB5 s p seg a = (Ob0, zI4 ⟨p.kind, 0, p.data, p.ptrs, p.size, p.count, 0, false⟩) := by unfold zB5; exact if_pos h1
  rw [h9]; rfl
 ·
  replace h1 := qF h1
  refine qZ 2 ?_
  refine stp (zD0 (v := src) rfl ?_)
  refine stp (yH6 H G rfl ?_)
  intro adz cz w33 g34 Rz
  replace hc4 := g34.heap hc4
  replace hc10 := g34.heap hc10
  replace hc20 := g34.heap hc20
  replace G := G.tr g34
  clear g34
  refine qZ 3 ?_
  refine stp (zA2 (v := .bool (zG9 s.sizes seg a (zH4 ⟨p.kind, 0, p.data, p.ptrs, p.size, p.count, 0, false⟩))) rfl (qH1 _ Rz H.each ha (by simp only [inR]; omega)) ?_)
  intro w35 g36
  replace hc4 := g36.heap hc4
  replace hc10 := g36.heap hc10
  replace hc20 := g36.heap hc20
  replace Rz := Rz.grow g36
  replace G := G.tr g36
  clear g36
  refine stp (zM1 rfl ?_)
  refine qZ 2 ?_
  refine zA3 (b := (!(zG9 s.sizes seg a (zH4 ⟨p.kind, 0, p.data, p.ptrs, p.size, p.count, 0, false⟩)))) rfl (fun h2 => ?_) (fun h2 => ?_)
  ·
   simp only [sb] at h2
   refine qZ 2 ?_
   refine stp (zA7 (v := .agg #[.int .i64 0, .int .i64 0, .int .i64 0, .int .i64 0, .int .i64 0, .int .i64 0, .int .i64 0]) (fun w => by kernel_rfl) ?_)
   refine stn (qS hc10 ?_)
   intro w37 hc38 u39
   replace hc4 := u39.heap hc4 ne13
   replace hc20 := u39.heap hc20 ne25.symm
   replace G := G.upd u39 hge12
   clear u39 hc10
   refine qZ 3 ?_
   refine ret2 (zB0 rfl hc38 (by rfl)) (zA1 (v := .int .u16 20) rfl) ⟨?_, G⟩
   have h9 : zB5 s p seg a = (Ob0, 20) := by unfold zB5; exact (if_neg h1).trans (if_pos (show zG9 s.sizes seg a (zH4 ⟨p.kind, 0, p.data, p.ptrs, p.size, p.count, 0, false⟩) = false from by simpa using h2))
   rw [h9]; rfl
  ·
   simp only [sb] at h2
   refine qZ 4 ?_
   refine stn (qS hc10 ?_)
   intro w40 hc41 u42
   replace hc4 := u42.heap hc4 ne13
   replace hc20 := u42.heap hc20 ne25.symm
   replace G := G.upd u42 hge12
   clear u42 hc10
   refine qZ 3 ?_
   refine ret2 (zB0 rfl hc41 (by rfl)) (zA1 (v := .int .u16 0) rfl) ⟨?_, G⟩
   have h9 : zB5 s p seg a = (objP p seg a, 0) := by unfold zB5; exact (if_neg h1).trans (if_neg (show ¬ zG9 s.sizes seg a (zH4 ⟨p.kind, 0, p.data, p.ptrs, p.size, p.count, 0, false⟩) = false from by simpa using h2))
   rw [h9]; rfl
theorem qW2 (w : World) {src : Value} {s : Src} (H : SrcOk Tryz.prog w src s) (p : Pt) (hp : PtR p) : zC5 Tryz.prog 92 #[src, .agg #[.int .i64 p.kind, .int .i64 p.off, .int .i64 p.data, .int .i64 p.ptrs, .int .i64 p.size, .int .i64 p.count, .int .i64 p.seg, .bool p.dbl]] w (.tuple #[.agg #[.int .i64 ((zD6 s p).1.kind), .int .i64 ((zD6 s p).1.seg), .int .i64 ((zD6 s p).1.at_), .int .i64 ((zD6 s p).1.data), .int .i64 ((zD6 s p).1.ptrs), .int .i64 ((zD6 s p).1.size), .int .i64 ((zD6 s p).1.count)], .int .u16 ((zD6 s p).2)]) := by
 have hq := zY5 H p.seg p.off
 have hqo := hq.off
 have hpo := hp.off
 have G := Grow.rfl' w
 refine zB1 Tryz.func92 Tryz.ntmps92 Tryz.results92 rfl rfl ?_
 refine qZ 2 ?_
 refine stp ?_
 refine qC ?_
 intro b1 w2 hb3 hc4 g5
 have hge6 := Nat.le_trans G.size hb3
 replace G := G.tr g5
 clear g5 hb3
 refine stp (zB2 ?_)
 intro b7 w8 hb9 hc10 g11
 refine qZ 4 ?_
 refine stp (zD0 (v := src) rfl ?_)
 refine qZ 1 ?_
 have hge12 := Nat.le_trans G.size hb9
 have ne13 := qN hc4 hb9
 replace hc4 := g11.heap hc4
 replace G := G.tr g11
 clear g11 hb9
 refine qZ 3 ?_
 refine stp (zA2 (v := .tuple #[.agg #[.int .i64 ((ptrS s p.seg p.off).1.kind), .int .i64 ((ptrS s p.seg p.off).1.off), .int .i64 ((ptrS s p.seg p.off).1.data), .int .i64 ((ptrS s p.seg p.off).1.ptrs), .int .i64 ((ptrS s p.seg p.off).1.size), .int .i64 ((ptrS s p.seg p.off).1.count), .int .i64 ((ptrS s p.seg p.off).1.seg), .bool ((ptrS s p.seg p.off).1.dbl)], .int .u16 ((ptrS s p.seg p.off).2)]) rfl (qD6 _ (H.grow G) p.seg p.off) ?_)
 intro w14 g15
 replace hc4 := g15.heap hc4
 replace hc10 := g15.heap hc10
 replace G := G.tr g15
 clear g15
 refine qZ 3 ?_
 refine stp (zB2 ?_)
 intro b16 w17 hb18 hc19 g20
 refine stn (qS hc19 ?_)
 intro w21 hc22 u23
 have g24 := g20.upd u23 hb18
 have hge25 := Nat.le_trans G.size hb18
 have ne26 := qN hc4 hb18
 have ne27 := qN hc10 hb18
 replace hc4 := g24.heap hc4
 replace hc10 := g24.heap hc10
 replace G := G.tr g24
 clear u23 g20 hb18 hc19
 refine qZ 7 ?_
 refine stp (zI5 rfl rfl ?_)
 refine qZ 2 ?_
 refine zA3 (b := (decide (((ptrS s p.seg p.off).2) ≠ 0))) rfl (fun h1 => ?_) (fun h1 => ?_)
 ·
  replace h1 := qT h1
  refine qZ 2 ?_
  refine stp (zA7 (v := .agg #[.int .i64 0, .int .i64 0, .int .i64 0, .int .i64 0, .int .i64 0, .int .i64 0, .int .i64 0]) (fun w => by kernel_rfl) ?_)
  refine qZ 1 ?_
  refine stn (qS hc10 ?_)
  intro w28 hc29 u30
  replace hc4 := u30.heap hc4 ne13
  replace hc22 := u30.heap hc22 ne27.symm
  replace G := G.upd u30 hge12
  clear u30 hc10
  refine qZ 3 ?_
  refine ret2 (zB0 rfl hc29 (by rfl)) (zA1 (v := .int .u16 ((ptrS s p.seg p.off).2)) rfl) ⟨?_, G⟩
  have h9 : zD6 s p = (Ob0, (ptrS s p.seg p.off).2) := by unfold zD6; rw [if_pos h1]
  rw [h9]; rfl
 ·
  replace h1 := qF h1
  refine qZ 3 ?_
  refine stp (zA2 (v := .bool (zK1 ((ptrS s p.seg p.off).1))) rfl (zN0 _ ((ptrS s p.seg p.off).1)) ?_)
  intro w31 g32
  replace hc4 := g32.heap hc4
  replace hc10 := g32.heap hc10
  replace hc22 := g32.heap hc22
  replace G := G.tr g32
  clear g32
  refine stp (zM1 rfl ?_)
  refine qZ 2 ?_
  refine zA3 (b := (!(zK1 ((ptrS s p.seg p.off).1)))) rfl (fun h2 => ?_) (fun h2 => ?_)
  ·
   simp only [sb] at h2
   refine qZ 2 ?_
   refine stp (zA7 (v := .agg #[.int .i64 0, .int .i64 0, .int .i64 0, .int .i64 0, .int .i64 0, .int .i64 0, .int .i64 0]) (fun w => by kernel_rfl) ?_)
   refine stn (qS hc10 ?_)
   intro w33 hc34 u35
   replace hc4 := u35.heap hc4 ne13
   replace hc22 := u35.heap hc22 ne27.symm
   replace G := G.upd u35 hge12
   clear u35 hc10
   refine qZ 3 ?_
   refine ret2 (zB0 rfl hc34 (by rfl)) (zA1 (v := .int .u16 23) rfl) ⟨?_, G⟩
   have h9 : zD6 s p = (Ob0, 23) := by unfold zD6; rw [if_neg h1, if_pos (by simpa using h2)]
   rw [h9]; rfl
  ·
   simp only [sb] at h2
   refine qZ 3 ?_
   refine stp (zD0 (v := src) rfl ?_)
   refine qZ 5 ?_
   refine stp (zC3 rfl rfl ?_ ?_); constructor <;> omega
   refine qZ 2 ?_
   refine stp (zC3 rfl rfl ?_ ?_); constructor <;> omega
   refine stp (zA2 (v := .tuple #[.agg #[.int .i64 ((zB5 s ((ptrS s p.seg p.off).1) p.seg ((p.off + 1) + ((ptrS s p.seg p.off).1.off))).1.kind), .int .i64 ((zB5 s ((ptrS s p.seg p.off).1) p.seg ((p.off + 1) + ((ptrS s p.seg p.off).1.off))).1.seg), .int .i64 ((zB5 s ((ptrS s p.seg p.off).1) p.seg ((p.off + 1) + ((ptrS s p.seg p.off).1.off))).1.at_), .int .i64 ((zB5 s ((ptrS s p.seg p.off).1) p.seg ((p.off + 1) + ((ptrS s p.seg p.off).1.off))).1.data), .int .i64 ((zB5 s ((ptrS s p.seg p.off).1) p.seg ((p.off + 1) + ((ptrS s p.seg p.off).1.off))).1.ptrs), .int .i64 ((zB5 s ((ptrS s p.seg p.off).1) p.seg ((p.off + 1) + ((ptrS s p.seg p.off).1.off))).1.size), .int .i64 ((zB5 s ((ptrS s p.seg p.off).1) p.seg ((p.off + 1) + ((ptrS s p.seg p.off).1.off))).1.count)], .int .u16 ((zB5 s ((ptrS s p.seg p.off).1) p.seg ((p.off + 1) + ((ptrS s p.seg p.off).1.off))).2)]) rfl (qB3 _ (H.grow G) ((ptrS s p.seg p.off).1) p.seg ((p.off + 1) + ((ptrS s p.seg p.off).1.off)) hq (by simp only [inR]; omega)) ?_)
   intro w36 g37
   replace hc4 := g37.heap hc4
   replace hc10 := g37.heap hc10
   replace hc22 := g37.heap hc22
   replace G := G.tr g37
   clear g37
   refine qZ 2 ?_
   refine stn (qS hc10 ?_)
   intro w38 hc39 u40
   replace hc4 := u40.heap hc4 ne13
   replace hc22 := u40.heap hc22 ne27.symm
   replace G := G.upd u40 hge12
   clear u40 hc10
   refine qZ 3 ?_
   refine ret2 (zB0 rfl hc39 (by rfl)) (zA1 (v := .int .u16 ((zB5 s ((ptrS s p.seg p.off).1) p.seg ((p.off + 1) + ((ptrS s p.seg p.off).1.off))).2)) rfl) ⟨?_, G⟩
   have h9 : zD6 s p = zB5 s (ptrS s p.seg p.off).1 p.seg (p.off + 1 + (ptrS s p.seg p.off).1.off) := by unfold zD6; rw [if_neg h1, if_neg (by simpa using h2)]
   rw [h9]
theorem yA9 (w : World) {src : Value} {s : Src} (H : SrcOk Tryz.prog w src s) (p : Pt) (hp : PtR p) : zC5 Tryz.prog 91 #[src, .agg #[.int .i64 p.kind, .int .i64 p.off, .int .i64 p.data, .int .i64 p.ptrs, .int .i64 p.size, .int .i64 p.count, .int .i64 p.seg, .bool p.dbl]] w (.tuple #[.agg #[.int .i64 ((zD9 s p).1.kind), .int .i64 ((zD9 s p).1.seg), .int .i64 ((zD9 s p).1.at_), .int .i64 ((zD9 s p).1.data), .int .i64 ((zD9 s p).1.ptrs), .int .i64 ((zD9 s p).1.size), .int .i64 ((zD9 s p).1.count)], .int .u16 ((zD9 s p).2)]) := by
 have hpo := hp.off
 obtain ⟨n1, n2, -, -⟩ := H.num p.seg p.off
 obtain ⟨n3, n4, -, -⟩ := H.num p.seg (p.off + 1)
 have hq := zK8 _ n1 n2
 have hr := zK8 _ n3 n4
 have hqo := hq.off
 have G := Grow.rfl' w
 refine zB1 Tryz.func91 Tryz.ntmps91 Tryz.results91 rfl rfl ?_
 refine qZ 2 ?_
 refine stp ?_
 refine qC ?_
 intro b1 w2 hb3 hc4 g5
 have hge6 := Nat.le_trans G.size hb3
 replace G := G.tr g5
 clear g5 hb3
 refine stp (zB2 ?_)
 intro b7 w8 hb9 hc10 g11
 refine qZ 4 ?_
 refine stp (zD0 (v := src) rfl ?_)
 refine qZ 1 ?_
 have hge12 := Nat.le_trans G.size hb9
 have ne13 := qN hc4 hb9
 replace hc4 := g11.heap hc4
 replace G := G.tr g11
 clear g11 hb9
 refine qZ 3 ?_
 refine stp (qD5 H G rfl rfl rfl ?_)
 intro w14 g15
 replace hc4 := g15.heap hc4
 replace hc10 := g15.heap hc10
 replace G := G.tr g15
 clear g15
 refine qZ 10 ?_
 refine stp (zI5 rfl rfl ?_)
 refine zA6 ?_
 refine zA3 (b := (decide (((s.word p.seg p.off).2) ≠ 0))) rfl (fun h1 => ?_) (fun h1 => ?_)
 ·
  replace h1 := qT h1
  refine qZ 2 ?_
  refine stp (zA7 (v := .agg #[.int .i64 0, .int .i64 0, .int .i64 0, .int .i64 0, .int .i64 0, .int .i64 0, .int .i64 0]) (fun w => by kernel_rfl) ?_)
  refine qZ 1 ?_
  refine stn (qS hc10 ?_)
  intro w16 hc17 u18
  replace hc4 := u18.heap hc4 ne13
  replace G := G.upd u18 hge12
  clear u18 hc10
  refine qZ 3 ?_
  refine ret2 (zB0 rfl hc17 (by rfl)) (zA1 (v := .int .u16 ((s.word p.seg p.off).2)) rfl) ⟨?_, G⟩
  have h9 : zD9 s p = (Ob0, (s.word p.seg p.off).2) := by unfold zD9; rw [if_pos h1]
  rw [h9]; rfl
 ·
  replace h1 := qF h1
  refine qZ 3 ?_
  refine stp (zD0 (v := src) rfl ?_)
  refine qZ 4 ?_
  refine stp (zC3 rfl rfl ?_ ?_); constructor <;> omega
  refine stp (qD5 H G rfl rfl rfl ?_)
  intro w19 g20
  replace hc4 := g20.heap hc4
  replace hc10 := g20.heap hc10
  replace G := G.tr g20
  clear g20
  refine qZ 10 ?_
  refine stp (zI5 rfl rfl ?_)
  refine zA6 ?_
  refine zA3 (b := (decide (((s.word p.seg (p.off + 1)).2) ≠ 0))) rfl (fun h2 => ?_) (fun h2 => ?_)
  ·
   replace h2 := qT h2
   refine qZ 2 ?_
   refine stp (zA7 (v := .agg #[.int .i64 0, .int .i64 0, .int .i64 0, .int .i64 0, .int .i64 0, .int .i64 0, .int .i64 0]) (fun w => by kernel_rfl) ?_)
   refine qZ 1 ?_
   refine stn (qS hc10 ?_)
   intro w21 hc22 u23
   replace hc4 := u23.heap hc4 ne13
   replace G := G.upd u23 hge12
   clear u23 hc10
   refine qZ 3 ?_
   refine ret2 (zB0 rfl hc22 (by rfl)) (zA1 (v := .int .u16 ((s.word p.seg (p.off + 1)).2)) rfl) ⟨?_, G⟩
   have h9 : zD9 s p = (Ob0, (s.word p.seg (p.off + 1)).2) := by unfold zD9; rw [if_neg h1, if_pos h2]
   rw [h9]; rfl
  ·
   replace h2 := qF h2
   refine qZ 4 ?_
   refine stp (zA2 (v := .tuple #[.agg #[.int .i64 ((decP (s.word p.seg p.off).1).kind), .int .i64 ((decP (s.word p.seg p.off).1).off), .int .i64 ((decP (s.word p.seg p.off).1).data), .int .i64 ((decP (s.word p.seg p.off).1).ptrs), .int .i64 ((decP (s.word p.seg p.off).1).size), .int .i64 ((decP (s.word p.seg p.off).1).count), .int .i64 ((decP (s.word p.seg p.off).1).seg), .bool ((decP (s.word p.seg p.off).1).dbl)], .int .u16 (decE (s.word p.seg p.off).1)]) rfl (zF4 _ _ (H.num p.seg p.off).1 (H.num p.seg p.off).2.1) ?_)
   intro w24 g25
   replace hc4 := g25.heap hc4
   replace hc10 := g25.heap hc10
   replace G := G.tr g25
   clear g25
   refine qZ 3 ?_
   refine stp (zB2 ?_)
   intro b26 w27 hb28 hc29 g30
   refine stn (qS hc29 ?_)
   intro w31 hc32 u33
   have g34 := g30.upd u33 hb28
   have hge35 := Nat.le_trans G.size hb28
   have ne36 := qN hc4 hb28
   have ne37 := qN hc10 hb28
   replace hc4 := g34.heap hc4
   replace hc10 := g34.heap hc10
   replace G := G.tr g34
   clear u33 g30 hb28 hc29
   refine qZ 6 ?_
   refine stp (zI5 rfl rfl ?_)
   refine zA6 ?_
   refine zA3 (b := (decide ((decE (s.word p.seg p.off).1) ≠ 0))) rfl (fun h3 => ?_) (fun h3 => ?_)
   ·
    replace h3 := qT h3
    refine qZ 2 ?_
    refine stp (zA7 (v := .agg #[.int .i64 0, .int .i64 0, .int .i64 0, .int .i64 0, .int .i64 0, .int .i64 0, .int .i64 0]) (fun w => by kernel_rfl) ?_)
    refine qZ 1 ?_
    refine stn (qS hc10 ?_)
    intro w38 hc39 u40
    replace hc4 := u40.heap hc4 ne13
    replace hc32 := u40.heap hc32 ne37.symm
    replace G := G.upd u40 hge12
    clear u40 hc10
    refine qZ 3 ?_
    refine ret2 (zB0 rfl hc39 (by rfl)) (zA1 (v := .int .u16 (decE (s.word p.seg p.off).1)) rfl) ⟨?_, G⟩
    have h9 : zD9 s p = (Ob0, decE (s.word p.seg p.off).1) := by unfold zD9; rw [if_neg h1, if_neg h2, if_pos h3]
    rw [h9]; rfl
   ·
    replace h3 := qF h3
    refine qZ 4 ?_
    refine stp (zA2 (v := .tuple #[.agg #[.int .i64 ((decP (s.word p.seg (p.off + 1)).1).kind), .int .i64 ((decP (s.word p.seg (p.off + 1)).1).off), .int .i64 ((decP (s.word p.seg (p.off + 1)).1).data), .int .i64 ((decP (s.word p.seg (p.off + 1)).1).ptrs), .int .i64 ((decP (s.word p.seg (p.off + 1)).1).size), .int .i64 ((decP (s.word p.seg (p.off + 1)).1).count), .int .i64 ((decP (s.word p.seg (p.off + 1)).1).seg), .bool ((decP (s.word p.seg (p.off + 1)).1).dbl)], .int .u16 (decE (s.word p.seg (p.off + 1)).1)]) rfl (zF4 _ _ (H.num p.seg (p.off + 1)).1 (H.num p.seg (p.off + 1)).2.1) ?_)
    intro w41 g42
    replace hc4 := g42.heap hc4
    replace hc10 := g42.heap hc10
    replace hc32 := g42.heap hc32
    replace G := G.tr g42
    clear g42
    refine qZ 3 ?_
    refine stp (zB2 ?_)
    intro b43 w44 hb45 hc46 g47
    refine stn (qS hc46 ?_)
    intro w48 hc49 u50
    have g51 := g47.upd u50 hb45
    have hge52 := Nat.le_trans G.size hb45
    have ne53 := qN hc4 hb45
    have ne54 := qN hc10 hb45
    have ne55 := qN hc32 hb45
    replace hc4 := g51.heap hc4
    replace hc10 := g51.heap hc10
    replace hc32 := g51.heap hc32
    replace G := G.tr g51
    clear u50 g47 hb45 hc46
    refine qZ 7 ?_
    refine stp (zI5 rfl rfl ?_)
    refine qZ 2 ?_
    refine zA3 (b := (decide ((decE (s.word p.seg (p.off + 1)).1) ≠ 0))) rfl (fun h4 => ?_) (fun h4 => ?_)
    ·
     replace h4 := qT h4
     refine qZ 2 ?_
     refine stp (zA7 (v := .agg #[.int .i64 0, .int .i64 0, .int .i64 0, .int .i64 0, .int .i64 0, .int .i64 0, .int .i64 0]) (fun w => by kernel_rfl) ?_)
     refine qZ 1 ?_
     refine stn (qS hc10 ?_)
     intro w56 hc57 u58
     replace hc4 := u58.heap hc4 ne13
     replace hc32 := u58.heap hc32 ne37.symm
     replace hc49 := u58.heap hc49 ne54.symm
     replace G := G.upd u58 hge12
     clear u58 hc10
     refine qZ 3 ?_
     refine ret2 (zB0 rfl hc57 (by rfl)) (zA1 (v := .int .u16 (decE (s.word p.seg (p.off + 1)).1)) rfl) ⟨?_, G⟩
     have h9 : zD9 s p = (Ob0, decE (s.word p.seg (p.off + 1)).1) := by unfold zD9; rw [if_neg h1, if_neg h2, if_neg h3, if_pos h4]
     rw [h9]; rfl
    ·
     replace h4 := qF h4
     refine qZ 4 ?_
     refine stp (zI5 rfl rfl ?_)
     refine qZ 1 ?_
     refine qG 2 ?_
     refine stp (zJ3 rfl rfl rfl ?_)
     refine qZ 1 ?_
     refine zA4 (zB7 (s := .bool _) (v := .agg #[.int .i64 ((decP (s.word p.seg (p.off + 1)).1).kind), .int .i64 ((decP (s.word p.seg (p.off + 1)).1).off), .int .i64 ((decP (s.word p.seg (p.off + 1)).1).data), .int .i64 ((decP (s.word p.seg (p.off + 1)).1).ptrs), .int .i64 ((decP (s.word p.seg (p.off + 1)).1).size), .int .i64 ((decP (s.word p.seg (p.off + 1)).1).count), .int .i64 ((decP (s.word p.seg (p.off + 1)).1).seg), .bool ((decP (s.word p.seg (p.off + 1)).1).dbl)]) rfl (zF0 _) (fun hc61 => ?_) ?_)
     ·
      have hc61_ := hc61
      try simp only [sb] at hc61_
      refine zC7 rfl hc49 (by rfl) ?_
      exact ⟨rfl, rfl⟩
     refine zA4 (zZ5 (s := .bool ((decide (((decP (s.word p.seg p.off).1).kind) ≠ 3)) || ((decP (s.word p.seg p.off).1).dbl))) (b := false) (v := .bool (zK1 (decP (s.word p.seg (p.off + 1)).1))) rfl (zF0 _) (fun hc62 => ?_) ?_)
     ·
      have hc62_ := hc62
      try simp only [sb] at hc62_
      exact zO6 (l := ([.agg #[.int .i64 ((decP (s.word p.seg (p.off + 1)).1).kind), .int .i64 ((decP (s.word p.seg (p.off + 1)).1).off), .int .i64 ((decP (s.word p.seg (p.off + 1)).1).data), .int .i64 ((decP (s.word p.seg (p.off + 1)).1).ptrs), .int .i64 ((decP (s.word p.seg (p.off + 1)).1).size), .int .i64 ((decP (s.word p.seg (p.off + 1)).1).count), .int .i64 ((decP (s.word p.seg (p.off + 1)).1).seg), .bool ((decP (s.word p.seg (p.off + 1)).1).dbl)]] : List Value)) rfl (by show ([gv (!((decide (((decP (s.word p.seg p.off).1).kind) ≠ 3)) || ((decP (s.word p.seg p.off).1).dbl))) (.agg #[.int .i64 ((decP (s.word p.seg (p.off + 1)).1).kind), .int .i64 ((decP (s.word p.seg (p.off + 1)).1).off), .int .i64 ((decP (s.word p.seg (p.off + 1)).1).data), .int .i64 ((decP (s.word p.seg (p.off + 1)).1).ptrs), .int .i64 ((decP (s.word p.seg (p.off + 1)).1).size), .int .i64 ((decP (s.word p.seg (p.off + 1)).1).count), .int .i64 ((decP (s.word p.seg (p.off + 1)).1).seg), .bool ((decP (s.word p.seg (p.off + 1)).1).dbl)])] : List Value) = _; rw [gvt hc62]) (zN0 _ (decP (s.word p.seg (p.off + 1)).1)) (fun w2_ g2_ => ⟨rfl, g2_⟩)
     intro w63 g64
     replace hc4 := g64.heap hc4
     replace hc10 := g64.heap hc10
     replace hc32 := g64.heap hc32
     replace hc49 := g64.heap hc49
     replace G := G.tr g64
     clear g64
     refine zA4 (zB7 (s := .bool _) (v := .bool (!(zK1 (decP (s.word p.seg (p.off + 1)).1)))) rfl (zF0 _) (fun hc65 => ?_) ?_)
     ·
      have hc65_ := hc65
      try simp only [sb] at hc65_
      refine zM1 (gvt hc65) ?_
      exact ⟨rfl, rfl⟩
     refine stp (zJ3 rfl rfl rfl ?_)
     refine qZ 1 ?_
     refine qG 2 ?_
     refine zA4 (zB7 (s := .bool _) (v := .bool (decide (((decP (s.word p.seg (p.off + 1)).1).off) ≠ 0))) rfl (zF0 _) (fun hc68 => ?_) ?_)
     ·
      have hc68_ := hc68
      try simp only [sb] at hc68_
      refine zI5 (gvt hc68) rfl ?_
      exact ⟨rfl, rfl⟩
     refine stp (zJ3 rfl rfl rfl ?_)
     refine qZ 2 ?_
     refine zA3 (b := ((((decide (((decP (s.word p.seg p.off).1).kind) ≠ 3)) || ((decP (s.word p.seg p.off).1).dbl)) || (!(zK1 (decP (s.word p.seg (p.off + 1)).1)))) || (decide (((decP (s.word p.seg (p.off + 1)).1).off) ≠ 0)))) rfl (fun h5 => ?_) (fun h5 => ?_)
     ·
      simp only [sb] at h5
      have h8 : (decP (s.word p.seg p.off).1).kind ≠ 3 ∨ (decP (s.word p.seg p.off).1).dbl = true ∨ zK1 (decP (s.word p.seg (p.off + 1)).1) = false ∨ (decP (s.word p.seg (p.off + 1)).1).off ≠ 0 := by simpa [or_assoc] using h5
      refine qZ 2 ?_
      refine stp (zA7 (v := .agg #[.int .i64 0, .int .i64 0, .int .i64 0, .int .i64 0, .int .i64 0, .int .i64 0, .int .i64 0]) (fun w => by kernel_rfl) ?_)
      refine stn (qS hc10 ?_)
      intro w69 hc70 u71
      replace hc4 := u71.heap hc4 ne13
      replace hc32 := u71.heap hc32 ne37.symm
      replace hc49 := u71.heap hc49 ne54.symm
      replace G := G.upd u71 hge12
      clear u71 hc10
      refine qZ 3 ?_
      refine ret2 (zB0 rfl hc70 (by rfl)) (zA1 (v := .int .u16 23) rfl) ⟨?_, G⟩
      have h9 : zD9 s p = (Ob0, 23) := by unfold zD9; rw [if_neg h1, if_neg h2, if_neg h3, if_neg h4, if_pos h8]
      rw [h9]; rfl
     ·
      simp only [sb] at h5
      have h8 : ¬ ((decP (s.word p.seg p.off).1).kind ≠ 3 ∨ (decP (s.word p.seg p.off).1).dbl = true ∨ zK1 (decP (s.word p.seg (p.off + 1)).1) = false ∨ (decP (s.word p.seg (p.off + 1)).1).off ≠ 0) := by simpa [and_assoc] using h5
      refine qZ 3 ?_
      refine stp (zD0 (v := src) rfl ?_)
      refine qZ 5 ?_
      refine stp (zA2 (v := .tuple #[.agg #[.int .i64 ((zB5 s (decP (s.word p.seg (p.off + 1)).1) ((decP (s.word p.seg p.off).1).seg) ((decP (s.word p.seg p.off).1).off)).1.kind), .int .i64 ((zB5 s (decP (s.word p.seg (p.off + 1)).1) ((decP (s.word p.seg p.off).1).seg) ((decP (s.word p.seg p.off).1).off)).1.seg), .int .i64 ((zB5 s (decP (s.word p.seg (p.off + 1)).1) ((decP (s.word p.seg p.off).1).seg) ((decP (s.word p.seg p.off).1).off)).1.at_), .int .i64 ((zB5 s (decP (s.word p.seg (p.off + 1)).1) ((decP (s.word p.seg p.off).1).seg) ((decP (s.word p.seg p.off).1).off)).1.data), .int .i64 ((zB5 s (decP (s.word p.seg (p.off + 1)).1) ((decP (s.word p.seg p.off).1).seg) ((decP (s.word p.seg p.off).1).off)).1.ptrs), .int .i64 ((zB5 s (decP (s.word p.seg (p.off + 1)).1) ((decP (s.word p.seg p.off).1).seg) ((decP (s.word p.seg p.off).1).off)).1.size), .int .i64 ((zB5 s (decP (s.word p.seg (p.off + 1)).1) ((decP (s.word p.seg p.off).1).seg) ((decP (s.word p.seg p.off).1).off)).1.count)], .int .u16 ((zB5 s (decP (s.word p.seg (p.off + 1)).1) ((decP (s.word p.seg p.off).1).seg) ((decP (s.word p.seg p.off).1).off)).2)]) rfl (qB3 _ (H.grow G) (decP (s.word p.seg (p.off + 1)).1) ((decP (s.word p.seg p.off).1).seg) ((decP (s.word p.seg p.off).1).off) hr (by simp only [inR]; omega)) ?_)
      intro w72 g73
      replace hc4 := g73.heap hc4
      replace hc10 := g73.heap hc10
      replace hc32 := g73.heap hc32
      replace hc49 := g73.heap hc49
      replace G := G.tr g73
      clear g73
      refine qZ 2 ?_
      refine stn (qS hc10 ?_)
      intro w74 hc75 u76
      replace hc4 := u76.heap hc4 ne13
      replace hc32 := u76.heap hc32 ne37.symm
      replace hc49 := u76.heap hc49 ne54.symm
      replace G := G.upd u76 hge12
      clear u76 hc10
      refine qZ 3 ?_
      refine ret2 (zB0 rfl hc75 (by rfl)) (zA1 (v := .int .u16 ((zB5 s (decP (s.word p.seg (p.off + 1)).1) ((decP (s.word p.seg p.off).1).seg) ((decP (s.word p.seg p.off).1).off)).2)) rfl) ⟨?_, G⟩
      have h9 : zD9 s p = zB5 s (decP (s.word p.seg (p.off + 1)).1) (decP (s.word p.seg p.off).1).seg (decP (s.word p.seg p.off).1).off := by unfold zD9; rw [if_neg h1, if_neg h2, if_neg h3, if_neg h4, if_neg h8]
      rw [h9]
theorem qW3 (w : World) {src : Value} {s : Src} (H : SrcOk Tryz.prog w src s) (seg a : Int) : zC5 Tryz.prog 52 #[src, .int .i64 seg, .int .i64 a] w (.tuple #[.agg #[.int .i64 ((zA0 s seg a).1.kind), .int .i64 ((zA0 s seg a).1.seg), .int .i64 ((zA0 s seg a).1.at_), .int .i64 ((zA0 s seg a).1.data), .int .i64 ((zA0 s seg a).1.ptrs), .int .i64 ((zA0 s seg a).1.size), .int .i64 ((zA0 s seg a).1.count)], .int .u16 ((zA0 s seg a).2)]) := by
 obtain ⟨t_, u_, f_, hsrc, -, -⟩ := H.word
 have hq := zY5 H seg a
 have hqo := hq.off
 have G := Grow.rfl' w
 refine zB1 Tryz.func52 Tryz.ntmps52 Tryz.results52 rfl rfl ?_
 refine qZ 2 ?_
 refine stp (zB2 ?_)
 intro b1 w2 hb3 hc4 g5
 refine qZ 5 ?_
 refine stp (zD0 (v := src) rfl ?_)
 refine stp (yE8 (T := t_) (v := u_) hsrc rfl ?_)
 refine zA6 ?_
 have hge6 := Nat.le_trans G.size hb3
 replace G := G.tr g5
 clear g5 hb3
 refine zJ5 rfl ?_
 refine qZ 3 ?_
 refine stp (zD0 (v := src) rfl ?_)
 refine qZ 2 ?_
 refine stp (zA2 (v := .tuple #[.agg #[.int .i64 ((ptrS s seg a).1.kind), .int .i64 ((ptrS s seg a).1.off), .int .i64 ((ptrS s seg a).1.data), .int .i64 ((ptrS s seg a).1.ptrs), .int .i64 ((ptrS s seg a).1.size), .int .i64 ((ptrS s seg a).1.count), .int .i64 ((ptrS s seg a).1.seg), .bool ((ptrS s seg a).1.dbl)], .int .u16 ((ptrS s seg a).2)]) rfl (qD6 _ (H.grow G) seg a) ?_)
 intro w7 g8
 replace hc4 := g8.heap hc4
 replace G := G.tr g8
 clear g8
 refine qZ 3 ?_
 refine stp (zB2 ?_)
 intro b9 w10 hb11 hc12 g13
 refine stn (qS hc12 ?_)
 intro w14 hc15 u16
 have g17 := g13.upd u16 hb11
 have hge18 := Nat.le_trans G.size hb11
 have ne19 := qN hc4 hb11
 replace hc4 := g17.heap hc4
 replace G := G.tr g17
 clear u16 g13 hb11 hc12
 refine qZ 7 ?_
 refine stp (zI5 rfl rfl ?_)
 refine qZ 1 ?_
 refine qG 2 ?_
 refine zA4 (zB7 (s := .bool _) (v := .bool (decide (((ptrS s seg a).1.kind) = 0))) rfl (zF0 _) (fun hc22 => ?_) ?_)
 ·
  have hc22_ := hc22
  try simp only [sb] at hc22_
  refine zE2 (gvt hc22) rfl ?_
  exact ⟨rfl, rfl⟩
 refine stp (zJ3 rfl rfl rfl ?_)
 refine qZ 2 ?_
 refine zA3 (b := ((decide (((ptrS s seg a).2) ≠ 0)) || (decide (((ptrS s seg a).1.kind) = 0)))) rfl (fun h1 => ?_) (fun h1 => ?_)
 ·
  simp only [sb] at h1
  refine qZ 2 ?_
  refine stp (zA7 (v := .agg #[.int .i64 0, .int .i64 0, .int .i64 0, .int .i64 0, .int .i64 0, .int .i64 0, .int .i64 0]) (fun w => by kernel_rfl) ?_)
  refine qZ 1 ?_
  refine stn (qS hc4 ?_)
  intro w23 hc24 u25
  replace hc15 := u25.heap hc15 ne19.symm
  replace G := G.upd u25 hge6
  clear u25 hc4
  refine qZ 3 ?_
  refine ret2 (zB0 rfl hc24 (by rfl)) (zA1 (v := .int .u16 ((ptrS s seg a).2)) rfl) ⟨?_, G⟩
  have h9 : zA0 s seg a = (Ob0, (ptrS s seg a).2) := by unfold zA0; rw [if_pos h1]
  rw [h9]; rfl
 ·
  simp only [sb] at h1
  have hz : (ptrS s seg a).2 = 0 := by omega
  have hb := yY6 H hz
  have h1n : ¬ ((ptrS s seg a).2 ≠ 0 ∨ (ptrS s seg a).1.kind = 0) := by omega
  refine qZ 3 ?_
  refine stp (zA2 (v := .bool (zK1 ((ptrS s seg a).1))) rfl (zN0 _ ((ptrS s seg a).1)) ?_)
  intro w26 g27
  replace hc4 := g27.heap hc4
  replace hc15 := g27.heap hc15
  replace G := G.tr g27
  clear g27
  refine qZ 2 ?_
  refine zA3 (b := (zK1 ((ptrS s seg a).1))) rfl (fun h2 => ?_) (fun h2 => ?_)
  ·
   refine qZ 2 ?_
   refine stp (zD0 (v := src) rfl ?_)
   refine qZ 3 ?_
   refine stp (zC3 rfl rfl ?_ ?_); constructor <;> omega
   refine qZ 2 ?_
   refine stp (zC3 rfl rfl ?_ ?_); constructor <;> omega
   refine stp (zA2 (v := .tuple #[.agg #[.int .i64 ((zB5 s ((ptrS s seg a).1) seg ((a + 1) + ((ptrS s seg a).1.off))).1.kind), .int .i64 ((zB5 s ((ptrS s seg a).1) seg ((a + 1) + ((ptrS s seg a).1.off))).1.seg), .int .i64 ((zB5 s ((ptrS s seg a).1) seg ((a + 1) + ((ptrS s seg a).1.off))).1.at_), .int .i64 ((zB5 s ((ptrS s seg a).1) seg ((a + 1) + ((ptrS s seg a).1.off))).1.data), .int .i64 ((zB5 s ((ptrS s seg a).1) seg ((a + 1) + ((ptrS s seg a).1.off))).1.ptrs), .int .i64 ((zB5 s ((ptrS s seg a).1) seg ((a + 1) + ((ptrS s seg a).1.off))).1.size), .int .i64 ((zB5 s ((ptrS s seg a).1) seg ((a + 1) + ((ptrS s seg a).1.off))).1.count)], .int .u16 ((zB5 s ((ptrS s seg a).1) seg ((a + 1) + ((ptrS s seg a).1.off))).2)]) rfl (qB3 _ (H.grow G) ((ptrS s seg a).1) seg ((a + 1) + ((ptrS s seg a).1.off)) hq (by simp only [inR]; omega)) ?_)
   intro w28 g29
   replace hc4 := g29.heap hc4
   replace hc15 := g29.heap hc15
   replace G := G.tr g29
   clear g29
   refine qZ 2 ?_
   refine stn (qS hc4 ?_)
   intro w30 hc31 u32
   replace hc15 := u32.heap hc15 ne19.symm
   replace G := G.upd u32 hge6
   clear u32 hc4
   refine qZ 3 ?_
   refine ret2 (zB0 rfl hc31 (by rfl)) (zA1 (v := .int .u16 ((zB5 s ((ptrS s seg a).1) seg ((a + 1) + ((ptrS s seg a).1.off))).2)) rfl) ⟨?_, G⟩
   have h9 : zA0 s seg a = zB5 s (ptrS s seg a).1 seg (a + 1 + (ptrS s seg a).1.off) := by unfold zA0; rw [if_neg h1n, if_pos h2]
   rw [h9]
  ·
   refine qZ 6 ?_
   refine zA3 (b := ((ptrS s seg a).1.dbl)) rfl (fun h3 => ?_) (fun h3 => ?_)
   ·
    refine qZ 2 ?_
    refine stp (zD0 (v := src) rfl ?_)
    refine qZ 1 ?_
    refine stp (zA2 (v := .tuple #[.agg #[.int .i64 ((zD9 s (ptrS s seg a).1).1.kind), .int .i64 ((zD9 s (ptrS s seg a).1).1.seg), .int .i64 ((zD9 s (ptrS s seg a).1).1.at_), .int .i64 ((zD9 s (ptrS s seg a).1).1.data), .int .i64 ((zD9 s (ptrS s seg a).1).1.ptrs), .int .i64 ((zD9 s (ptrS s seg a).1).1.size), .int .i64 ((zD9 s (ptrS s seg a).1).1.count)], .int .u16 ((zD9 s (ptrS s seg a).1).2)]) rfl (yA9 _ (H.grow G) (ptrS s seg a).1 hq) ?_)
    intro w33 g34
    replace hc4 := g34.heap hc4
    replace hc15 := g34.heap hc15
    replace G := G.tr g34
    clear g34
    refine qZ 2 ?_
    refine stn (qS hc4 ?_)
    intro w35 hc36 u37
    replace hc15 := u37.heap hc15 ne19.symm
    replace G := G.upd u37 hge6
    clear u37 hc4
    refine qZ 3 ?_
    refine ret2 (zB0 rfl hc36 (by rfl)) (zA1 (v := .int .u16 ((zD9 s (ptrS s seg a).1).2)) rfl) ⟨?_, G⟩
    have h9 : zA0 s seg a = zD9 s (ptrS s seg a).1 := by unfold zA0; rw [if_neg h1n, if_neg (by simp [h2]), if_pos h3]
    rw [h9]
   ·
    refine qZ 3 ?_
    refine stp (zD0 (v := src) rfl ?_)
    refine qZ 1 ?_
    refine stp (zA2 (v := .tuple #[.agg #[.int .i64 ((zD6 s (ptrS s seg a).1).1.kind), .int .i64 ((zD6 s (ptrS s seg a).1).1.seg), .int .i64 ((zD6 s (ptrS s seg a).1).1.at_), .int .i64 ((zD6 s (ptrS s seg a).1).1.data), .int .i64 ((zD6 s (ptrS s seg a).1).1.ptrs), .int .i64 ((zD6 s (ptrS s seg a).1).1.size), .int .i64 ((zD6 s (ptrS s seg a).1).1.count)], .int .u16 ((zD6 s (ptrS s seg a).1).2)]) rfl (qW2 _ (H.grow G) (ptrS s seg a).1 hq) ?_)
    intro w38 g39
    replace hc4 := g39.heap hc4
    replace hc15 := g39.heap hc15
    replace G := G.tr g39
    clear g39
    refine qZ 2 ?_
    refine stn (qS hc4 ?_)
    intro w40 hc41 u42
    replace hc15 := u42.heap hc15 ne19.symm
    replace G := G.upd u42 hge6
    clear u42 hc4
    refine qZ 3 ?_
    refine ret2 (zB0 rfl hc41 (by rfl)) (zA1 (v := .int .u16 ((zD6 s (ptrS s seg a).1).2)) rfl) ⟨?_, G⟩
    have h9 : zA0 s seg a = zD6 s (ptrS s seg a).1 := by unfold zA0; rw [if_neg h1n, if_neg (by simp [h2]), if_neg (by simp [h3])]
    rw [h9]
theorem qW4 (w : World) {b : Nat} {o : Ob} {left : Int} {t_ : TypeId} {u_ : Value} (hb : w.heap[b]? = some (.cells #[.iface t_ u_, .int .i64 o.kind, .int .i64 o.seg, .int .i64 o.at_, .int .i64 o.data, .int .i64 o.ptrs, .int .i64 o.size, .int .i64 o.count, .int .i64 left] 117 (0, 0))) (h0 : -1 ≤ left ∧ left ≤ 9223372036854775807) (h1 : 0 ≤ zD8 o ∧ zD8 o ≤ 536870912) : Calls Tryz.prog 53 #[.pointer (some ⟨b, 0, none⟩)] w (Ret fun v w' => v = .int .u16 (if left - (1 + zD8 o) < 0 then 22 else 0) ∧ w'.heap[b]? = some (.cells #[.iface t_ u_, .int .i64 o.kind, .int .i64 o.seg, .int .i64 o.at_, .int .i64 o.data, .int .i64 o.ptrs, .int .i64 o.size, .int .i64 o.count, .int .i64 (left - (1 + zD8 o))] 117 (0, 0)) ∧ Kp [b] w w') := by
 have K := Kp.refl [b] w
 refine zC0 Tryz.func53 Tryz.ntmps53 Tryz.results53 rfl rfl ?_
 refine qZ 5 ?_
 refine zK0 12 [[], [0], [1, 0], [2, 1, 0], [], [0], [1, 0], [2, 1, 0], [3, 2, 1, 0], [4, 3, 2, 1, 0], [9, 8, 7, 6, 5, 4, 3, 2, 1, 0], [10, 9, 8, 7, 6, 5, 4, 3, 2, 1, 0]] mixed (by kernel_rfl) (by kernel_rfl) (by kernel_rfl) ?_
 intro w1 g2
 replace hb := g2.heap hb
 replace K := K.tr g2.kp
 clear g2
 refine qA 7 ?_
 apply zA5
 ·intro w_ g_; exact og rfl (zF8 rfl (g_.heap hb) (by rfl) (by rfl) qX)
 apply zA5
 ·intro w_ g_; refine og rfl ?_; exact zA2 (v := .int .i64 (zD8 o)) rfl (qH2 _ o) (fun w2_ g2_ => ⟨g2_, rfl⟩)
 apply zA5
 ·intro w_ g_; refine og rfl ?_; refine zC3 rfl rfl ?_ ?_; constructor <;> omega; exact qX
 apply zA5
 ·intro w_ g_; refine og rfl ?_; refine zL2 rfl rfl ?_ ?_; constructor <;> omega; exact qX
 refine qA 1 ?_
 refine zG5 ?_
 intro w3 g4
 replace hb := g4.heap hb
 replace K := K.tr g4.kp
 clear g4
 refine qZ 1 ?_
 refine stn (zC2 (v := .int .i64 (left - (1 + (zD8 o)))) rfl rfl (by rfl) hb (by rfl) (by rfl) ?_)
 intro w5 hc6 u7
 replace K := K.tr (Kp.of_upd u7 (by simp))
 clear u7 hb
 refine qZ 8 ?_
 refine stp (zI1 rfl rfl ?_)
 refine zA6 ?_
 refine zA3 (b := (decide ((left - (1 + (zD8 o))) < 0))) rfl (fun h2 => ?_) (fun h2 => ?_)
 ·
  replace h2 := qT h2
  refine qZ 5 ?_
  refine ret1 (zA1 (v := .int .u16 22) rfl) ⟨by rw [if_pos h2], hc6, K⟩
 ·
  replace h2 := qF h2
  refine qZ 6 ?_
  refine ret1 (zA1 (v := .int .u16 0) rfl) ⟨by rw [if_neg h2], hc6, K⟩
theorem yT4 (w : World) {b : Nat} {o : Ob} {left : Int} {t_ : TypeId} {u_ : Value} (hb : w.heap[b]? = some (.cells #[.iface t_ u_, .int .i64 o.kind, .int .i64 o.seg, .int .i64 o.at_, .int .i64 o.data, .int .i64 o.ptrs, .int .i64 o.size, .int .i64 o.count, .int .i64 left] 117 (0, 0))) : zC5 Tryz.prog 55 #[.pointer (some ⟨b, 0, none⟩)] w (.agg #[.int .i64 ((isS o).kind), .int .i64 ((isS o).size), .int .i64 ((isS o).words), .int .i64 ((isS o).kids), .int .u64 ((isS o).word)]) := by
 have G := Grow.rfl' w
 refine zB1 Tryz.func55 Tryz.ntmps55 Tryz.results55 rfl rfl ?_
 refine qZ 2 ?_
 refine stp (zB2 ?_)
 intro b1 w2 hb3 hc4 g5
 refine qZ 6 ?_
 have hge6 := Nat.le_trans G.size hb3
 have ne7 := qN hb hb3
 replace hb := g5.heap hb
 replace G := G.tr g5
 clear g5 hb3
 refine stp (zF8 rfl hb (by rfl) (by rfl) ?_)
 refine stp (zB2 ?_)
 intro b8 w9 hb10 hc11 g12
 refine stn (qS hc11 ?_)
 intro w13 hc14 u15
 have g16 := g12.upd u15 hb10
 have hge17 := Nat.le_trans G.size hb10
 have ne18 := qN hb hb10
 have ne19 := qN hc4 hb10
 replace hb := g16.heap hb
 replace hc4 := g16.heap hc4
 replace G := G.tr g16
 clear u15 g12 hb10 hc11
 refine qZ 11 ?_
 refine stp (zA7 (v := .agg #[.int .i64 o.kind, .int .i64 o.size, .int .i64 o.data, .int .i64 o.ptrs, .int .u64 0]) (fun w => by kernel_rfl) ?_)
 refine stp (zB2 ?_)
 intro b20 w21 hb22 hc23 g24
 refine stn (qS hc23 ?_)
 intro w25 hc26 u27
 have g28 := g24.upd u27 hb22
 have hge29 := Nat.le_trans G.size hb22
 have ne30 := qN hb hb22
 have ne31 := qN hc4 hb22
 have ne32 := qN hc14 hb22
 replace hb := g28.heap hb
 replace hc4 := g28.heap hc4
 replace hc14 := g28.heap hc14
 replace G := G.tr g28
 clear u27 g24 hb22 hc23
 refine qZ 7 ?_
 refine stp (zI5 rfl rfl ?_)
 refine qZ 2 ?_
 refine zA3 (b := (decide (o.kind ≠ 2))) rfl (fun h1 => ?_) (fun h1 => ?_)
 ·
  replace h1 := qT h1
  refine qZ 4 ?_
  refine stn (qS hc4 ?_)
  intro w33 hc34 u35
  replace hb := u35.heap hb ne7
  replace hc14 := u35.heap hc14 ne19.symm
  replace hc26 := u35.heap hc26 ne31.symm
  replace G := G.upd u35 hge6
  clear u35 hc4
  refine qZ 2 ?_
  refine ret1 (zB0 rfl hc34 (by rfl)) ⟨?_, G⟩
  simp [isS, *]
 ·
  replace h1 := qF h1
  refine qZ 4 ?_
  refine stp (zE2 rfl rfl ?_)
  refine qZ 2 ?_
  refine zA3 (b := (decide (o.size = 6))) rfl (fun h2 => ?_) (fun h2 => ?_)
  ·
   replace h2 := qT h2
   refine qZ 4 ?_
   refine stn (zC2 (v := .int .i64 o.count) rfl rfl (by rfl) hc26 (by rfl) (by rfl) ?_)
   intro w36 hc37 u38
   replace hb := u38.heap hb ne30
   replace hc4 := u38.heap hc4 ne31
   replace hc14 := u38.heap hc14 ne32
   replace G := G.upd u38 hge29
   clear u38 hc26
   refine qZ 4 ?_
   refine stn (qS hc4 ?_)
   intro w39 hc40 u41
   replace hb := u41.heap hb ne7
   replace hc14 := u41.heap hc14 ne19.symm
   replace hc37 := u41.heap hc37 ne31.symm
   replace G := G.upd u41 hge6
   clear u41 hc4
   refine qZ 2 ?_
   refine ret1 (zB0 rfl hc40 (by rfl)) ⟨?_, G⟩
   simp [isS, *]
  ·
   replace h2 := qF h2
   refine qZ 4 ?_
   refine stn (zC2 (v := .int .i64 o.count) rfl rfl (by rfl) hc26 (by rfl) (by rfl) ?_)
   intro w42 hc43 u44
   replace hb := u44.heap hb ne30
   replace hc4 := u44.heap hc4 ne31
   replace hc14 := u44.heap hc14 ne32
   replace G := G.upd u44 hge29
   clear u44 hc26
   refine qZ 4 ?_
   refine stn (qS hc4 ?_)
   intro w45 hc46 u47
   replace hb := u47.heap hb ne7
   replace hc14 := u47.heap hc14 ne19.symm
   replace hc43 := u47.heap hc43 ne31.symm
   replace G := G.upd u47 hge6
   clear u47 hc4
   refine qZ 2 ?_
   refine ret1 (zB0 rfl hc46 (by rfl)) ⟨?_, G⟩
   simp [isS, *]
theorem qK9 (w : World) {ad : Option Addr} {n c : Nat} : zC5 Tryz.prog 31 #[.slice ad n c] w (.iface 110 (.agg #[.slice ad n c])) := by
 have G := Grow.rfl' w
 refine zB1 Tryz.func31 Tryz.ntmps31 Tryz.results31 rfl rfl ?_
 refine qZ 2 ?_
 refine stp (zE7 (v := .nilIface) rfl ?_)
 refine qZ 4 ?_
 refine stp (zA7 (v := .agg #[.slice ad n c]) (fun w => by kernel_rfl) ?_)
 refine stp (qJ2 (v := .agg #[.slice ad n c]) rfl ?_)
 refine qZ 3 ?_
 refine ret1 (zA1 (v := .iface 110 (.agg #[.slice ad n c])) rfl) ⟨?_, G⟩
 rfl
theorem yT5 {w : World} {u : Value} {A : List (List Int)} (hA : zG1 w u A) (hr : OkA A) : SrcOk Tryz.prog w (.iface 110 (.agg #[u])) (zC4 A) :=
  yN3 hr zS9 zX8 (fun w' g seg a => zR4 w' (hA.grow g) seg a) (fun w' g => qH7 w' (hA.grow g) (by have := hr.most; omega))
theorem zX9 (w : World) {t_ : TypeId} {u_ : Value} {s : Src} (H : SrcOk Tryz.prog w (.iface t_ u_) s) {bd : Nat} {paid : Int} (hb : w.heap[bd]? = some (.cells #[.iface t_ u_, .int .i64 paid] 172 (0, 0))) (seg : Int) {a : Int} (a0 : 0 ≤ a) (a1 : a ≤ 140737488355328) {n : Nat} (hn : n ≤ 10000) : Calls Tryz.prog 131 #[.pointer (some ⟨bd, 0, none⟩), .int .i64 seg, .int .i64 a, .int .i64 (n : Int)] w (Ret fun v w' => Row (hide w.heap.size w') 1 v n ((zP7 s seg a n).map (.int .u64)) ∧ Grow w w') := by
 have G := Grow.rfl' w
 refine zC0 Tryz.func131 Tryz.ntmps131 Tryz.results131 rfl rfl ?_
 refine qZ 15 ?_
 refine zG4 (fun m_ e_ w_ => ∃ (m : Nat) (ad3 : Option Addr) (n3 : Nat) (c3 : Nat), m_ = n - m ∧ Fr [(0, .pointer (some ⟨bd, 0, none⟩)), (1, .int .i64 seg), (2, .int .i64 a), (8, .slice none 0 0), (13, .int .i64 (n : Int)), (9, .slice ad3 n3 c3), (14, .int .i64 (m : Int))] e_ ∧ (m ≤ n) ∧ (w_.heap[bd]? = some (.cells #[.iface t_ u_, .int .i64 paid] 172 (0, 0))) ∧ (w_.ownsRow w.heap.size 23 1 (.slice ad3 n3 c3) m ((zP7 s seg a m).map (.int .u64))) ∧ Grow w w_) _ ⟨0, none, 0, 0, rfl, zD2 ⟨rfl, rfl, rfl, rfl, rfl, rfl, rfl, trivial⟩, by omega, hb, World.ownsRow_nil _ _ _ _, G⟩ ?_
 clear hb
 clear G
 rintro m_ e_ w1 ⟨m, ad3, n3, c3, rfl, ⟨e2, rfl⟩, hm, hb, own, G⟩
 refine qZ 2 ?_
 refine stp (zI1 rfl rfl ?_)
 refine qZ 2 ?_
 refine zA3 (b := (decide ((m : Int) < (n : Int)))) rfl (fun hlt => ?_) (fun hlt => ?_)
 ·
  replace hlt := qT hlt
  have hnum := H.num seg (a + (m : Int))
  refine qZ 17 ?_
  refine stp (zC3 rfl rfl ?_ ?_); constructor <;> omega
  refine stp (qD5 H G rfl rfl rfl ?_)
  intro w3 g4
  replace hb := g4.heap hb
  replace own := zB8 own g4
  replace G := G.tr g4
  clear g4
  refine qZ 9 ?_
  refine stp (zB4 (cs := #[.int .u64 ((s.word seg (a + (m : Int))).1)]) (el := 23) (fun w => by kernel_rfl) ?_)
  intro bs5 w6 hb7 hc8 g9
  have hge10 := Nat.le_trans G.size hb7
  replace hb := g9.heap hb
  replace own := zB8 own g9
  replace G := G.tr g9
  clear g9
  refine stp (zH1 rfl rfl rfl rfl own (Row.of_block (n := 1) hc8 rfl rfl (by omega)) (fun q_ hq_ => by simp at hq_; subst hq_; rfl) (by simp only [maxLen]; omega) (by omega) G.size ?_)
  intro v11 w12 own6 gr6
  replace G := G.grown gr6 (zJ7 own)
  replace hb := zG7 gr6 hb (zD3 own hb (by decide))
  clear own gr6
  obtain ⟨ad4, n4, c4, rfl⟩ := zE6 own6
  refine qZ 3 ?_
  refine stp (zC3 rfl rfl ?_ ?_); constructor <;> omega
  refine qZ 2 ?_
  refine ⟨_, ?_, m + 1, ad4, n4, c4, rfl, zD2 ⟨rfl, rfl, rfl, rfl, rfl, rfl, congrArg (Value.int .i64) (by omega), trivial⟩, by omega, hb, (by rw [yA0, List.map_append]; exact own6), G⟩
  omega
 ·
  replace hlt := qF hlt
  have hm2 : m = n := by omega
  subst hm2
  refine qZ 7 ?_
  refine ret1 (zA1 (v := .slice ad3 n3 c3) rfl) ⟨qM1 own (zK4 _ _ _ _) (by omega), G⟩
theorem yJ1 (w : World) {x : Int} (h0 : 0 ≤ x) (h1 : x ≤ 18446744073709551615) : Calls Tryz.prog 157 #[.int .u64 x, .int .i64 8] w (Ret fun v w' => Row w' 1 v 8 ((byt8 x).map (.int .u8)) ∧ Grow w w') := by
 have G := Grow.rfl' w
 refine zC0 Tryz.func157 Tryz.ntmps157 Tryz.results157 rfl rfl ?_
 refine qZ 7 ?_
 refine stp ?_
 refine qA2 rfl rfl rfl ?_
 rw [show (if (8 : Int) < 8 then 8 else 8) = (8 : Int) from rfl]
 refine stp ?_
 refine qT5 rfl rfl rfl ?_
 rw [show (if (8 : Int) > 0 then 8 else 0) = (8 : Int) from rfl]
 refine stp (jB4 (n := 8) (base := w.heap.size) rfl rfl (by first | omega | (simp only [maxLen]; omega)) (by first | omega | (simp only [maxLen]; omega)) G.size ?_)
 intro bm4 w1 hb2 own5 g3
 rw [show (madeCells (Value.cells (.int .u8 0 : Value)) (8 * 1)).toList = List.replicate 8 (.int .u8 0) from by rw [Nat.mul_one]; exact toList_madeCells_one _ _] at own5
 replace G := G.tr g3
 clear g3
 refine qZ 10 ?_
 obtain ⟨hge_, cur0, hc0_, hsz0, hcur0⟩ := own_made' own5
 clear own5
 refine zG4 (fun m_ e_ w_ => ∃ (k : Nat) (cur : Array Value), m_ = 8 - k ∧ Fr [(0, .int .u64 x), (4, .slice none 0 0), (5, .slice (some ⟨bm4, 0, none⟩) 8 8), (12, .int .i64 8), (13, .int .i64 (k : Int))] e_ ∧ (k ≤ 8) ∧ (cur.toList = putCells x k) ∧ (w_.heap[bm4]? = some (.cells cur 5 (0, 0))) ∧ Grow w w_) _ ⟨0, cur0, rfl, zD2 ⟨rfl, rfl, rfl, rfl, rfl, trivial⟩, by omega, hcur0, hc0_, G⟩ ?_
 clear G
 rintro m_ e_ w6 ⟨k, cur, rfl, ⟨e7, rfl⟩, hk, hcur, hc_, G⟩
 refine qZ 2 ?_
 refine stp (zI1 rfl rfl ?_)
 refine qZ 2 ?_
 refine zA3 (b := (decide ((k : Int) < 8))) rfl (fun hlt => ?_) (fun hlt => ?_)
 ·
  replace hlt := qT hlt
  have hszc : cur.size = 8 := by rw [← Array.length_toList, hcur]; exact qV5 x k (by omega)
  refine qZ 13 ?_
  refine stp (qC2 rfl rfl ?_ ?_); constructor <;> omega
  refine stp (yR5 rfl rfl ?_ ?_); omega
  refine stp ?_
  refine zJ2 rfl ?_
  rw [yS5 x k h0 h1 (by omega)]
  refine stp ?_
  refine zD4 rfl rfl (by omega) (by omega) ?_
  rw [show 0 + ((k : Int)).toNat * 1 = k from by omega]
  refine stn (zC2 (v := .int .u8 (byt1 x k)) rfl rfl (by rfl) hc_ (Nat.ble_eq_true_of_le (by omega)) (by rfl) ?_)
  intro w8 hc9 u10
  replace G := G.upd u10 hge_
  clear u10 hc_
  refine qZ 2 ?_
  refine stp (zC3 rfl rfl ?_ ?_); constructor <;> omega
  refine qZ 2 ?_
  refine ⟨_, ?_, k + 1, _, rfl, zD2 ⟨rfl, rfl, rfl, rfl, congrArg (Value.int .i64) (by omega), trivial⟩, by omega, (by simp only [hcur]; exact qV4 x k (by omega)), hc9, G⟩
  omega
 ·
  replace hlt := qF hlt
  have hk8 : k = 8 := by omega
  subst hk8
  refine qZ 7 ?_
  refine ret1 (zA1 (v := .slice (some ⟨bm4, 0, none⟩) 8 8) rfl) ⟨Row.of_block (n := 8) hc_ (by rw [hcur]; exact qV6 x) (by simp [byt8]) (by omega), G⟩
theorem qW5 (w : World) {t_ : TypeId} {u_ : Value} {s : Src} (H : SrcOk Tryz.prog w (.iface t_ u_) s) {bd : Nat} {paid : Int} (hb : w.heap[bd]? = some (.cells #[.iface t_ u_, .int .i64 paid] 172 (0, 0))) (seg : Int) {a : Int} (a0 : 0 ≤ a) (a1 : a ≤ 140737488355328) {n : Nat} (hn : n ≤ 80000) : Calls Tryz.prog 132 #[.pointer (some ⟨bd, 0, none⟩), .int .i64 seg, .int .i64 a, .int .i64 (n : Int)] w (Ret fun v w' => Row (hide w.heap.size w') 1 v n ((qK4 s seg a n).map (.int .u8)) ∧ Grow w w') := by
 have G := Grow.rfl' w
 refine zC0 Tryz.func132 Tryz.ntmps132 Tryz.results132 rfl rfl ?_
 refine qZ 15 ?_
 refine stp (zA2 (v := .int .i64 (((n + 7) / 8 : Nat) : Int)) rfl (zK6 (qO2 _ _ (by omega) (by omega)) (y := .int .i64 (((n + 7) / 8 : Nat) : Int)) (by congr 1 <;> omega)) ?_)
 intro w1 g2
 replace hb := g2.heap hb
 replace G := G.tr g2
 clear g2
 refine stp ?_
 refine zC8 rfl (zX9 _ (H.grow G) hb seg a0 a1 (n := (n + 7) / 8) (by omega)) ?_
 rintro v_ w3 ⟨⟨ad5, c5, rfl, -, -, R5⟩, g_⟩
 have RW := R5.sees (Sees.seen _ _)
 clear R5
 replace hb := g_.heap hb
 replace G := G.tr g_
 clear g_
 have hB5 := G.size
 have G5 := Grow.rfl' w3
 have hB6 : w3.heap.size ≤ w3.heap.size := Nat.le_refl _
 refine qZ 4 ?_
 refine zG4 (fun m_ e_ w_ => ∃ (m : Nat) (ad3 : Option Addr) (n3 : Nat) (c3 : Nat), m_ = (n + 7) / 8 - m ∧ Fr [(3, .int .i64 (n : Int)), (8, .slice none 0 0), (17, .slice ad5 ((n + 7) / 8) c5), (18, .int .i64 (((n + 7) / 8 : Nat) : Int)), (9, .slice ad3 n3 c3), (19, .int .i64 (m : Int))] e_ ∧ (m ≤ (n + 7) / 8) ∧ (w_.heap[bd]? = some (.cells #[.iface t_ u_, .int .i64 paid] 172 (0, 0))) ∧ (Grow w3 w_) ∧ (w_.ownsRow w3.heap.size 5 1 (.slice ad3 n3 c3) (8 * m) ((((zP7 s seg a ((n + 7) / 8)).take m).flatMap byt8).map (.int .u8))) ∧ Grow w w_) _ ⟨0, none, 0, 0, rfl, zD2 ⟨rfl, rfl, rfl, rfl, rfl, rfl, trivial⟩, by omega, hb, G5, World.ownsRow_nil _ _ _ _, G⟩ ?_
 clear hb G5
 clear G
 rintro m_ e_ w4 ⟨m, ad3, n3, c3, rfl, ⟨e5, rfl⟩, hm, hb, G5, own, G⟩
 refine qZ 2 ?_
 refine stp (zI1 rfl rfl ?_)
 refine qZ 2 ?_
 refine zA3 (b := (decide ((m : Int) < (((n + 7) / 8 : Nat) : Int)))) rfl (fun hlt => ?_) (fun hlt => ?_)
 ·
  replace hlt := qT hlt
  have hm5 : m < (n + 7) / 8 := by omega
  have hml : m < (zP7 s seg a ((n + 7) / 8)).length := by rw [zK4]; exact hm5
  have hr := qN9 H seg a ((n + 7) / 8) _ (qR2 hml)
  simp only [inR] at hr
  refine qZ 5 ?_
  refine stp (zD7 (RW.grow G5) rfl rfl ?_ ?_); omega
  refine stp (zF2 (v := .int .u64 ((zP7 s seg a ((n + 7) / 8)).getD m 0)) (m := 0) (RW.grow G5) rfl (zL8 0 (by omega)) ?_)
  refine qZ 5 ?_
  refine stp ?_
  refine zC8 rfl (yJ1 _ hr.1 hr.2) ?_
  rintro v8 w6 ⟨R8, g_⟩
  replace hb := g_.heap hb
  replace G5 := G5.tr g_
  replace own := zB8 own g_
  replace G := G.tr g_
  clear g_
  refine stp (zH1 rfl rfl rfl rfl own R8 (fun q_ hq_ => by obtain ⟨z_, -, rfl⟩ := List.mem_map.1 hq_; rfl) (by simp only [maxLen]; omega) (by omega) G5.size ?_)
  intro v7 w8 own6 gr6
  clear R8
  replace G := G.grown gr6 (fun k_ hk_ => Nat.le_trans hB5 (zJ7 own k_ hk_))
  replace G5 := G5.grown gr6 (zJ7 own)
  replace hb := zG7 gr6 hb (zD3 own hb (by decide))
  clear own gr6
  obtain ⟨ad4, n4, c4, rfl⟩ := zE6 own6
  refine qZ 3 ?_
  refine stp (zC3 rfl rfl ?_ ?_); constructor <;> omega
  refine qZ 2 ?_
  refine ⟨_, ?_, m + 1, ad4, n4, c4, rfl, zD2 ⟨rfl, rfl, rfl, rfl, rfl, congrArg (Value.int .i64) (by omega), trivial⟩, by omega, hb, G5, (by rw [Nat.mul_succ, List.take_add_one, List.getElem?_eq_getElem hml, Option.toList_some, List.flatMap_append, List.map_append, List.flatMap_singleton]; rw [zF5 hml] at own6; exact own6), G⟩
  omega
 ·
  replace hlt := qF hlt
  have hm2 : m = (n + 7) / 8 := by omega
  rw [hm2, List.take_of_length_le (by rw [zK4]; exact Nat.le_refl _)] at own
  have hfl := qK5 (zP7 s seg a ((n + 7) / 8))
  rw [zK4] at hfl
  have hR9 := (zY6 own (by omega)).sees (Sees.low hB5 _)
  obtain ⟨ad9, c9, hs9, hc9, hc92, R9⟩ := hR9
  simp only [Value.slice.injEq] at hs9
  obtain ⟨rfl, rfl, rfl⟩ := hs9
  refine qZ 5 ?_
  refine stp (qH9 rfl rfl (by omega) (by omega) ?_)
  refine qZ 3 ?_
  have R10 := R9.sliceH (m := n) hc9 (by omega) (by decide)
  rw [← List.map_take, show n * 1 = n from Nat.mul_one n] at R10
  refine ret1 (zA1 (v := .slice (if c3 = 0 then ad3 else ad3.map (·.add (0 * 1))) (((n : Int)).toNat) c3) rfl) ⟨⟨_, _, rfl, by omega, hc92, R10⟩, G⟩
theorem yB0 : ∀ (n_ : Nat) (w : World) {t_ : TypeId} {u_ : Value} {s : Src} {w0 : World} (H : SrcOk Tryz.prog w0 (.iface t_ u_) s) (g0 : Grow w0 w) {bd : Nat} (hbd : w0.heap.size ≤ bd) {paid : Int} (hb : w.heap[bd]? = some (.cells #[.iface t_ u_, .int .i64 paid] 172 (0, 0))) (hp0 : 0 ≤ paid) (hp1 : paid ≤ 8192) (seg : Int) {a : Int} (a0 : 0 ≤ a) (a1 : a ≤ 140737488455328) {d : Nat} (hd : d ≤ 32), d + 1 ≤ n_ → Calls Tryz.prog 105 #[.pointer (some ⟨bd, 0, none⟩), .int .i64 seg, .int .i64 a, .int .i64 (d : Int)] w (Ret fun v w' => ∃ cells, v = .tuple #[.agg cells.toArray, .int .u16 (zK2 s d seg a paid).2.2] ∧ NodeR (hide w.heap.size w') cells (zK2 s d seg a paid).2.1 ∧ w'.heap[bd]? = some (.cells #[.iface t_ u_, .int .i64 ((zK2 s d seg a paid).1)] 172 (0, 0)) ∧ Kp [bd] w w') := by
 intro n_
 induction n_ with
 | zero => intro w t_ u_ s w0 H g0 bd hbd paid hb hp0 hp1 seg a a0 a1 d hd hm_; exact absurd hm_ (by have := Nat.succ_pos d; omega)
 | succ n_ ih_ =>
 intro w t_ u_ s w0 H g0 bd hbd paid hb hp0 hp1 seg a a0 a1 d hd hm_
 have K := Kp.refl [bd] w
 have g0w := g0.size
 have hblt := zC1 hb
 have hor := zV4 H seg a
 have hok := zX4 s seg a
 obtain ⟨hw0, hw1⟩ := zM7 hor
 obtain ⟨rk, rs, ra, rd, rp, rz, rc⟩ := hor
 have hor := zV4 H seg a
 have hneq := qR4 s d seg a paid
 refine zC0 Tryz.func105 Tryz.ntmps105 Tryz.results105 rfl rfl ?_
 refine qZ 2 ?_
 refine stp (zB2 ?_)
 intro b1 w2 hb3 hc4 g5
 refine qZ 7 ?_
 have hge6 := Nat.le_trans K.size hb3
 have ne7 := qN hb hb3
 replace hb := g5.heap hb
 replace K := K.tr g5.kp
 replace g0 := g0.tr g5
 clear g5 hb3
 refine qZ 3 ?_
 refine stp (zA2 (v := .tuple #[.agg #[.int .i64 ((zA0 s seg a).1.kind), .int .i64 ((zA0 s seg a).1.seg), .int .i64 ((zA0 s seg a).1.at_), .int .i64 ((zA0 s seg a).1.data), .int .i64 ((zA0 s seg a).1.ptrs), .int .i64 ((zA0 s seg a).1.size), .int .i64 ((zA0 s seg a).1.count)], .int .u16 ((zA0 s seg a).2)]) rfl (qW3 _ (H.grow g0) seg a) ?_)
 intro w8 g9
 replace hb := g9.heap hb
 replace K := K.tr g9.kp
 replace g0 := g0.tr g9
 replace hc4 := g9.heap hc4
 clear g9
 refine qZ 3 ?_
 refine stp (zB2 ?_)
 intro b10 w11 hb12 hc13 g14
 refine stn (qS hc13 ?_)
 intro w15 hc16 u17
 have g18 := g14.upd u17 hb12
 have hge19 := Nat.le_trans K.size hb12
 have ne20 := qN hb hb12
 have ne21 := qN hc4 hb12
 replace hb := g18.heap hb
 replace K := K.tr g18.kp
 replace g0 := g0.tr g18
 replace hc4 := g18.heap hc4
 clear u17 g14 hb12 hc13
 refine qZ 6 ?_
 refine stp (zI5 rfl rfl ?_)
 refine zA6 ?_
 refine zA3 (b := (decide (((zA0 s seg a).2) ≠ 0))) rfl (fun h1 => ?_) (fun h1 => ?_)
 ·
  replace h1 := qT h1
  refine qZ 4 ?_
  refine stn (qS hc4 ?_)
  intro w22 hc23 u24
  replace hb := u24.heap hb ne7
  replace K := (by first | exact K.upd_new u24 (by assumption) | exact K.tr (Kp.of_upd u24 (by simp)))
  replace g0 := (by first | exact Grow.upd g0 u24 (Nat.le_trans g0w (by assumption)) | exact g0.kp1 (Kp.of_upd u24 (by simp)) hbd)
  replace hc16 := u24.heap hc16 ne21.symm
  clear u24 hc4
  refine qZ 3 ?_
  have h9 : (zK2 s d seg a paid) = (paid, .nil, (zA0 s seg a).2) := by rw [hneq]; unfold qK6; rw [if_pos h1]
  rw [h9]
  refine ret2 (zB0 rfl hc23 (by rfl)) (zA1 (v := .int .u16 ((zA0 s seg a).2)) rfl) ⟨[_, _, _, _, _], rfl, NodeR.zero _, hb, K⟩
 ·
  replace h1 := qF h1
  refine qZ 2 ?_
  refine zK0 8 [[], [0], [1, 0], [2, 1, 0], [], [0], [1, 0], [6, 5, 4, 3, 2, 1, 0]] mixed (by kernel_rfl) (by kernel_rfl) (by kernel_rfl) ?_
  intro w25 g26
  replace hb := g26.heap hb
  replace K := K.tr g26.kp
  replace g0 := g0.tr g26
  replace hc4 := g26.heap hc4
  replace hc16 := g26.heap hc16
  clear g26
  refine qA 5 ?_
  apply zA5
  ·intro w_ g_; refine og rfl ?_; exact zA2 (v := .int .i64 (zD8 (zA0 s seg a).1)) rfl (qH2 _ (zA0 s seg a).1) (fun w2_ g2_ => ⟨g2_, rfl⟩)
  apply zA5
  ·intro w_ g_; refine og rfl ?_; refine zC3 rfl rfl ?_ ?_; constructor <;> omega; exact qX
  apply zA5
  ·intro w_ g_; refine og rfl ?_; refine zC3 rfl rfl ?_ ?_; constructor <;> omega; exact qX
  refine zG5 ?_
  intro w27 g28
  replace hb := g28.heap hb
  replace K := K.tr g28.kp
  replace g0 := g0.tr g28
  replace hc4 := g28.heap hc4
  replace hc16 := g28.heap hc16
  clear g28
  refine qZ 2 ?_
  refine stn (zC2 (v := .int .i64 (paid + (1 + (zD8 (zA0 s seg a).1)))) rfl rfl (by rfl) hb (by rfl) (by rfl) ?_)
  intro w29 hc30 u31
  replace K := (by first | exact K.upd_new u31 (by assumption) | exact K.tr (Kp.of_upd u31 (by simp)))
  replace g0 := (by first | exact Grow.upd g0 u31 (Nat.le_trans g0w (by assumption)) | exact g0.kp1 (Kp.of_upd u31 (by simp)) hbd)
  replace hc4 := u31.heap hc4 ne7.symm
  replace hc16 := u31.heap hc16 ne20.symm
  clear u31 hb
  refine qZ 7 ?_
  refine stp (zI5 rfl rfl ?_)
  refine qZ 1 ?_
  refine qG 1 ?_
  refine zA4 (zB7 (s := .bool _) (v := .bool (decide ((d : Int) = 0))) rfl (zG3 _) (fun hc33 => ?_) ?_)
  ·
   have hc33_ := qT hc33
   refine zE2 (gvt hc33) rfl ?_
   exact ⟨rfl, rfl⟩
  refine stp (zI8 rfl rfl rfl ?_)
  refine qZ 2 ?_
  refine zA3 (b := ((decide (((zA0 s seg a).1.kind) ≠ 0)) && (decide ((d : Int) = 0)))) rfl (fun h2 => ?_) (fun h2 => ?_)
  ·
   simp only [sb] at h2
   obtain ⟨h2a, h2b⟩ := h2
   have hd0 : (d == 0) = true := by rw [show d = 0 from by omega]; rfl
   refine qZ 3 ?_
   refine stn (qS hc4 ?_)
   intro w34 hc35 u36
   replace K := (by first | exact K.upd_new u36 (by assumption) | exact K.tr (Kp.of_upd u36 (by simp)))
   replace g0 := (by first | exact Grow.upd g0 u36 (Nat.le_trans g0w (by assumption)) | exact g0.kp1 (Kp.of_upd u36 (by simp)) hbd)
   replace hc16 := u36.heap hc16 ne21.symm
   replace hc30 := u36.heap hc30 ne7
   clear u36 hc4
   refine qZ 3 ?_
   have h9 : (zK2 s d seg a paid) = ((paid + (1 + zD8 (zA0 s seg a).1)), .nil, 21) := by rw [hneq]; unfold qK6; rw [if_neg h1, if_pos ⟨h2a, hd0⟩]
   rw [h9]
   refine ret2 (zB0 rfl hc35 (by rfl)) (zA1 (v := .int .u16 21) rfl) ⟨[_, _, _, _, _], rfl, NodeR.zero _, hc30, K⟩
  ·
   simp only [sb] at h2
   have h2n : ¬ ((zA0 s seg a).1.kind ≠ 0 ∧ (d == 0) = true) := fun h_ => absurd (eq_of_beq h_.2) (by omega)
   refine qZ 6 ?_
   refine stp (zQ7 rfl rfl ?_)
   refine qZ 2 ?_
   refine zA3 (b := (decide ((paid + (1 + (zD8 (zA0 s seg a).1))) > 8192))) rfl (fun h3 => ?_) (fun h3 => ?_)
   ·
    replace h3 := qT h3
    refine qZ 3 ?_
    refine stn (qS hc4 ?_)
    intro w37 hc38 u39
    replace K := (by first | exact K.upd_new u39 (by assumption) | exact K.tr (Kp.of_upd u39 (by simp)))
    replace g0 := (by first | exact Grow.upd g0 u39 (Nat.le_trans g0w (by assumption)) | exact g0.kp1 (Kp.of_upd u39 (by simp)) hbd)
    replace hc16 := u39.heap hc16 ne21.symm
    replace hc30 := u39.heap hc30 ne7
    clear u39 hc4
    refine qZ 3 ?_
    have h9 : (zK2 s d seg a paid) = ((paid + (1 + zD8 (zA0 s seg a).1)), .nil, 22) := by rw [hneq]; unfold qK6; rw [if_neg h1, if_neg h2n, if_pos h3]
    rw [h9]
    refine ret2 (zB0 rfl hc38 (by rfl)) (zA1 (v := .int .u16 22) rfl) ⟨[_, _, _, _, _], rfl, NodeR.zero _, hc30, K⟩
   ·
    replace h3 := qF h3
    obtain ⟨s1, s2, s3, s4, s5, s6⟩ := yS6 hor hok (by omega)
    obtain ⟨B, hB⟩ : ∃ B, B = w29.heap.size := ⟨_, rfl⟩
    have hB8 : b1 < B := by rw [hB]; exact zC1 hc4
    have hB10 : b10 < B := by rw [hB]; exact zC1 hc16
    have hBd : bd < B := by rw [hB]; exact zC1 hc30
    have hwB : w.heap.size ≤ B := by rw [hB]; exact K.size
    have hBw : B ≤ w29.heap.size := by rw [hB]; exact Nat.le_refl _
    clear hB
    refine qZ 2 ?_
    have kb_hc16 : ∀ w_, Kp [b1] w29 w_ → w_.heap[b10]? = some (.cells #[.int .i64 ((zA0 s seg a).1.kind), .int .i64 ((zA0 s seg a).1.seg), .int .i64 ((zA0 s seg a).1.at_), .int .i64 ((zA0 s seg a).1.data), .int .i64 ((zA0 s seg a).1.ptrs), .int .i64 ((zA0 s seg a).1.size), .int .i64 ((zA0 s seg a).1.count)] 112 (0, 0)) := fun w_ k_ => k_.heap hc16 (fun hm_ => by simp only [List.mem_singleton] at hm_; first | exact ne21 hm_ | exact ne21 hm_.symm)
    have kb_hc30 : ∀ w_, Kp [b1] w29 w_ → w_.heap[bd]? = some (.cells #[.iface t_ u_, .int .i64 (paid + (1 + (zD8 (zA0 s seg a).1)))] 172 (0, 0)) := fun w_ k_ => k_.heap hc30 (fun hm_ => by simp only [List.mem_singleton] at hm_; omega)
    have kb_K : ∀ w_, Kp [b1] w29 w_ → Kp [bd] w w_ := fun w_ k_ => K.trans k_ (fun x_ hx_ => by simp only [List.mem_singleton] at hx_; subst hx_; exact .inr hge6)
    have kb_g0 : ∀ w_, Kp [b1] w29 w_ → Grow w0 w_ := fun w_ k_ => g0.trK k_ (fun x_ hx_ => by simp only [List.mem_singleton] at hx_; subst hx_; exact Nat.le_trans g0w hge6)
    have kb_hBw : ∀ w_, Kp [b1] w29 w_ → B ≤ w_.heap.size := fun w_ k_ => Nat.le_trans hBw k_.size
    refine qC8 6 [[], [0], [], [0], [3, 2], [4, 3, 0]] [5] [b1] (fun k_ w_ => match k_ with | 0 => w_.heap[b1]? = some (.cells #[.int .i64 0, .int .i64 0, .slice none 0 0, .slice none 0 0, .slice none 0 0] 48 (0, 0)) | _ => w_.heap[b1]? = some (.cells #[.int .i64 ((zA0 s seg a).1.kind), .int .i64 0, .slice none 0 0, .slice none 0 0, .slice none 0 0] 48 (0, 0))) mixed (by kernel_rfl) (by kernel_rfl) (by kernel_rfl) (by kernel_rfl) (fun k_ w_ w2_ g_ h_ => match k_, h_ with | 0, h_ => g_.heap h_ | n_ + 1, h_ => g_.heap h_) (fun w_ g_ => g_.heap hc4) ?_
    intro w40 g41
    replace kb_hc16 : ∀ w_, Kp [b1] w40 w_ → w_.heap[b10]? = some (.cells #[.int .i64 ((zA0 s seg a).1.kind), .int .i64 ((zA0 s seg a).1.seg), .int .i64 ((zA0 s seg a).1.at_), .int .i64 ((zA0 s seg a).1.data), .int .i64 ((zA0 s seg a).1.ptrs), .int .i64 ((zA0 s seg a).1.size), .int .i64 ((zA0 s seg a).1.count)] 112 (0, 0)) := fun w_ k_ => kb_hc16 w_ (g41.kp.tr k_)
    replace kb_hc30 : ∀ w_, Kp [b1] w40 w_ → w_.heap[bd]? = some (.cells #[.iface t_ u_, .int .i64 (paid + (1 + (zD8 (zA0 s seg a).1)))] 172 (0, 0)) := fun w_ k_ => kb_hc30 w_ (g41.kp.tr k_)
    replace kb_K : ∀ w_, Kp [b1] w40 w_ → Kp [bd] w w_ := fun w_ k_ => kb_K w_ (g41.kp.tr k_)
    replace kb_g0 : ∀ w_, Kp [b1] w40 w_ → Grow w0 w_ := fun w_ k_ => kb_g0 w_ (g41.kp.tr k_)
    replace kb_hBw : ∀ w_, Kp [b1] w40 w_ → B ≤ w_.heap.size := fun w_ k_ => kb_hBw w_ (g41.kp.tr k_)
    have k0_ : Kp [b1] w29 w40 := g41.kp
    refine qM 1 ?_
    apply zE0 (hm := by rfl)
    ·intro w_ g_; exact og rfl (zD1 (v := .int .i64 ((zA0 s seg a).1.kind)) rfl (kb_hc16 _ g_) rfl qX)
    refine qM 1 ?_
    apply zE0 (hm := by rfl)
    ·intro w_ g_; exact og rfl (zD1 (v := .int .i64 ((zA0 s seg a).1.size)) rfl (kb_hc16 _ g_) rfl qX)
    refine qM 1 ?_
    apply zS8 0 (hm := by rfl)
    ·intro w_ g_ s_
     refine og rfl ?_
     refine zC2 (v := .int .i64 ((zA0 s seg a).1.kind)) rfl rfl (by rfl) s_ (by rfl) (by rfl) ?_
     intro w2_ s2_ u_
     exact ⟨Kp.of_upd u_ (by simp), s2_, rfl⟩
    refine zV1 ?_
    intro w42 g43 S_
    replace k0_ := (k0_.tr g43)
    have hc8x := S_
    clear S_
    replace hc16 := kb_hc16 _ g43
    clear kb_hc16
    replace hc30 := kb_hc30 _ g43
    clear kb_hc30
    replace K := kb_K _ g43
    clear kb_K
    replace g0 := kb_g0 _ g43
    clear kb_g0
    replace hBw := kb_hBw _ g43
    clear kb_hBw
    refine qZ 1 ?_
    refine stn (zC2 (v := .int .i64 ((zA0 s seg a).1.size)) rfl rfl (by rfl) hc8x (by rfl) (by rfl) ?_)
    intro w44 hc45 u46
    replace K := (by first | exact K.upd_new u46 (by assumption) | exact K.tr (Kp.of_upd u46 (by simp)))
    replace g0 := (by first | exact Grow.upd g0 u46 (Nat.le_trans g0w (by assumption)) | exact g0.kp1 (Kp.of_upd u46 (by simp)) hbd)
    replace hc16 := u46.heap hc16 ne21.symm
    replace hc30 := u46.heap hc30 ne7
    replace hBw := Nat.le_trans hBw (Nat.le_of_eq u46.size.symm)
    clear u46 hc8x
    refine qZ 2 ?_
    refine zK0 8 [[], [0], [], [0], [], [0], [3, 2, 1, 0], [6, 5]] mixed (by kernel_rfl) (by kernel_rfl) (by kernel_rfl) ?_
    intro w47 g48
    replace K := K.tr g48.kp
    replace g0 := g0.tr g48
    replace hc16 := g48.heap hc16
    replace hc30 := g48.heap hc30
    replace hBw := Nat.le_trans hBw g48.size
    replace hc45 := g48.heap hc45
    clear g48
    refine qA 6 ?_
    apply zA5
    ·intro w_ g_; refine og rfl ?_; refine zC3 rfl rfl ?_ ?_; constructor <;> omega; exact qX
    refine qA 1 ?_
    refine zG5 ?_
    intro w49 g50
    replace K := K.tr g50.kp
    replace g0 := g0.tr g50
    replace hc16 := g50.heap hc16
    replace hc30 := g50.heap hc30
    replace hBw := Nat.le_trans hBw g50.size
    replace hc45 := g50.heap hc45
    clear g50
    refine qZ 11 ?_
    refine stp ?_
    have hcal := zX9 _ (H.grow g0) hc30 (zA0 s seg a).1.seg ra.1 ra.2 (n := (zA0 s seg a).1.data.toNat) (by omega)
    rw [Int.toNat_of_nonneg (by omega)] at hcal
    refine zC8 rfl hcal ?_
    rintro v_ w51 ⟨R_, g_⟩
    have hRw := R_.sees (Sees.low hBw _)
    clear R_
    replace K := K.tr g_.kp
    replace g0 := g0.tr g_
    replace hc16 := g_.heap hc16
    replace hc30 := g_.heap hc30
    replace hBw := Nat.le_trans hBw g_.size
    replace hc45 := g_.heap hc45
    clear g_
    obtain ⟨adhRw, cphRw, rfl, -⟩ := id hRw
    refine qZ 1 ?_
    refine stn (zC2 (v := .slice adhRw ((zA0 s seg a).1.data.toNat) cphRw) rfl rfl (by rfl) hc45 (by rfl) (by rfl) ?_)
    intro w52 hc53 u54
    replace K := (by first | exact K.upd_new u54 (by assumption) | exact K.tr (Kp.of_upd u54 (by simp)))
    replace g0 := (by first | exact Grow.upd g0 u54 (Nat.le_trans g0w (by assumption)) | exact g0.kp1 (Kp.of_upd u54 (by simp)) hbd)
    replace hc16 := u54.heap hc16 ne21.symm
    replace hc30 := u54.heap hc30 ne7
    replace hBw := Nat.le_trans hBw (Nat.le_of_eq u54.size.symm)
    replace hRw := hRw.sees (Sees.upd u54 (fun h_ => by omega))
    clear u54 hc45
    refine zA6 ?_
    refine qT6 (fun e_ w_ => ∃ (aw : Option Addr) (nw : Nat) (cw : Nat) (ab : Option Addr) (nb : Nat) (cb : Nat), Fr [(0, .pointer (some ⟨bd, 0, none⟩)), (3, .int .i64 (d : Int)), (8, .pointer (some ⟨b1, 0, none⟩)), (9, .int .u16 ((zA0 s seg a).2)), (10, .pointer (some ⟨b10, 0, none⟩)), (11, .int .i64 (kidN (zA0 s seg a).1)), (12, .int .i64 (kidA (zA0 s seg a).1))] e_ ∧ (Kp [bd] w w_) ∧ (Grow w0 w_) ∧ (w_.heap[b10]? = some (.cells #[.int .i64 ((zA0 s seg a).1.kind), .int .i64 ((zA0 s seg a).1.seg), .int .i64 ((zA0 s seg a).1.at_), .int .i64 ((zA0 s seg a).1.data), .int .i64 ((zA0 s seg a).1.ptrs), .int .i64 ((zA0 s seg a).1.size), .int .i64 ((zA0 s seg a).1.count)] 112 (0, 0))) ∧ (w_.heap[bd]? = some (.cells #[.iface t_ u_, .int .i64 (paid + (1 + (zD8 (zA0 s seg a).1)))] 172 (0, 0))) ∧ (B ≤ w_.heap.size) ∧ (w_.heap[b1]? = some (.cells #[.int .i64 ((zA0 s seg a).1.kind), .int .i64 ((zA0 s seg a).1.size), .slice aw nw cw, .slice ab nb cb, .slice none 0 0] 48 (0, 0))) ∧ (Row (hide B w_) 1 (.slice aw nw cw) (nodL s (zA0 s seg a).1).length ((nodL s (zA0 s seg a).1).map (.int .u64))) ∧ (Row (hide B w_) 1 (.slice ab nb cb) (nodB s (zA0 s seg a).1).length ((nodB s (zA0 s seg a).1).map (.int .u8)))) ?_ ?_
    ·-- the parts
     refine qZ 8 ?_
     refine stp (zE2 rfl rfl ?_)
     refine qZ 2 ?_
     refine zA3 (b := (decide (((zA0 s seg a).1.size) = 2))) rfl (fun h4 => ?_) (fun h4 => ?_)
     ·
      replace h4 := qT h4
      refine qZ 8 ?_
      refine stp ?_
      have hcal := qW5 _ (H.grow g0) hc30 (zA0 s seg a).1.seg ra.1 ra.2 (n := (zA0 s seg a).1.count.toNat) (by omega)
      rw [Int.toNat_of_nonneg (by omega)] at hcal
      refine zC8 rfl hcal ?_
      rintro v_ w55 ⟨R_, g_⟩
      have hRb := R_.sees (Sees.low hBw _)
      clear R_
      replace K := K.tr g_.kp
      replace g0 := g0.tr g_
      replace hc16 := g_.heap hc16
      replace hc30 := g_.heap hc30
      replace hBw := Nat.le_trans hBw g_.size
      replace hRw := hRw.sees (Sees.grow g_)
      replace hc53 := g_.heap hc53
      clear g_
      obtain ⟨adhRb, cphRb, rfl, -⟩ := id hRb
      refine qZ 1 ?_
      refine stn (zC2 (v := .slice adhRb ((zA0 s seg a).1.count.toNat) cphRb) rfl rfl (by rfl) hc53 (by rfl) (by rfl) ?_)
      intro w56 hc57 u58
      replace K := (by first | exact K.upd_new u58 (by assumption) | exact K.tr (Kp.of_upd u58 (by simp)))
      replace g0 := (by first | exact Grow.upd g0 u58 (Nat.le_trans g0w (by assumption)) | exact g0.kp1 (Kp.of_upd u58 (by simp)) hbd)
      replace hc16 := u58.heap hc16 ne21.symm
      replace hc30 := u58.heap hc30 ne7
      replace hBw := Nat.le_trans hBw (Nat.le_of_eq u58.size.symm)
      replace hRw := hRw.sees (Sees.upd u58 (fun h_ => by omega))
      replace hRb := hRb.sees (Sees.upd u58 (fun h_ => by omega))
      clear u58 hc53
      refine zA6 ?_
      have hk6 : (zA0 s seg a).1.size = 6 ∨ (zA0 s seg a).1.size ≠ 6 := by omega
      exact ⟨adhRw, ((zA0 s seg a).1.data).toNat, cphRw, adhRb, ((zA0 s seg a).1.count).toNat, cphRb, zD2 ⟨rfl, rfl, rfl, rfl, rfl, congrArg (Value.int .i64) (by unfold kidN; rw [if_neg (by omega)]), congrArg (Value.int .i64) (by unfold kidA; rw [if_neg (by omega)]), trivial⟩, K, g0, hc16, hc30, hBw, hc57, (by unfold nodL; rw [if_neg (by omega), zK4]; exact hRw), (by unfold nodB; rw [if_pos h4, yH8]; exact hRb)⟩
     ·
      replace h4 := qF h4
      refine qZ 2 ?_
      refine stp (zE2 rfl rfl ?_)
      refine qZ 2 ?_
      refine zA3 (b := (decide (((zA0 s seg a).1.size) = 5))) rfl (fun h5 => ?_) (fun h5 => ?_)
      ·
       replace h5 := qT h5
       refine qZ 8 ?_
       refine stp ?_
       have hcal := zX9 _ (H.grow g0) hc30 (zA0 s seg a).1.seg ra.1 ra.2 (n := (zA0 s seg a).1.count.toNat) (by omega)
       rw [Int.toNat_of_nonneg (by omega)] at hcal
       refine zC8 rfl hcal ?_
       rintro v_ w59 ⟨R_, g_⟩
       have hRv := R_.sees (Sees.low hBw _)
       clear R_
       replace K := K.tr g_.kp
       replace g0 := g0.tr g_
       replace hc16 := g_.heap hc16
       replace hc30 := g_.heap hc30
       replace hBw := Nat.le_trans hBw g_.size
       replace hRw := hRw.sees (Sees.grow g_)
       replace hc53 := g_.heap hc53
       clear g_
       obtain ⟨adhRv, cphRv, rfl, -⟩ := id hRv
       refine qZ 1 ?_
       refine stn (zC2 (v := .slice adhRv ((zA0 s seg a).1.count.toNat) cphRv) rfl rfl (by rfl) hc53 (by rfl) (by rfl) ?_)
       intro w60 hc61 u62
       replace K := (by first | exact K.upd_new u62 (by assumption) | exact K.tr (Kp.of_upd u62 (by simp)))
       replace g0 := (by first | exact Grow.upd g0 u62 (Nat.le_trans g0w (by assumption)) | exact g0.kp1 (Kp.of_upd u62 (by simp)) hbd)
       replace hc16 := u62.heap hc16 ne21.symm
       replace hc30 := u62.heap hc30 ne7
       replace hBw := Nat.le_trans hBw (Nat.le_of_eq u62.size.symm)
       replace hRw := hRw.sees (Sees.upd u62 (fun h_ => by omega))
       replace hRv := hRv.sees (Sees.upd u62 (fun h_ => by omega))
       clear u62 hc53
       refine zA6 ?_
       have hk6 : (zA0 s seg a).1.size = 6 ∨ (zA0 s seg a).1.size ≠ 6 := by omega
       exact ⟨adhRv, ((zA0 s seg a).1.count).toNat, cphRv, none, 0, 0, zD2 ⟨rfl, rfl, rfl, rfl, rfl, congrArg (Value.int .i64) (by unfold kidN; rw [if_neg (by omega)]), congrArg (Value.int .i64) (by unfold kidA; rw [if_neg (by omega)]), trivial⟩, K, g0, hc16, hc30, hBw, hc61, (by unfold nodL; rw [if_pos h5, zK4]; exact hRv), (by unfold nodB; rw [if_neg (by omega)]; exact Row.nil _ _)⟩
      ·
       replace h5 := qF h5
       refine qZ 2 ?_
       refine stp (zE2 rfl rfl ?_)
       refine qZ 2 ?_
       refine zA3 (b := (decide (((zA0 s seg a).1.size) = 6))) rfl (fun h6 => ?_) (fun h6 => ?_)
       ·
        replace h6 := qT h6
        refine zK0 5 [[], [0], [], [0], [3, 2]] mixed (by kernel_rfl) (by kernel_rfl) (by kernel_rfl) ?_
        intro w63 g64
        replace K := K.tr g64.kp
        replace g0 := g0.tr g64
        replace hc16 := g64.heap hc16
        replace hc30 := g64.heap hc30
        replace hBw := Nat.le_trans hBw g64.size
        replace hRw := hRw.sees (Sees.grow g64)
        replace hc53 := g64.heap hc53
        clear g64
        refine qA 5 ?_
        refine zG5 ?_
        intro w65 g66
        replace K := K.tr g66.kp
        replace g0 := g0.tr g66
        replace hc16 := g66.heap hc16
        replace hc30 := g66.heap hc30
        replace hBw := Nat.le_trans hBw g66.size
        replace hRw := hRw.sees (Sees.grow g66)
        replace hc53 := g66.heap hc53
        clear g66
        refine qZ 2 ?_
        have hk6 : (zA0 s seg a).1.size = 6 ∨ (zA0 s seg a).1.size ≠ 6 := by omega
        exact ⟨adhRw, ((zA0 s seg a).1.data).toNat, cphRw, none, 0, 0, zD2 ⟨rfl, rfl, rfl, rfl, rfl, congrArg (Value.int .i64) (by unfold kidN; rw [if_pos (by omega)]), congrArg (Value.int .i64) (by unfold kidA; rw [if_pos (by omega)]), trivial⟩, K, g0, hc16, hc30, hBw, hc53, (by unfold nodL; rw [if_neg (by omega), zK4]; exact hRw), (by unfold nodB; rw [if_neg (by omega)]; exact Row.nil _ _)⟩
       ·
        replace h6 := qF h6
        refine zZ2 ?_
        have hk6 : (zA0 s seg a).1.size = 6 ∨ (zA0 s seg a).1.size ≠ 6 := by omega
        exact ⟨adhRw, ((zA0 s seg a).1.data).toNat, cphRw, none, 0, 0, zD2 ⟨rfl, rfl, rfl, rfl, rfl, congrArg (Value.int .i64) (by unfold kidN; rw [if_neg (by omega)]), congrArg (Value.int .i64) (by unfold kidA; rw [if_neg (by omega)]), trivial⟩, K, g0, hc16, hc30, hBw, hc53, (by unfold nodL; rw [if_neg (by omega), zK4]; exact hRw), (by unfold nodB; rw [if_neg (by omega)]; exact Row.nil _ _)⟩
    ·-- behind them
     clear K g0 hc16 hc30 hBw hRw hc53
     rintro e_ w67 ⟨aw, nw, cw, ab, nb, cb, ⟨e68, rfl⟩, K, g0, hc16, hc30, hBw, hc53, hRW, hRB⟩
     refine qZ 7 ?_
     obtain ⟨B2, hB2⟩ : ∃ B, B = w67.heap.size := ⟨_, rfl⟩
     have hBB2 : B ≤ B2 := by rw [hB2]; exact hBw
     have hB2w : B2 ≤ w67.heap.size := by rw [hB2]; exact Nat.le_refl _
     have hSW := hRW.sees (Sees.more (V' := (fun x => B ≤ x ∧ x < B2)) w67 (fun x_ h1_ h2_ => ⟨h2_, by rw [hB2]; exact h1_⟩))
     have hSB := hRB.sees (Sees.more (V' := (fun x => B ≤ x ∧ x < B2)) w67 (fun x_ h1_ h2_ => ⟨h2_, by rw [hB2]; exact h1_⟩))
     clear hRW hRB hB2
     refine zG4 (fun m_ e_ w_ => ∃ (j : Nat) (pd : Int) (ks : List Nd) (ad6 : Option Addr) (n6 : Nat) (c6 : Nat) (kc : List Value) (V : Nat → Prop), m_ = (kidN (zA0 s seg a).1).toNat - j ∧ Fr [(0, .pointer (some ⟨bd, 0, none⟩)), (3, .int .i64 (d : Int)), (8, .pointer (some ⟨b1, 0, none⟩)), (10, .pointer (some ⟨b10, 0, none⟩)), (12, .int .i64 (kidA (zA0 s seg a).1)), (108, .int .i64 (kidN (zA0 s seg a).1)), (109, .int .i64 (j : Int))] e_ ∧ ((j : Int) ≤ kidN (zA0 s seg a).1) ∧ (zI6 (qM2 s d (zA0 s seg a).1.seg) (kidA (zA0 s seg a).1) (paid + (1 + zD8 (zA0 s seg a).1)) j = (pd, ks, 0)) ∧ (0 ≤ pd ∧ pd ≤ 8192) ∧ (∀ x, (Value.slice ad6 n6 c6).ownBlock = some x → ¬ V x) ∧ (Kp [bd] w w_) ∧ (Grow w0 w_) ∧ (w_.heap[b10]? = some (.cells #[.int .i64 ((zA0 s seg a).1.kind), .int .i64 ((zA0 s seg a).1.seg), .int .i64 ((zA0 s seg a).1.at_), .int .i64 ((zA0 s seg a).1.data), .int .i64 ((zA0 s seg a).1.ptrs), .int .i64 ((zA0 s seg a).1.size), .int .i64 ((zA0 s seg a).1.count)] 112 (0, 0))) ∧ (B ≤ w_.heap.size) ∧ (Row (see (fun x => B ≤ x ∧ x < B2) w_) 1 (.slice aw nw cw) (nodL s (zA0 s seg a).1).length ((nodL s (zA0 s seg a).1).map (.int .u64))) ∧ (Row (see (fun x => B ≤ x ∧ x < B2) w_) 1 (.slice ab nb cb) (nodB s (zA0 s seg a).1).length ((nodB s (zA0 s seg a).1).map (.int .u8))) ∧ (B2 ≤ w_.heap.size) ∧ (w_.heap[b1]? = some (.cells #[.int .i64 ((zA0 s seg a).1.kind), .int .i64 ((zA0 s seg a).1.size), .slice aw nw cw, .slice ab nb cb, .slice ad6 n6 c6] 48 (0, 0))) ∧ (w_.heap[bd]? = some (.cells #[.iface t_ u_, .int .i64 pd] 172 (0, 0))) ∧ (w_.ownsRow B2 48 5 (.slice ad6 n6 c6) j kc) ∧ (∀ x, V x → B2 ≤ x ∧ x < w_.heap.size) ∧ (KidsR (see V w_) kc ks)) _ ⟨0, (paid + (1 + zD8 (zA0 s seg a).1)), [], none, 0, 0, [], fun _ => False, rfl, zD2 ⟨rfl, rfl, rfl, rfl, rfl, rfl, rfl, trivial⟩, by omega, rfl, by omega, fun x _ h_ => h_, K, g0, hc16, hBw, hSW, hSB, hB2w, hc53, hc30, World.ownsRow_nil _ _ _ _, fun x h_ => h_.elim, .nil⟩ ?_
     clear K g0 hc16 hc30 hBw hc53 hSW hSB hB2w
     rintro m_ e_ w69 ⟨j, pd, ks, ad6, n6, c6, kc, V, rfl, ⟨e70, rfl⟩, hj, hkd, hpd, hVo, K, g0, hc16, hBw, hSW, hSB, hB2w, hc53, hc30, ownk, hV, hK⟩
     refine qZ 2 ?_
     refine stp (zI1 rfl rfl ?_)
     refine qZ 2 ?_
     refine zA3 (b := (decide ((j : Int) < (kidN (zA0 s seg a).1)))) rfl (fun hlt => ?_) (fun hlt => ?_)
     ·
      replace hlt := qT hlt
      obtain ⟨d1, hd1⟩ := yS8 hok h2n (j := j) (by omega)
      have hnf : qM2 s d = zK2 s d1 := by rw [hd1]; rfl
      have hka : 0 ≤ kidA (zA0 s seg a).1 ∧ kidA (zA0 s seg a).1 ≤ 140737488420864 := by unfold kidA; split <;> omega
      have hq := yI0 H d1 (zA0 s seg a).1.seg (kidA (zA0 s seg a).1 + (j : Int)) pd hpd.1 hpd.2
      have hj1 : zI6 (qM2 s d (zA0 s seg a).1.seg) (kidA (zA0 s seg a).1) (paid + (1 + zD8 (zA0 s seg a).1)) (j + 1) = ((zK2 s d1 (zA0 s seg a).1.seg (kidA (zA0 s seg a).1 + (j : Int)) pd).1, ks ++ [(zK2 s d1 (zA0 s seg a).1.seg (kidA (zA0 s seg a).1 + (j : Int)) pd).2.1], (zK2 s d1 (zA0 s seg a).1.seg (kidA (zA0 s seg a).1 + (j : Int)) pd).2.2) := by rw [zI6, hkd, if_neg (by simp), hnf]
      refine qZ 15 ?_
      refine stp (zC3 rfl rfl ?_ ?_); constructor <;> omega
      refine qZ 1 ?_
      refine stp (zL2 rfl rfl ?_ ?_); constructor <;> omega
      refine stp ?_
      have hcal := ih_ _ H g0 hbd hc30 hpd.1 hpd.2 (zA0 s seg a).1.seg (a := kidA (zA0 s seg a).1 + (j : Int)) (by omega) (by omega) (d := d1) (by omega) (by omega)
      rw [show ((d1 : Nat) : Int) = (d : Int) - 1 from by omega] at hcal
      refine zC8 rfl hcal ?_
      rintro v_ w71 ⟨cells, rfl, hT9, hb9, K_⟩
      clear hcal
      have hB2w0 := hB2w
      have hol := fun x hx_ => (ownk.lt x hx_).2
      replace K := K.tr K_
      replace g0 := g0.kp1 K_ hbd
      replace hc16 := K_.heap hc16 (fun hm_ => by simp only [List.mem_singleton] at hm_; first | exact ne20 hm_ | exact ne20 hm_.symm)
      replace hBw := Nat.le_trans hBw K_.size
      replace hSW := hSW.sees (Sees.kp K_ (fun x_ hx_ hv_ => by simp only [List.mem_singleton] at hx_; subst hx_; exact absurd hv_.1 (by omega)))
      replace hSB := hSB.sees (Sees.kp K_ (fun x_ hx_ hv_ => by simp only [List.mem_singleton] at hx_; subst hx_; exact absurd hv_.1 (by omega)))
      replace hB2w := Nat.le_trans hB2w K_.size
      replace hc53 := K_.heap hc53 (fun hm_ => by simp only [List.mem_singleton] at hm_; first | exact ne7 hm_ | exact ne7 hm_.symm)
      replace ownk := jC0 ownk K_ (fun x_ hx_ => by simp only [List.mem_singleton] at hx_; subst hx_; omega)
      replace hV := vlt hV K_.size
      replace hK := hK.sees (Sees.kp K_ (fun x_ hx_ hv_ => by simp only [List.mem_singleton] at hx_; subst hx_; exact absurd (hV _ hv_).1 (by omega)))
      have hszK := K_.size
      clear K_ hc30
      obtain ⟨y0, y1, ya, yn, yc, za, zn, zc, ua, un, uc, rfl⟩ := hT9.cells
      have hT8 := hT9.sees (Sees.more (V' := fun x => V x ∨ (w69.heap.size ≤ x ∧ x < w71.heap.size)) w71 (fun x h1_ h2_ => .inr ⟨h2_, h1_⟩))
      clear hT9
      replace hK := hK.sees (Sees.more (V' := fun x => V x ∨ (w69.heap.size ≤ x ∧ x < w71.heap.size)) w71 (fun x _ h2_ => .inl h2_))
      have hV9 : ∀ x, (V x ∨ (w69.heap.size ≤ x ∧ x < w71.heap.size)) → B2 ≤ x ∧ x < w71.heap.size := fun x hx_ => hx_.elim (fun h_ => hV x h_) (fun h_ => ⟨Nat.le_trans hB2w0 h_.1, h_.2⟩)
      have hVo9 : ∀ x, (Value.slice ad6 n6 c6).ownBlock = some x → ¬ (V x ∨ (w69.heap.size ≤ x ∧ x < w71.heap.size)) := fun x hx_ hv_ => hv_.elim (fun h_ => hVo x hx_ h_) (fun h_ => by have := hol x hx_; omega)
      clear hV hVo
      obtain ⟨V9, hV9e⟩ : ∃ V9 : Nat → Prop, V9 = fun x => V x ∨ (w69.heap.size ≤ x ∧ x < w71.heap.size) := ⟨_, rfl⟩
      rw [← hV9e] at hT8 hK
      have hV : ∀ x, V9 x → B2 ≤ x ∧ x < w71.heap.size := by rw [hV9e]; exact hV9
      have hVo : ∀ x, (Value.slice ad6 n6 c6).ownBlock = some x → ¬ V9 x := by rw [hV9e]; exact hVo9
      clear hV9 hVo9 hV9e hB2w0 hol hszK
      refine qZ 3 ?_
      refine stp (zB2 ?_)
      intro b72 w73 hb74 hc75 g76
      refine stn (qS hc75 ?_)
      intro w77 hc78 u79
      have g80 := g76.upd u79 hb74
      have hge81 := Nat.le_trans K.size hb74
      have ne82 := qN hc16 hb74
      have ne83 := qN hc53 hb74
      have ne84 := qN hb9 hb74
      replace K := K.tr g80.kp
      replace g0 := g0.tr g80
      replace hc16 := g80.heap hc16
      replace hBw := Nat.le_trans hBw g80.size
      replace hSW := hSW.sees (Sees.grow g80)
      replace hSB := hSB.sees (Sees.grow g80)
      replace hB2w := Nat.le_trans hB2w g80.size
      replace hc53 := g80.heap hc53
      replace ownk := zB8 ownk g80
      replace hK := hK.sees (Sees.grow g80)
      replace hb9 := g80.heap hb9
      replace hT8 := hT8.sees (Sees.grow g80)
      replace hV := vlt hV g80.size
      clear u79 g76 hb74 hc75
      refine qZ 6 ?_
      refine stp (zI5 rfl rfl ?_)
      refine zA6 ?_
      refine zA3 (b := (decide (((zK2 s d1 (zA0 s seg a).1.seg (kidA (zA0 s seg a).1 + (j : Int)) pd).2.2) ≠ 0))) rfl (fun h7 => ?_) (fun h7 => ?_)
      ·
       replace h7 := qT h7
       refine qZ 2 ?_
       refine stp (zA7 (v := .agg #[.int .i64 0, .int .i64 0, .slice none 0 0, .slice none 0 0, .slice none 0 0]) (fun w => by kernel_rfl) ?_)
       refine qZ 1 ?_
       refine stn (qS hc53 ?_)
       intro w85 hc86 u87
       replace K := (by first | exact K.upd_new u87 (by assumption) | exact K.tr (Kp.of_upd u87 (by simp)))
       replace g0 := (by first | exact Grow.upd g0 u87 (Nat.le_trans g0w (by assumption)) | exact g0.kp1 (Kp.of_upd u87 (by simp)) hbd)
       replace hc16 := u87.heap hc16 ne21.symm
       replace hBw := Nat.le_trans hBw (Nat.le_of_eq u87.size.symm)
       replace hSW := hSW.sees (Sees.upd u87 (fun h_ => by have := h_.1; omega))
       replace hSB := hSB.sees (Sees.upd u87 (fun h_ => by have := h_.1; omega))
       replace hB2w := Nat.le_trans hB2w (Nat.le_of_eq u87.size.symm)
       replace ownk := zF1 ownk u87 (fun he_ => by have := zJ7 ownk _ he_; omega)
       replace hb9 := u87.heap hb9 ne7
       replace hc78 := u87.heap hc78 ne83.symm
       clear u87 hc53
       refine qZ 3 ?_
       have h9 : (zK2 s d seg a paid) = ((zK2 s d1 (zA0 s seg a).1.seg (kidA (zA0 s seg a).1 + (j : Int)) pd).1, .nil, (zK2 s d1 (zA0 s seg a).1.seg (kidA (zA0 s seg a).1 + (j : Int)) pd).2.2) := by rw [hneq]; unfold qK6; rw [if_neg h1, if_neg h2n, if_neg h3, kidsD_stop' (k := j + 1) (by rw [hj1]; exact h7) (by omega), hj1, if_pos h7]
       rw [h9]
       refine ret2 (zB0 rfl hc86 (by rfl)) (zA1 (v := .int .u16 ((zK2 s d1 (zA0 s seg a).1.seg (kidA (zA0 s seg a).1 + (j : Int)) pd).2.2)) rfl) ⟨[_, _, _, _, _], rfl, NodeR.zero _, hb9, K⟩
      ·
       replace h7 := qF h7
       have h70 : (zK2 s d1 (zA0 s seg a).1.seg (kidA (zA0 s seg a).1 + (j : Int)) pd).2.2 = 0 := by omega
       refine qZ 5 ?_
       refine stp (zB4 (cs := #[.int .i64 y0, .int .i64 y1, .slice ya yn yc, .slice za zn zc, .slice ua un uc]) (el := 48) (fun w => by kernel_rfl) ?_)
       intro bs88 w89 hb90 hc91 g92
       have hge93 := Nat.le_trans K.size hb90
       have ne94 := qN hc16 hb90
       have ne95 := qN hc53 hb90
       have ne96 := qN hc78 hb90
       replace K := K.tr g92.kp
       replace g0 := g0.tr g92
       replace hc16 := g92.heap hc16
       replace hBw := Nat.le_trans hBw g92.size
       replace hSW := hSW.sees (Sees.grow g92)
       replace hSB := hSB.sees (Sees.grow g92)
       replace hB2w := Nat.le_trans hB2w g92.size
       replace hc53 := g92.heap hc53
       replace ownk := zB8 ownk g92
       replace hK := hK.sees (Sees.grow g92)
       replace hb9 := g92.heap hb9
       replace hT8 := hT8.sees (Sees.grow g92)
       replace hV := vlt hV g92.size
       replace hc78 := g92.heap hc78
       clear g92
       refine stp (zW8 rfl rfl rfl rfl ownk (Row.of_block (n := 1) hc91 rfl rfl (by omega)) (fun q_ hq_ => by simp at hq_; rcases hq_ with rfl | rfl | rfl | rfl | rfl <;> rfl) (by simp only [maxLen]; omega) (by omega) hB2w ?_)
       intro v97 w98 own6 gr6 hbk6
       have k6_ : Kp (Value.slice ad6 n6 c6).ownBlock.toList w89 w98 := Kp.of_grownBy gr6 (fun k_ hk_ => by rw [Option.mem_toList]; exact hk_)
       have hF6 : ∀ x ∈ (Value.slice ad6 n6 c6).ownBlock.toList, B2 ≤ x := fun x hx_ => zJ7 ownk x (Option.mem_toList.1 hx_)
       have hF7 : ∀ x ∈ (Value.slice ad6 n6 c6).ownBlock.toList, ¬ V9 x := fun x hx_ => hVo x (Option.mem_toList.1 hx_)
       have hVo6 : ∀ x, v97.ownBlock = some x → ¬ V9 x := fun x hx_ hv_ => hbk6.elim (fun h_ => hVo x (h_ ▸ hx_) hv_) (fun h_ => by rw [h_] at hx_; simp only [Option.some.injEq] at hx_; have := (hV x hv_).2; omega)
       replace K := K.trans k6_ (fun x_ hx_ => .inr (Nat.le_trans hwB (Nat.le_trans hBB2 (hF6 x_ hx_))))
       replace g0 := g0.trK k6_ (fun x_ hx_ => Nat.le_trans g0w (Nat.le_trans hwB (Nat.le_trans hBB2 (hF6 x_ hx_))))
       replace hc16 := k6_.heap hc16 (fun hm_ => by have h1_ := hF6 _ hm_; omega)
       replace hBw := Nat.le_trans hBw k6_.size
       replace hSW := hSW.sees (Sees.kp k6_ (fun x_ hx_ hv_ => by have := hF6 x_ hx_; have := hv_.2; omega))
       replace hSB := hSB.sees (Sees.kp k6_ (fun x_ hx_ hv_ => by have := hF6 x_ hx_; have := hv_.2; omega))
       replace hB2w := Nat.le_trans hB2w k6_.size
       replace hc53 := k6_.heap hc53 (fun hm_ => by have h1_ := hF6 _ hm_; omega)
       replace hK := hK.sees (Sees.kp k6_ hF7)
       replace hb9 := k6_.heap hb9 (fun hm_ => by have h1_ := hF6 _ hm_; omega)
       replace hT8 := hT8.sees (Sees.kp k6_ hF7)
       replace hV := fun x hx_ => (⟨(hV x hx_).1, Nat.lt_of_lt_of_le (hV x hx_).2 k6_.size⟩ : B2 ≤ x ∧ x < w98.heap.size)
       clear hc78
       clear hc91
       clear ownk gr6 hVo k6_ hF6 hF7 hbk6
       obtain ⟨ad7, n7, c7, rfl⟩ := zE6 own6
       refine qZ 1 ?_
       refine stn (zC2 (v := .slice ad7 n7 c7) rfl rfl (by rfl) hc53 (by rfl) (by rfl) ?_)
       intro w99 hc100 u101
       replace K := (by first | exact K.upd_new u101 (by assumption) | exact K.tr (Kp.of_upd u101 (by simp)))
       replace g0 := (by first | exact Grow.upd g0 u101 (Nat.le_trans g0w (by assumption)) | exact g0.kp1 (Kp.of_upd u101 (by simp)) hbd)
       replace hc16 := u101.heap hc16 (fun hm_ => by first | exact ne21 hm_ | exact ne21 hm_.symm)
       replace hBw := Nat.le_trans hBw (Nat.le_of_eq u101.size.symm)
       replace hSW := hSW.sees (Sees.upd u101 (fun h_ => by have := h_.1; omega))
       replace hSB := hSB.sees (Sees.upd u101 (fun h_ => by have := h_.1; omega))
       replace hB2w := Nat.le_trans hB2w (Nat.le_of_eq u101.size.symm)
       replace hK := hK.sees (Sees.upd u101 (fun h_ => by have := (hV _ h_).1; omega))
       replace hb9 := u101.heap hb9 (fun hm_ => by first | exact ne7 hm_ | exact ne7 hm_.symm)
       replace hT8 := hT8.sees (Sees.upd u101 (fun h_ => by have := (hV _ h_).1; omega))
       replace hV := fun x hx_ => (⟨(hV x hx_).1, Nat.lt_of_lt_of_le (hV x hx_).2 (Nat.le_of_eq u101.size.symm)⟩ : B2 ≤ x ∧ x < w99.heap.size)
       replace own6 := zF1 own6 u101 (fun he_ => by have := zJ7 own6 _ he_; omega)
       clear hc53 u101
       refine qZ 2 ?_
       refine stp (zC3 rfl rfl ?_ ?_); constructor <;> omega
       refine qZ 2 ?_
       refine ⟨_, ?_, j + 1, (zK2 s d1 (zA0 s seg a).1.seg (kidA (zA0 s seg a).1 + (j : Int)) pd).1, ks ++ [(zK2 s d1 (zA0 s seg a).1.seg (kidA (zA0 s seg a).1 + (j : Int)) pd).2.1], ad7, n7, c7, _, V9, rfl, zD2 ⟨rfl, rfl, rfl, rfl, rfl, rfl, congrArg (Value.int .i64) (by omega), trivial⟩, by omega, (by rw [hj1, h70]), ⟨hq.1, hq.2.2 h70⟩, hVo6, K, g0, hc16, hBw, hSW, hSB, hB2w, hc100, hb9, own6, hV, (KidsR.append hK (by have := KidsR.cons hT8 .nil; simpa using this))⟩
       omega
     ·
      replace hlt := qF hlt
      have hjn : (kidN (zA0 s seg a).1).toNat = j := by omega
      have hlk : ks.length = j := by have := qK7 (f := qM2 s d (zA0 s seg a).1.seg) (a := kidA (zA0 s seg a).1) (p := (paid + (1 + zD8 (zA0 s seg a).1))) j (by rw [hkd]); rw [hkd] at this; exact this
      have hrk : Row (hide B2 w69) 5 (.slice ad6 n6 c6) ks.length kc := by rw [hlk]; exact zY6 ownk (by omega)
      have hK9 := hK.sees (Sees.more (V' := fun x => B2 ≤ x) _ (fun x _ hx_ => (hV x hx_).1))
      clear hK hV ownk
      refine qZ 4 ?_
      refine stn (qS hc53 ?_)
      intro w102 hc103 u104
      replace K := (by first | exact K.upd_new u104 (by assumption) | exact K.tr (Kp.of_upd u104 (by simp)))
      replace g0 := (by first | exact Grow.upd g0 u104 (Nat.le_trans g0w (by assumption)) | exact g0.kp1 (Kp.of_upd u104 (by simp)) hbd)
      replace hc16 := u104.heap hc16 ne21.symm
      replace hBw := Nat.le_trans hBw (Nat.le_of_eq u104.size.symm)
      replace hSW := hSW.sees (Sees.upd u104 (fun h_ => by have := h_.1; omega))
      replace hSB := hSB.sees (Sees.upd u104 (fun h_ => by have := h_.1; omega))
      replace hB2w := Nat.le_trans hB2w (Nat.le_of_eq u104.size.symm)
      replace hc30 := u104.heap hc30 ne7
      replace hrk := hrk.sees (Sees.upd u104 (fun h_ => absurd h_ (by omega)))
      replace hK9 := hK9.sees (Sees.upd u104 (fun h_ => absurd h_ (by omega)))
      clear u104 hc53
      refine qZ 3 ?_
      have h9 : (zK2 s d seg a paid) = (pd, .mk (zA0 s seg a).1.kind (zA0 s seg a).1.size (nodL s (zA0 s seg a).1) (nodB s (zA0 s seg a).1) ks, 0) := by rw [hneq]; unfold qK6; rw [if_neg h1, if_neg h2n, if_neg h3, hjn, hkd, if_neg (by simp)]
      rw [h9]
      refine ret2 (zB0 rfl hc103 (by rfl)) (zA1 (v := .int .u16 0) rfl) ⟨[_, _, _, _, _], rfl, (.mk (by simp only [inR]; omega) (by simp only [inR]; omega) (hSW.sees (Sees.more _ (fun x _ hx_ => Nat.le_trans hwB hx_.1))) (yS7 H _) (hSB.sees (Sees.more _ (fun x _ hx_ => Nat.le_trans hwB hx_.1))) (yY7 s _) (hrk.sees (Sees.low (Nat.le_trans hwB hBB2) _)) (hK9.sees (Sees.low (Nat.le_trans hwB hBB2) _))), hc30, K⟩
theorem qW6 (w : World) {u : Value} {A : List (List Int)} (hA : zG1 w u A) (hn : A.length ≤ 8796093022208) : Calls Tryz.prog 51 #[u] w (Ret fun v w' => ∃ ad c, v = .slice ad A.length c ∧ RowAt w' 1 ad A.length ((zC9 A).map (.int .i64)) ∧ Grow w w') := by
 obtain ⟨ada, ca, segs, sa, sc, rfl, hca, hca2, RA, hsf, hrf⟩ := hA.fn
 have G := Grow.rfl' w
 refine zC0 Tryz.func51 Tryz.ntmps51 Tryz.results51 rfl rfl ?_
 refine qZ 16 ?_
 refine zG4 (fun m_ e_ w_ => ∃ (k : Nat) (ad3 : Option Addr) (n3 : Nat) (c3 : Nat), m_ = A.length - k ∧ Fr [(2, .slice none 0 0), (6, .slice ada A.length ca), (7, .int .i64 (A.length : Int)), (3, .slice ad3 n3 c3), (8, .int .i64 (k : Int))] e_ ∧ (k ≤ A.length) ∧ (w_.ownsRow w.heap.size 3 1 (.slice ad3 n3 c3) k ((zC9 (A.take k)).map (.int .i64))) ∧ Grow w w_) _ ⟨0, none, 0, 0, rfl, zD2 ⟨rfl, rfl, rfl, rfl, rfl, trivial⟩, by omega, World.ownsRow_nil _ _ _ _, G⟩ ?_
 clear G
 rintro m_ e_ w1 ⟨k, ad3, n3, c3, rfl, ⟨e2, rfl⟩, hk, own, G⟩
 refine qZ 2 ?_
 refine stp (zI1 rfl rfl ?_)
 refine qZ 2 ?_
 refine zA3 (b := (decide ((k : Int) < (A.length : Int)))) rfl (fun hlt => ?_) (fun hlt => ?_)
 ·
  replace hlt := qT hlt
  have hi : k < A.length := by omega
  have hlk := (hrf k hi).2.2.lim
  refine qZ 5 ?_
  refine stp (zD7 (RA.grow G) rfl rfl ?_ ?_); omega
  refine stp (zF2 (v := .slice (sa k) (len2 A k) (sc k)) (m := 0) (RA.grow G) rfl (by rw [Nat.mul_one]; exact hsf _ (by omega)) ?_)
  refine qZ 6 ?_
  refine stp (zB4 (cs := #[.int .i64 ((len2 A k) : Int)]) (el := 3) (fun w => by kernel_rfl) ?_)
  intro bs3 w4 hb5 hc6 g7
  have hge8 := Nat.le_trans G.size hb5
  replace own := zB8 own g7
  replace G := G.tr g7
  clear g7
  refine stp (zH1 rfl rfl rfl rfl own (Row.of_block (n := 1) hc6 rfl rfl (by omega)) (fun q_ hq_ => by simp at hq_; subst hq_; rfl) (by simp only [maxLen]; omega) (by omega) G.size ?_)
  intro v9 w10 own6 gr6
  replace G := G.grown gr6 (zJ7 own)
  clear own gr6
  obtain ⟨ad4, n4, c4, rfl⟩ := zE6 own6
  refine qZ 3 ?_
  refine stp (zC3 rfl rfl ?_ ?_); constructor <;> omega
  refine qZ 2 ?_
  refine ⟨_, ?_, k + 1, ad4, n4, c4, rfl, zD2 ⟨rfl, rfl, rfl, rfl, congrArg (Value.int .i64) (by omega), trivial⟩, by omega, (by rw [yA1 hi, List.map_append]; exact own6), G⟩
  omega
 ·
  replace hlt := qF hlt
  have hk2 : k = A.length := by omega
  subst hk2
  rw [List.take_length] at own
  obtain ⟨ad9, c9, hs9, -, -, R9⟩ := zH3 own (by omega)
  simp only [Value.slice.injEq] at hs9
  obtain ⟨rfl, rfl, rfl⟩ := hs9
  refine qZ 7 ?_
  refine ret1 (zA1 (v := .slice ad3 A.length c3) rfl) ⟨_, _, rfl, R9, G⟩
theorem yB1 (w : World) {ad : Option Addr} {c : Nat} {A : List (List Int)} (R : RowAt w 1 ad A.length ((zC9 A).map (.int .i64))) (hs : ∀ i, len2 A i ≤ 140737488355328) : zC5 Tryz.prog 50 #[.slice ad A.length c] w (.bool (zG0 A)) := by
 have hl := zM8 A
 have G := Grow.rfl' w
 refine zB1 Tryz.func50 Tryz.ntmps50 Tryz.results50 rfl rfl ?_
 refine qZ 9 ?_
 refine stp (zI1 rfl rfl ?_)
 refine qZ 1 ?_
 refine qG 2 ?_
 refine zA4 (zB7 (s := .bool _) (v := .bool (decide ((A.length : Int) > 16))) rfl (zF0 _) (fun hc3 => ?_) ?_)
 ·
  have hc3_ := hc3
  try simp only [sb] at hc3_
  refine zQ7 (gvt hc3) rfl ?_
  exact ⟨rfl, rfl⟩
 refine stp (zJ3 rfl rfl rfl ?_)
 refine qZ 1 ?_
 refine qG 1 ?_
 refine zA4 (zB7 (s := .bool _) (v := .pointer (some (eadr ad ((0 : Int).toNat * 1)))) rfl (zF0 _) (fun hc5 => ?_) ?_)
 ·
  have hc5_ := hc5
  try simp only [sb] at hc5_
  refine zL7 (R.grow G) (gvt hc5) rfl ?_ ?_ ?_; omega; omega
  exact ⟨rfl, rfl⟩
 refine zA4 (zB7 (s := .bool _) (v := .int .i64 ((zC9 A).getD 0 0)) rfl (zF0 _) (fun hc6 => ?_) ?_)
 ·
  have hc6_ := hc6
  try simp only [sb] at hc6_
  refine zF2 (v := .int .i64 ((zC9 A).getD 0 0)) (m := 0) (R.grow G) (gvt hc6) (show _ from zL8 (j := 0) 0 (by omega)) ?_
  exact ⟨rfl, rfl⟩
 refine zA4 (zB7 (s := .bool _) (v := .bool (decide (((zC9 A).getD 0 0) < 1))) rfl (zF0 _) (fun hc7 => ?_) ?_)
 ·
  have hc7_ := hc7
  try simp only [sb] at hc7_
  refine zI1 (gvt hc7) rfl ?_
  exact ⟨rfl, rfl⟩
 refine stp (zJ3 rfl rfl rfl ?_)
 refine zA6 ?_
 refine zA3 (b := (((decide ((A.length : Int) < 1)) || (decide ((A.length : Int) > 16))) || (decide (((zC9 A).getD 0 0) < 1)))) rfl (fun h1 => ?_) (fun h1 => ?_)
 ·
  simp only [sb] at h1
  have hg0 := zR1 A 0
  refine qZ 5 ?_
  have h9 : zG0 A = false := by unfold zG0; exact decide_eq_false (by omega)
  refine ret1 (zA1 (v := .bool false) rfl) ⟨?_, G⟩
  rw [h9]
 ·
  simp only [sb] at h1
  have hg0 := zR1 A 0
  have h1' : 1 ≤ A.length ∧ A.length ≤ 16 ∧ 1 ≤ len2 A 0 := by omega
  clear h1
  refine qZ 13 ?_
  refine zG4 (fun m_ e_ w_ => ∃ (k : Nat), m_ = A.length - k ∧ Fr [(22, .slice ad A.length c), (23, .int .i64 (A.length : Int)), (3, .int .i64 (zB9 (A.take k))), (24, .int .i64 (k : Int))] e_ ∧ (k ≤ A.length) ∧ (zB9 (A.take k) ≤ 4096) ∧ Grow w w_) _ ⟨0, rfl, zD2 ⟨rfl, rfl, rfl, rfl, trivial⟩, by omega, by simp [zB9], G⟩ ?_
  clear G
  rintro m_ e_ w8 ⟨k, rfl, ⟨e9, rfl⟩, hk, htk, G⟩
  refine qZ 2 ?_
  refine stp (zI1 rfl rfl ?_)
  refine qZ 2 ?_
  refine zA3 (b := (decide ((k : Int) < (A.length : Int)))) rfl (fun hlt => ?_) (fun hlt => ?_)
  ·
   replace hlt := qT hlt
   have hi : k < A.length := by omega
   have hg := zR1 A k
   have hlk := hs k
   have ht1 := qA5 hi
   have ht2 := qU4 (A := A) (k + 1)
   have ht3 := zK5 (A.take k)
   have hak : ((A[k].length : Nat) : Int) = (len2 A k : Int) := by simp only [len2]; rw [zF5 hi]
   have hadd : zL3 (zB9 (A.take k)) ((zC9 A).getD k 0) 4096 = decide (zB9 (A.take (k + 1)) ≤ 4096) := by unfold zL3; by_cases h_ : zB9 (A.take (k + 1)) ≤ 4096; (rw [decide_eq_true h_]; exact decide_eq_true (by omega)); (rw [decide_eq_false h_]; exact decide_eq_false (by omega))
   refine qZ 5 ?_
   refine stp (zD7 (R.grow G) rfl rfl ?_ ?_); omega
   refine stp (zF2 (v := .int .i64 ((zC9 A).getD k 0)) (m := 0) (R.grow G) rfl (zL8 0 (by omega)) ?_)
   refine qZ 6 ?_
   refine stp (zA2 (v := .tuple #[.int .i64 (if zL3 (zB9 (A.take k)) ((zC9 A).getD k 0) 4096 then zB9 (A.take k) + (zC9 A).getD k 0 else 0), .bool (zL3 (zB9 (A.take k)) ((zC9 A).getD k 0) 4096)]) rfl (qG0 _ (a := zB9 (A.take k)) (b := (zC9 A).getD k 0) (m := 4096) (by simp only [inR]; omega) (by simp only [inR]; omega) (by simp only [inR]; omega)) ?_)
   intro w10 g11
   replace G := G.tr g11
   clear g11
   refine qZ 10 ?_
   refine stp (zM1 rfl ?_)
   refine zA6 ?_
   refine zA3 (b := (!(zL3 (zB9 (A.take k)) ((zC9 A).getD k 0) 4096))) rfl (fun h3 => ?_) (fun h3 => ?_)
   ·
    simp only [sb] at h3
    rw [hadd] at h3
    refine qZ 5 ?_
    have h9 : zG0 A = false := by unfold zG0; exact decide_eq_false (by simp at h3; omega)
    refine ret1 (zA1 (v := .bool false) rfl) ⟨?_, G⟩
    rw [h9]
   ·
    simp only [sb] at h3
    rw [hadd] at h3
    have h3_ : zB9 (A.take (k + 1)) ≤ 4096 := by simpa using h3
    refine qZ 6 ?_
    refine stp (zC3 rfl rfl ?_ ?_); constructor <;> omega
    refine qZ 2 ?_
    refine ⟨_, ?_, k + 1, rfl, zD2 ⟨rfl, rfl, congrArg (Value.int .i64) (by rw [hadd, decide_eq_true h3_, if_pos rfl]; omega), rfl, trivial⟩, by omega, by omega, G⟩
    omega
  ·
   replace hlt := qF hlt
   have hk2 : k = A.length := by omega
   subst hk2
   rw [List.take_length] at htk
   refine qZ 6 ?_
   have h9 : zG0 A = true := by unfold zG0; exact decide_eq_true (by omega)
   refine ret1 (zA1 (v := .bool true) rfl) ⟨?_, G⟩
   rw [h9]
theorem qH3 (w : World) {u : Value} {A : List (List Int)} (hA : zG1 w u A) (hn : A.length ≤ 8796093022208) : zC5 Tryz.prog 30 #[u] w (.bool (zG0 A)) := by
 have hA0 := hA
 obtain ⟨ada, ca, segs, sa, sc, rfl, hca, hca2, RA, hsf, hrf⟩ := hA.fn
 have hs : ∀ i, len2 A i ≤ 140737488355328 := fun i => by by_cases hi : i < A.length; exact (hrf i hi).2.2.lim; (have := zR0 (A := A) (j := i) (by omega); omega)
 have G := Grow.rfl' w
 refine zB1 Tryz.func30 Tryz.ntmps30 Tryz.results30 rfl rfl ?_
 refine qZ 7 ?_
 refine stp ?_
 refine zC8 rfl (qW6 _ (hA0.grow G) hn) ?_
 rintro v_ w1 ⟨ad9, c9, rfl, RZ, g_⟩
 replace G := G.tr g_
 clear g_
 refine stp (zA2 (v := .bool (zG0 A)) rfl (yB1 _ RZ hs) ?_)
 intro w2 g3
 replace RZ := RZ.grow g3
 replace G := G.tr g3
 clear g3
 refine qZ 3 ?_
 refine ret1 (zA1 (v := .bool (zG0 A)) rfl) ⟨?_, G⟩
 rfl
theorem qR8 (w : World) {u : Value} {A : List (List Int)} (hA : zG1 w u A) (hn : A.length ≤ 8796093022208) (hx : ∀ q ∈ A, ∀ x ∈ q, inR .u64 x) : Calls Tryz.prog 70 #[u] w (Ret fun v w' => ∃ cells, v = .tuple #[.agg cells.toArray, .int .u16 (decT A).2] ∧ NodeR (hide w.heap.size w') cells (decT A).1 ∧ Grow w w') := by
 have hA0 := hA
 obtain ⟨ada, ca, segs, sa, sc, rfl, hca, hca2, RA, hsf, hrf⟩ := hA.fn
 have G := Grow.rfl' w
 refine zC0 Tryz.func70 Tryz.ntmps70 Tryz.results70 rfl rfl ?_
 refine qZ 2 ?_
 refine stp (zB2 ?_)
 intro b1 w2 hb3 hc4 g5
 refine qZ 6 ?_
 have hge6 := Nat.le_trans G.size hb3
 replace G := G.tr g5
 clear g5 hb3
 refine stp (zA2 (v := .bool (zG0 A)) rfl (qH3 _ (hA0.grow G) hn) ?_)
 intro w7 g8
 replace hc4 := g8.heap hc4
 replace G := G.tr g8
 clear g8
 refine stp (zM1 rfl ?_)
 refine zA6 ?_
 refine zA3 (b := (!(zG0 A))) rfl (fun h1 => ?_) (fun h1 => ?_)
 ·
  simp only [sb] at h1
  have h9 : decT A = (.nil, 1) := if_pos (by simpa using h1)
  refine qZ 2 ?_
  refine stp (zA7 (v := .agg #[.int .i64 0, .int .i64 0, .slice none 0 0, .slice none 0 0, .slice none 0 0]) (fun w => by kernel_rfl) ?_)
  refine stn (qS hc4 ?_)
  intro w9 hc10 u11
  replace G := G.upd u11 hge6
  clear u11 hc4
  refine qZ 3 ?_
  rw [h9]
  refine ret2 (zB0 rfl hc10 (by rfl)) (zA1 (v := .int .u16 1) rfl) ⟨[_, _, _, _, _], rfl, NodeR.zero _, G⟩
 ·
  simp only [sb] at h1
  have h1' : zG0 A = true := by simpa using h1
  have hr : OkA A := yN6 h1' hx
  have h9 : decT A = (zK2 (zC4 A) 32 0 0 0).2 := if_neg (by simp [h1'])
  rw [h9]
  refine qZ 4 ?_
  refine stp (zA2 (v := .iface 110 (.agg #[.slice ada A.length ca])) rfl (qK9 _) ?_)
  intro w12 g13
  replace hc4 := g13.heap hc4
  replace G := G.tr g13
  clear g13
  refine stp (zA7 (v := .agg #[.iface 110 (.agg #[.slice ada A.length ca]), .int .i64 0]) (fun w => by kernel_rfl) ?_)
  refine stp ?_
  refine qC ?_
  intro b14 w15 hb16 hc17 g18
  have hge19 := Nat.le_trans G.size hb16
  have ne20 := qN hc4 hb16
  replace hc4 := g18.heap hc4
  replace G := G.tr g18
  clear g18 hb16
  refine qZ 5 ?_
  refine stp ?_
  have hcal := yB0 _ _ (yT5 hA0 hr) G hge19 hc17 (by decide) (by decide) 0 (a := 0) (by decide) (by decide) (d := 32) (by decide) (Nat.le_refl _)
  have hlow := G.size
  have hlt1 := zC1 hc4
  refine zC8 rfl hcal ?_
  rintro v_ w21 ⟨cells, rfl, hT9, hb9, K_⟩
  clear hcal
  replace hc4 := K_.heap hc4 (fun hm_ => by simp only [List.mem_singleton] at hm_; first | exact ne20 hm_ | exact ne20 hm_.symm)
  replace G := G.trK K_ (fun x_ hx_ => by simp only [List.mem_singleton] at hx_; subst hx_; exact hge19)
  clear K_ hc17
  obtain ⟨y0, y1, ya, yn, yc, za, zn, zc, ua, un, uc, rfl⟩ := hT9.cells
  refine qZ 2 ?_
  refine stn (qS hc4 ?_)
  intro w22 hc23 u24
  replace hb9 := u24.heap hb9 ne20.symm
  replace hT9 := hT9.sees (Sees.upd u24 (fun h_ => absurd h_ (Nat.not_le.2 hlt1)))
  replace G := G.upd u24 hge6
  clear u24 hc4
  refine qZ 3 ?_
  refine ret2 (zB0 rfl hc23 (by rfl)) (zA1 (v := .int .u16 ((zK2 (zC4 A) 32 0 0 0).2.2)) rfl) ⟨_, rfl, hT9.sees (Sees.low hlow _), G⟩
end Go.Proofs.YtkkbbhpbcfcplaaGreat.K
namespace Go.Proofs.YtkkbbhpbcfcplaaGreat.K
open Go Go.RowKit
structure KpQ where
  r : World → World → Prop
  g : World → World → Prop
  gdrew : ∀ w : World, g w { w with drawn := w.drawn + 1 }
  refl : ∀ w, r w w
  tr : ∀ {a b c : World}, r a b → r b c → r a c
  grow : ∀ {a b : World}, g a b → r a b
def Sp.StabQ (F : KpQ) : Sp → Prop
  | .ex _ => True
  | .so G => ∀ w w' v, F.r w w' → G w v → G w' v
theorem Sp.keepQ {F : KpQ} {s : Sp} (h : s.StabQ F) {w w' : World} {v : Value} (g : F.r w w') (hv : s.holds w v) : s.holds w' v := by
  cases s with
  | ex x => exact hv
  | so G => exact h w w' v g hv
mutual
def Nd.beq : Nd → Nd → Bool
  | .mk k s w b ks, .mk k' s' w' b' ks' => decide (k = k') && decide (s = s') && decide (w = w') && decide (b = b') && Nd.beqs ks ks'
def Nd.beqs : List Nd → List Nd → Bool
  | [], [] => true
  | [], _ :: _ => false
  | _ :: _, [] => false
  | t :: ts, u :: us => t.beq u && Nd.beqs ts us
end
mutual
theorem Nd.beq_iff : ∀ (t u : Nd), t.beq u = true ↔ t = u
  | .mk k s w b ks, .mk k' s' w' b' ks' => by
    simp only [Nd.beq, Bool.and_eq_true, decide_eq_true_eq, Nd.mk.injEq, Nd.beqs_iff ks ks', and_assoc]
theorem Nd.beqs_iff : ∀ (t u : List Nd), Nd.beqs t u = true ↔ t = u
  | [], [] => by simp [Nd.beqs]
  | [], _ :: _ => by simp [Nd.beqs]
  | _ :: _, [] => by simp [Nd.beqs]
  | t :: ts, u :: us => by
    simp only [Nd.beqs, Bool.and_eq_true, List.cons.injEq, Nd.beq_iff t u, Nd.beqs_iff ts us]
end
theorem Nd.beqs_all : ∀ (t u : List Nd), (decide (t.length = u.length) && (List.range t.length).all fun i => (t.getD i (.mk 0 0 [] [] [])).beq (u.getD i (.mk 0 0 [] [] []))) = Nd.beqs t u
  | [], [] => by simp [Nd.beqs]
  | [], _ :: _ => by simp [Nd.beqs]
  | _ :: _, [] => by simp [Nd.beqs]
  | t :: ts, u :: us => by
    rw [Nd.beqs, ← Nd.beqs_all ts us, List.length_cons, List.length_cons, List.range_succ_eq_map, List.all_cons, List.all_map]
    have h : decide (ts.length + 1 = us.length + 1) = decide (ts.length = us.length) := by
      by_cases h : ts.length = us.length
      · rw [decide_eq_true h, decide_eq_true (by omega)]
      · rw [decide_eq_false h, decide_eq_false (by omega)]
    rw [h]
    show (decide (ts.length = us.length) && (t.beq u && (List.range ts.length).all fun i => (ts.getD i (.mk 0 0 [] [] [])).beq (us.getD i (.mk 0 0 [] [] [])))) = _
    cases decide (ts.length = us.length) <;> cases t.beq u <;> simp
theorem qW7 {n k : Nat} {p : Nat → Bool} (hk : k < n) (h : p k = false) : (List.range n).all p = false := by
  rw [List.all_eq_false]
  exact ⟨k, List.mem_range.2 hk, by rw [h]; decide⟩
theorem qR9 {n : Nat} {p : Nat → Bool} (h : ∀ j, j < n → p j = true) : (List.range n).all p = true := by
  rw [List.all_eq_true]
  exact fun j hj => h j (List.mem_range.1 hj)
end Go.Proofs.YtkkbbhpbcfcplaaGreat.K
