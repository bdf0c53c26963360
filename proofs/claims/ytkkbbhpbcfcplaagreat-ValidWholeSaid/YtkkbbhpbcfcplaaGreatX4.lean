/- Plain laws, rules and walks of this claim's functions, laid together. -/
import Derived.Test.YtkkbbhpbcfcplaaGreatX3
import Derived.Laws.BytesArg
import Derived.Laws.Strings
import Derived.Laws.Pointers
set_option linter.unusedVariables false
set_option linter.unusedSimpArgs false
set_option maxRecDepth 100000
namespace Go.Proofs.YtkkbbhpbcfcplaaGreat.K
open Go Go.RowKit Go.Proofs
attribute [local irreducible] Run1 OpG WL W AO zB8
set_option maxHeartbeats 2000000 in
theorem yA5 : ∀ (n_ : Nat) (w : World) {ada adh : Option Addr} {na ca nh ch : Nat} {b : Bool} {A : List (List Int)} {s : Src} (H : SrcR Tryz.prog 72 w (.slice ada na ca) b (.slice adh nh ch) A s) {seg a paid : Int} (g1 : inR .i64 seg) (a0 : 0 ≤ a) (a1 : a ≤ 140737488455328) (hp0 : 0 ≤ paid) (hp1 : paid ≤ 8192) {d : Nat} (hd : d ≤ 32), d + 1 ≤ n_ → Calls Tryz.prog 37 #[.agg #[.slice ada na ca, .bool b, .slice adh nh ch, .int .i64 paid, .int .i64 0], .int .i64 seg, .int .i64 a, .int .i64 (32 - (d : Int))] w (Ret fun v w' => ∃ pd9 cells t9, v = .tuple #[.agg #[.slice ada na ca, .bool b, .slice adh nh ch, .int .i64 pd9, .int .i64 (zE9 s d seg a paid).2.2], .agg cells.toArray] ∧ NodeR (hide w.heap.size w') cells t9 ∧ ((zE9 s d seg a paid).2.2 = 0 → pd9 = (zE9 s d seg a paid).1 ∧ t9 = (zE9 s d seg a paid).2.1) ∧ Grow w w') := by
 intro n_
 induction n_ with
 | zero => intro w ada adh na ca nh ch b A s H seg a paid g1 a0 a1 hp0 hp1 d hd hm_; exact absurd hm_ (by have := Nat.succ_pos d; omega)
 | succ n_ ih_ =>
 intro w ada adh na ca nh ch b A s H seg a paid g1 a0 a1 hp0 hp1 d hd hm_
 have g1' := g1
 simp only [inR] at g1
 have hor := H.follow_range seg a
 have hok := zL1 s seg a
 obtain ⟨hw0, hw1⟩ := zI6 hor
 obtain ⟨rk, rs, ra, rd, rp, rz, rc⟩ := hor
 have hls := yW6 hok
 have hun : ∀ seg a : Int, inR .u64 (s.word seg a).1 := fun seg a => ⟨(H.num seg a).1, (H.num seg a).2.1⟩
 obtain ⟨er1, er2, er3⟩ := @yQ5 s d seg a paid
 have G := Grow.rfl' w
 refine zC2 Tryz.func37 Tryz.ntmps37 Tryz.results37 rfl rfl ?_
 refine qZ 2 ?_
 refine stp ?_
 refine qC ?_
 intro b1 w2 hb3 hc4 g5
 have hge6 := Nat.le_trans G.size hb3
 replace G := G.tr g5
 clear g5 hb3
 refine stp (zA8 ?_)
 intro b7 w8 hb9 hc10 g11
 have hge12 := Nat.le_trans G.size hb9
 have ne13 := qN hc4 hb9
 replace hc4 := g11.heap hc4
 replace G := G.tr g11
 clear g11 hb9
 refine stp (zA8 ?_)
 intro b14 w15 hb16 hc17 g18
 refine qZ 4 ?_
 have hge19 := Nat.le_trans G.size hb16
 have ne20 := qN hc4 hb16
 have ne21 := qN hc10 hb16
 replace hc4 := g18.heap hc4
 replace hc10 := g18.heap hc10
 replace G := G.tr g18
 clear g18 hb16
 refine stp (zH8 rfl hc4 (by rfl) (by rfl) ?_)
 refine qZ 2 ?_
 refine stp (zA4 (v := .tuple #[.agg #[.int .i64 ((zA0 s seg a).1.kind), .int .i64 ((zA0 s seg a).1.seg), .int .i64 ((zA0 s seg a).1.at_), .int .i64 ((zA0 s seg a).1.data), .int .i64 ((zA0 s seg a).1.ptrs), .int .i64 ((zA0 s seg a).1.size), .int .i64 ((zA0 s seg a).1.count)], .int .i64 ((zA0 s seg a).2)]) rfl (zP1 _ (H.grow G) seg a g1' (by simp only [inR]; omega)) ?_)
 intro w22 g23
 replace hc4 := g23.heap hc4
 replace hc10 := g23.heap hc10
 replace hc17 := g23.heap hc17
 replace G := G.tr g23
 clear g23
 refine qZ 3 ?_
 refine stp (zA8 ?_)
 intro b24 w25 hb26 hc27 g28
 refine stn (qS hc27 ?_)
 intro w29 hc30 u31
 have g32 := g28.upd u31 hb26
 have hge33 := Nat.le_trans G.size hb26
 have ne34 := qN hc4 hb26
 have ne35 := qN hc10 hb26
 have ne36 := qN hc17 hb26
 replace hc4 := g32.heap hc4
 replace hc10 := g32.heap hc10
 replace hc17 := g32.heap hc17
 replace G := G.tr g32
 clear u31 g28 hb26 hc27
 refine qZ 6 ?_
 refine stp (zC7 rfl rfl ?_)
 refine qZ 1 ?_
 refine qG 2 ?_
 refine zA3 (zB0 (s := .bool _) (v := .bool (decide (((zA0 s seg a).1.kind) ≠ 0))) rfl (zE1 _) (fun hc39 => ?_) ?_)
 ·
  have hc39_ := qT hc39
  refine zG1 (gvt hc39) rfl ?_
  exact ⟨rfl, rfl⟩
 refine stp (zE8 rfl rfl rfl ?_)
 refine qZ 1 ?_
 refine qG 1 ?_
 refine zA3 (zB0 (s := .bool _) (v := .bool (decide ((32 - (d : Int)) ≥ 32))) rfl (zE1 _) (fun hc41 => ?_) ?_)
 ·
  obtain ⟨hc41a, hc41b⟩ := and_t hc41
  have hc41a_ := qT hc41a
  have hc41b_ := qT hc41b
  refine zO4 (gvt hc41) rfl ?_
  exact ⟨rfl, rfl⟩
 refine stp (zE8 rfl rfl rfl ?_)
 refine zA6 ?_
 refine zA2 (b := (((decide (((zA0 s seg a).2) = 0)) && (decide (((zA0 s seg a).1.kind) ≠ 0))) && (decide ((32 - (d : Int)) ≥ 32)))) rfl (fun h1 => ?_) (fun h1 => ?_)
 ·
  simp only [sb] at h1
  have h1a : (zA0 s seg a).2 = 0 := by omega
  have h1b : (zA0 s seg a).1.kind ≠ 0 := by omega
  have h1c : d = 0 := by omega
  refine qZ 4 ?_
  refine zN6 6 [[], [0], [], [0], [1, 0], [4, 3, 2, 1, 0]] mixed (by kernel_rfl) (by kernel_rfl) (by kernel_rfl) ?_
  intro w42 g43
  replace hc4 := g43.heap hc4
  replace hc10 := g43.heap hc10
  replace hc17 := g43.heap hc17
  replace hc30 := g43.heap hc30
  replace G := G.tr g43
  clear g43
  refine qA 3 ?_
  apply zC4
  ·intro w_ g_; refine og rfl ?_; exact zA4 (v := .int .i64 (zB2 (zA0 s seg a).1)) rfl (zU1 _ (zA0 s seg a).1) (fun w2_ g2_ => ⟨g2_, rfl⟩)
  apply zC4
  ·intro w_ g_; refine og rfl ?_; refine zB5 rfl rfl ?_ ?_; constructor <;> omega; exact qX
  apply zC4
  ·intro w_ g_; refine og rfl ?_; refine zB5 rfl rfl ?_ ?_; constructor <;> omega; exact qX
  refine zJ0 ?_
  intro w44 g45
  replace hc4 := g45.heap hc4
  replace hc10 := g45.heap hc10
  replace hc17 := g45.heap hc17
  replace hc30 := g45.heap hc30
  replace G := G.tr g45
  clear g45
  refine qZ 1 ?_
  refine stn (zB9 (v := .int .i64 (paid + (1 + (zB2 (zA0 s seg a).1)))) rfl rfl (by rfl) hc4 (by rfl) (by rfl) ?_)
  intro w46 hc47 u48
  replace hc10 := u48.heap hc10 ne13.symm
  replace hc17 := u48.heap hc17 ne20.symm
  replace hc30 := u48.heap hc30 ne34.symm
  replace G := G.upd u48 hge6
  clear u48 hc4
  refine qZ 5 ?_
  refine stp (qO5 rfl rfl (by first | decide | rfl) ?_)
  refine qZ 1 ?_
  refine zA3 (zO3 rfl ?_)
  refine zA3 (zO3 rfl ?_)
  refine zA3 (zO3 rfl ?_)
  refine stp (qH2 (v := .bool false) rfl rfl rfl ?_)
  refine zA6 ?_
  refine zM3 rfl ?_
  refine qZ 5 ?_
  refine stp (qY0 rfl rfl (by first | decide | rfl) ?_)
  refine zA6 ?_
  refine zS1 rfl ?_
  refine qZ 4 ?_
  refine stn (zB9 (v := .int .i64 21) rfl rfl (by rfl) hc47 (by rfl) (by rfl) ?_)
  intro w49 hc50 u51
  replace hc10 := u51.heap hc10 ne13.symm
  replace hc17 := u51.heap hc17 ne20.symm
  replace hc30 := u51.heap hc30 ne34.symm
  replace G := G.upd u51 hge6
  clear u51 hc47
  refine qZ 4 ?_
  refine stp (zA7 (v := .agg #[.int .i64 0, .int .i64 0, .slice none 0 0, .slice none 0 0, .slice none 0 0]) (fun w => by kernel_rfl) ?_)
  refine stn (qS hc10 ?_)
  intro w52 hc53 u54
  replace hc17 := u54.heap hc17 ne21.symm
  replace hc30 := u54.heap hc30 ne35.symm
  replace hc50 := u54.heap hc50 ne13
  replace G := G.upd u54 hge12
  clear u54 hc10
  refine stn (qS hc17 ?_)
  intro w55 hc56 u57
  replace hc30 := u57.heap hc30 ne36.symm
  replace hc50 := u57.heap hc50 ne20
  replace hc53 := u57.heap hc53 ne21
  replace G := G.upd u57 hge19
  clear u57 hc17
  refine qZ 2 ?_
  have h9 : (zE9 s d seg a paid).2.2 = 21 := er2 h1a h1b h1c
  rw [h9]
  refine ret2 (zA5 rfl hc53 (by rfl)) (zA5 rfl hc56 (by rfl)) ⟨_, [_, _, _, _, _], .nil, rfl, NodeR.zero _, fun h_ => by first | exact absurd (show (21 : Int) = 0 from h_) (by decide) | omega, G⟩
 ·
  simp only [sb] at h1
  have h2n : (zA0 s seg a).2 = 0 → ¬ ((zA0 s seg a).1.kind ≠ 0 ∧ (d == 0) = true) := fun he_ h_ => by have := eq_of_beq h_.2; have := h_.1; omega
  refine qZ 2 ?_
  refine zN6 6 [[], [0], [], [0], [1, 0], [4, 3, 2, 1, 0]] mixed (by kernel_rfl) (by kernel_rfl) (by kernel_rfl) ?_
  intro w58 g59
  replace hc4 := g59.heap hc4
  replace hc10 := g59.heap hc10
  replace hc17 := g59.heap hc17
  replace hc30 := g59.heap hc30
  replace G := G.tr g59
  clear g59
  refine qA 3 ?_
  apply zC4
  ·intro w_ g_; refine og rfl ?_; exact zA4 (v := .int .i64 (zB2 (zA0 s seg a).1)) rfl (zU1 _ (zA0 s seg a).1) (fun w2_ g2_ => ⟨g2_, rfl⟩)
  apply zC4
  ·intro w_ g_; refine og rfl ?_; refine zB5 rfl rfl ?_ ?_; constructor <;> omega; exact qX
  apply zC4
  ·intro w_ g_; refine og rfl ?_; refine zB5 rfl rfl ?_ ?_; constructor <;> omega; exact qX
  refine zJ0 ?_
  intro w60 g61
  replace hc4 := g61.heap hc4
  replace hc10 := g61.heap hc10
  replace hc17 := g61.heap hc17
  replace hc30 := g61.heap hc30
  replace G := G.tr g61
  clear g61
  refine qZ 1 ?_
  refine stn (zB9 (v := .int .i64 (paid + (1 + (zB2 (zA0 s seg a).1)))) rfl rfl (by rfl) hc4 (by rfl) (by rfl) ?_)
  intro w62 hc63 u64
  replace hc10 := u64.heap hc10 ne13.symm
  replace hc17 := u64.heap hc17 ne20.symm
  replace hc30 := u64.heap hc30 ne34.symm
  replace G := G.upd u64 hge6
  clear u64 hc4
  refine qZ 5 ?_
  refine stp (zC7 rfl rfl ?_)
  refine qZ 1 ?_
  refine qG 2 ?_
  refine zA3 (zB0 (s := .bool _) (v := .bool (decide ((paid + (1 + (zB2 (zA0 s seg a).1))) > 8192))) rfl (zE1 _) (fun hc67 => ?_) ?_)
  ·
   have hc67_ := qT hc67
   refine zM7 (gvt hc67) rfl ?_
   exact ⟨rfl, rfl⟩
  refine stp (zE8 rfl rfl rfl ?_)
  refine zA6 ?_
  refine zA2 (b := ((decide (((zA0 s seg a).2) = 0)) && (decide ((paid + (1 + (zB2 (zA0 s seg a).1))) > 8192)))) rfl (fun h2 => ?_) (fun h2 => ?_)
  ·
   simp only [sb] at h2
   have h2a : (zA0 s seg a).2 = 0 := by omega
   refine qZ 7 ?_
   refine stp (qY0 rfl rfl (by first | decide | rfl) ?_)
   refine zA6 ?_
   refine zS1 rfl ?_
   refine qZ 4 ?_
   refine stn (zB9 (v := .int .i64 22) rfl rfl (by rfl) hc63 (by rfl) (by rfl) ?_)
   intro w68 hc69 u70
   replace hc10 := u70.heap hc10 ne13.symm
   replace hc17 := u70.heap hc17 ne20.symm
   replace hc30 := u70.heap hc30 ne34.symm
   replace G := G.upd u70 hge6
   clear u70 hc63
   refine qZ 4 ?_
   refine stp (zA7 (v := .agg #[.int .i64 0, .int .i64 0, .slice none 0 0, .slice none 0 0, .slice none 0 0]) (fun w => by kernel_rfl) ?_)
   refine stn (qS hc10 ?_)
   intro w71 hc72 u73
   replace hc17 := u73.heap hc17 ne21.symm
   replace hc30 := u73.heap hc30 ne35.symm
   replace hc69 := u73.heap hc69 ne13
   replace G := G.upd u73 hge12
   clear u73 hc10
   refine stn (qS hc17 ?_)
   intro w74 hc75 u76
   replace hc30 := u76.heap hc30 ne36.symm
   replace hc69 := u76.heap hc69 ne20
   replace hc72 := u76.heap hc72 ne21
   replace G := G.upd u76 hge19
   clear u76 hc17
   refine qZ 2 ?_
   have h9 : (zE9 s d seg a paid).2.2 = 22 := er3 h2a (h2n h2a) (by omega)
   rw [h9]
   refine ret2 (zA5 rfl hc72 (by rfl)) (zA5 rfl hc75 (by rfl)) ⟨_, [_, _, _, _, _], .nil, rfl, NodeR.zero _, fun h_ => by first | exact absurd (show (22 : Int) = 0 from h_) (by decide) | omega, G⟩
  ·
   simp only [sb] at h2
   refine qZ 5 ?_
   refine stp (zG1 rfl rfl ?_)
   refine zA6 ?_
   refine zA2 (b := (decide (((zA0 s seg a).2) ≠ 0))) rfl (fun h3 => ?_) (fun h3 => ?_)
   ·
    replace h3 := qT h3
    refine qZ 4 ?_
    refine stn (zB9 (v := .int .i64 ((zA0 s seg a).2)) rfl rfl (by rfl) hc63 (by rfl) (by rfl) ?_)
    intro w77 hc78 u79
    replace hc10 := u79.heap hc10 ne13.symm
    replace hc17 := u79.heap hc17 ne20.symm
    replace hc30 := u79.heap hc30 ne34.symm
    replace G := G.upd u79 hge6
    clear u79 hc63
    refine qZ 4 ?_
    refine stp (zA7 (v := .agg #[.int .i64 0, .int .i64 0, .slice none 0 0, .slice none 0 0, .slice none 0 0]) (fun w => by kernel_rfl) ?_)
    refine stn (qS hc10 ?_)
    intro w80 hc81 u82
    replace hc17 := u82.heap hc17 ne21.symm
    replace hc30 := u82.heap hc30 ne35.symm
    replace hc78 := u82.heap hc78 ne13
    replace G := G.upd u82 hge12
    clear u82 hc10
    refine stn (qS hc17 ?_)
    intro w83 hc84 u85
    replace hc30 := u85.heap hc30 ne36.symm
    replace hc78 := u85.heap hc78 ne20
    replace hc81 := u85.heap hc81 ne21
    replace G := G.upd u85 hge19
    clear u85 hc17
    refine qZ 2 ?_
    have h9 : (zE9 s d seg a paid).2.2 = (zA0 s seg a).2 := er1 h3
    rw [h9]
    refine ret2 (zA5 rfl hc81 (by rfl)) (zA5 rfl hc84 (by rfl)) ⟨_, [_, _, _, _, _], .nil, rfl, NodeR.zero _, fun h_ => by first | exact absurd (show ((zA0 s seg a).2 : Int) = 0 from h_) (by decide) | omega, G⟩
   ·
    replace h3 := qF h3
    have h3n : ¬ (paid + (1 + zB2 (zA0 s seg a).1)) > 8192 := by omega
    replace h2n := h2n (by omega)
    obtain ⟨s1, s2, s3, s4, s5, s6⟩ := yE7 ⟨rk, rs, ra, rd, rp, rz, rc⟩ hok (by omega)
    refine qZ 7 ?_
    refine stp (zA7 (v := .agg #[.int .i64 ((zA0 s seg a).1.kind), .int .i64 ((zA0 s seg a).1.size), .slice none 0 0, .slice none 0 0, .slice none 0 0]) (fun w => by kernel_rfl) ?_)
    refine stp (zA8 ?_)
    intro b86 w87 hb88 hc89 g90
    refine stn (qS hc89 ?_)
    intro w91 hc92 u93
    have g94 := g90.upd u93 hb88
    have hge95 := Nat.le_trans G.size hb88
    have ne96 := qN hc10 hb88
    have ne97 := qN hc17 hb88
    have ne98 := qN hc30 hb88
    have ne99 := qN hc63 hb88
    replace hc10 := g94.heap hc10
    replace hc17 := g94.heap hc17
    replace hc30 := g94.heap hc30
    replace hc63 := g94.heap hc63
    replace G := G.tr g94
    clear u93 g90 hb88 hc89
    refine qZ 13 ?_
    have hk5 : (zA0 s seg a).1.size = 5 → (zA0 s seg a).1.kind = 2 := fun h_ => hls (.inl h_)
    have hk6 : (zA0 s seg a).1.size = 6 → (zA0 s seg a).1.kind = 2 := fun h_ => hls (.inr h_)
    clear er1 er2 er3 h1 h2 hls
    have hwn : 0 ≤ (if (zA0 s seg a).1.size = 5 then (zA0 s seg a).1.count else (zA0 s seg a).1.data) ∧ (if (zA0 s seg a).1.size = 5 then (zA0 s seg a).1.count else (zA0 s seg a).1.data) ≤ 8191 := by split <;> omega
    refine jA3 (fun e_ w_ => Fr [(3, .int .i64 (32 - (d : Int))), (4, .pointer (some ⟨b1, 0, none⟩)), (8, .pointer (some ⟨b7, 0, none⟩)), (9, .pointer (some ⟨b14, 0, none⟩)), (10, .pointer (some ⟨b24, 0, none⟩)), (12, .pointer (some ⟨b86, 0, none⟩)), (13, .int .i64 (if (zA0 s seg a).1.size = 5 then (zA0 s seg a).1.count else (zA0 s seg a).1.data)), (14, .int .i64 (kidN (zA0 s seg a).1))] e_ ∧ (w_.heap[b7]? = some (.cells #[.slice none 0 0, .bool false, .slice none 0 0, .int .i64 0, .int .i64 0] 90 (0, 0))) ∧ (w_.heap[b14]? = some (.cells #[.int .i64 0, .int .i64 0, .slice none 0 0, .slice none 0 0, .slice none 0 0] 48 (0, 0))) ∧ (w_.heap[b24]? = some (.cells #[.int .i64 ((zA0 s seg a).1.kind), .int .i64 ((zA0 s seg a).1.seg), .int .i64 ((zA0 s seg a).1.at_), .int .i64 ((zA0 s seg a).1.data), .int .i64 ((zA0 s seg a).1.ptrs), .int .i64 ((zA0 s seg a).1.size), .int .i64 ((zA0 s seg a).1.count)] 112 (0, 0))) ∧ (w_.heap[b1]? = some (.cells #[.slice ada na ca, .bool b, .slice adh nh ch, .int .i64 (paid + (1 + (zB2 (zA0 s seg a).1))), .int .i64 0] 90 (0, 0))) ∧ (w_.heap[b86]? = some (.cells #[.int .i64 ((zA0 s seg a).1.kind), .int .i64 ((zA0 s seg a).1.size), .slice none 0 0, .slice none 0 0, .slice none 0 0] 48 (0, 0))) ∧ Grow w w_) ?_ ?_
    ·-- the parts
     refine qZ 4 ?_
     refine stp (zC7 rfl rfl ?_)
     refine qZ 1 ?_
     refine qG 2 ?_
     refine zA3 (zB0 (s := .bool _) (v := .bool (decide (((zA0 s seg a).1.size) = 6))) rfl (zE1 _) (fun hc102 => ?_) ?_)
     ·
      have hc102_ := qT hc102
      refine zC7 (gvt hc102) rfl ?_
      exact ⟨rfl, rfl⟩
     refine stp (zE8 rfl rfl rfl ?_)
     refine zA6 ?_
     refine zA2 (b := ((decide (((zA0 s seg a).1.kind) = 2)) && (decide (((zA0 s seg a).1.size) = 6)))) rfl (fun h4 => ?_) (fun h4 => ?_)
     ·
      simp only [sb] at h4
      refine qZ 9 ?_
      refine stp (zC7 rfl rfl ?_)
      refine qZ 1 ?_
      refine qG 2 ?_
      refine zA3 (zB0 (s := .bool _) (v := .bool (decide (((zA0 s seg a).1.size) = 5))) rfl (zE1 _) (fun hc105 => ?_) ?_)
      ·
       have hc105_ := qT hc105
       refine zC7 (gvt hc105) rfl ?_
       exact ⟨rfl, rfl⟩
      refine stp (zE8 rfl rfl rfl ?_)
      refine zA6 ?_
      refine zA2 (b := ((decide (((zA0 s seg a).1.kind) = 2)) && (decide (((zA0 s seg a).1.size) = 5)))) rfl (fun h5 => ?_) (fun h5 => ?_)
      ·
       simp only [sb] at h5
       refine qZ 5 ?_
       exact ⟨zC3 ⟨rfl, rfl, rfl, rfl, rfl, rfl, congrArg (Value.int .i64) (by exfalso; omega), congrArg (Value.int .i64) (by exfalso; omega), trivial⟩, hc10, hc17, hc30, hc63, hc92, G⟩
      ·
       simp only [sb] at h5
       refine zU9 ?_
       exact ⟨zC3 ⟨rfl, rfl, rfl, rfl, rfl, rfl, congrArg (Value.int .i64) (by rw [if_neg (by omega)]), congrArg (Value.int .i64) (by unfold kidN; rw [if_pos (by omega)]), trivial⟩, hc10, hc17, hc30, hc63, hc92, G⟩
     ·
      simp only [sb] at h4
      refine qZ 5 ?_
      refine stp (zC7 rfl rfl ?_)
      refine qZ 1 ?_
      refine qG 2 ?_
      refine zA3 (zB0 (s := .bool _) (v := .bool (decide (((zA0 s seg a).1.size) = 5))) rfl (zE1 _) (fun hc108 => ?_) ?_)
      ·
       have hc108_ := qT hc108
       refine zC7 (gvt hc108) rfl ?_
       exact ⟨rfl, rfl⟩
      refine stp (zE8 rfl rfl rfl ?_)
      refine zA6 ?_
      refine zA2 (b := ((decide (((zA0 s seg a).1.kind) = 2)) && (decide (((zA0 s seg a).1.size) = 5)))) rfl (fun h5 => ?_) (fun h5 => ?_)
      ·
       simp only [sb] at h5
       refine qZ 5 ?_
       exact ⟨zC3 ⟨rfl, rfl, rfl, rfl, rfl, rfl, congrArg (Value.int .i64) (by rw [if_pos (by omega)]), congrArg (Value.int .i64) (by unfold kidN; rw [if_neg (by omega)]), trivial⟩, hc10, hc17, hc30, hc63, hc92, G⟩
      ·
       simp only [sb] at h5
       refine zU9 ?_
       exact ⟨zC3 ⟨rfl, rfl, rfl, rfl, rfl, rfl, congrArg (Value.int .i64) (by rw [if_neg (by omega)]), congrArg (Value.int .i64) (by unfold kidN; rw [if_neg (by omega)]), trivial⟩, hc10, hc17, hc30, hc63, hc92, G⟩
    ·-- behind them
     clear hc10 hc17 hc30 hc63 hc92
     clear G
     rintro e_ w109 ⟨⟨e110, rfl⟩, hc10, hc17, hc30, hc63, hc92, G⟩
     refine qZ 6 ?_
     obtain ⟨B0, hB0⟩ : ∃ B, B = w109.heap.size := ⟨_, rfl⟩
     have hwB0 : w.heap.size ≤ B0 := by rw [hB0]; exact G.size
     have hB0w : B0 ≤ w109.heap.size := by rw [hB0]; exact Nat.le_refl _
     have hl0_b1 : b1 < B0 := by rw [hB0]; exact zB3 hc63
     have hl0_b7 : b7 < B0 := by rw [hB0]; exact zB3 hc10
     have hl0_b14 : b14 < B0 := by rw [hB0]; exact zB3 hc17
     have hl0_b24 : b24 < B0 := by rw [hB0]; exact zB3 hc30
     have hl0_b86 : b86 < B0 := by rw [hB0]; exact zB3 hc92
     clear hB0
     refine zF2 (fun m_ e_ w_ => ∃ (m : Nat) (ad3 : Option Addr) (n3 : Nat) (c3 : Nat), m_ = (if (zA0 s seg a).1.size = 5 then (zA0 s seg a).1.count else (zA0 s seg a).1.data).toNat - m ∧ Fr [(3, .int .i64 (32 - (d : Int))), (4, .pointer (some ⟨b1, 0, none⟩)), (8, .pointer (some ⟨b7, 0, none⟩)), (9, .pointer (some ⟨b14, 0, none⟩)), (10, .pointer (some ⟨b24, 0, none⟩)), (12, .pointer (some ⟨b86, 0, none⟩)), (13, .int .i64 (if (zA0 s seg a).1.size = 5 then (zA0 s seg a).1.count else (zA0 s seg a).1.data)), (14, .int .i64 (kidN (zA0 s seg a).1)), (15, .int .i64 (m : Int))] e_ ∧ ((m : Int) ≤ (if (zA0 s seg a).1.size = 5 then (zA0 s seg a).1.count else (zA0 s seg a).1.data)) ∧ (w_.heap[b7]? = some (.cells #[.slice none 0 0, .bool false, .slice none 0 0, .int .i64 0, .int .i64 0] 90 (0, 0))) ∧ (w_.heap[b14]? = some (.cells #[.int .i64 0, .int .i64 0, .slice none 0 0, .slice none 0 0, .slice none 0 0] 48 (0, 0))) ∧ (w_.heap[b24]? = some (.cells #[.int .i64 ((zA0 s seg a).1.kind), .int .i64 ((zA0 s seg a).1.seg), .int .i64 ((zA0 s seg a).1.at_), .int .i64 ((zA0 s seg a).1.data), .int .i64 ((zA0 s seg a).1.ptrs), .int .i64 ((zA0 s seg a).1.size), .int .i64 ((zA0 s seg a).1.count)] 112 (0, 0))) ∧ (w_.heap[b1]? = some (.cells #[.slice ada na ca, .bool b, .slice adh nh ch, .int .i64 (paid + (1 + (zB2 (zA0 s seg a).1))), .int .i64 0] 90 (0, 0))) ∧ (B0 ≤ w_.heap.size) ∧ (w_.heap[b86]? = some (.cells #[.int .i64 ((zA0 s seg a).1.kind), .int .i64 ((zA0 s seg a).1.size), .slice ad3 n3 c3, .slice none 0 0, .slice none 0 0] 48 (0, 0))) ∧ (w_.ownsRow B0 23 1 (.slice ad3 n3 c3) m ((zJ6 s (zA0 s seg a).1.seg (zA0 s seg a).1.at_ m).map (.int .u64))) ∧ Grow w w_) _ ⟨0, none, 0, 0, rfl, zC3 ⟨rfl, rfl, rfl, rfl, rfl, rfl, rfl, rfl, rfl, trivial⟩, by omega, hc10, hc17, hc30, hc63, hB0w, hc92, World.ownsRow_nil _ _ _ _, G⟩ ?_
     clear hc10 hc17 hc30 hc63 hc92 hB0w
     clear G
     rintro m_ e_ w111 ⟨m, ad3, n3, c3, rfl, ⟨e112, rfl⟩, hm, hc10, hc17, hc30, hc63, hB0w, hc92, own, G⟩
     refine qZ 5 ?_
     refine stp (zF1 rfl rfl ?_)
     refine zA6 ?_
     refine zA2 (b := (decide ((m : Int) < (if (zA0 s seg a).1.size = 5 then (zA0 s seg a).1.count else (zA0 s seg a).1.data)))) rfl (fun hlt => ?_) (fun hlt => ?_)
     ·
      replace hlt := qT hlt
      refine qZ 6 ?_
      refine stp (zH8 rfl hc63 (by rfl) (by rfl) ?_)
      refine qZ 5 ?_
      refine stp (zB5 rfl rfl ?_ ?_); constructor <;> omega
      refine stp (zA4 (v := .tuple #[.int .u64 ((s.word ((zA0 s seg a).1.seg) (((zA0 s seg a).1.at_) + (m : Int))).1), .int .i64 ((s.word ((zA0 s seg a).1.seg) (((zA0 s seg a).1.at_) + (m : Int))).2)]) rfl (H.word _ G ((zA0 s seg a).1.seg) (((zA0 s seg a).1.at_) + (m : Int)) (by simp only [inR]; omega) (by simp only [inR]; omega)) ?_)
      intro w113 g114
      replace hc10 := g114.heap hc10
      replace hc17 := g114.heap hc17
      replace hc30 := g114.heap hc30
      replace hc63 := g114.heap hc63
      replace hB0w := Nat.le_trans hB0w g114.size
      replace hc92 := g114.heap hc92
      replace own := zB4 own g114
      replace G := G.tr g114
      clear g114
      refine qZ 10 ?_
      refine stp (zC0 (cs := #[.int .u64 ((s.word ((zA0 s seg a).1.seg) (((zA0 s seg a).1.at_) + (m : Int))).1)]) (el := 23) (fun w => by kernel_rfl) ?_)
      intro bs115 w116 hb117 hc118 g119
      have hge120 := Nat.le_trans G.size hb117
      have ne121 := qN hc10 hb117
      have ne122 := qN hc17 hb117
      have ne123 := qN hc30 hb117
      have ne124 := qN hc63 hb117
      have ne125 := qN hc92 hb117
      replace hc10 := g119.heap hc10
      replace hc17 := g119.heap hc17
      replace hc30 := g119.heap hc30
      replace hc63 := g119.heap hc63
      replace hB0w := Nat.le_trans hB0w g119.size
      replace hc92 := g119.heap hc92
      replace own := zB4 own g119
      replace G := G.tr g119
      clear g119
      refine stp (zG7 rfl rfl rfl rfl own (Row.of_block (n := 1) hc118 rfl rfl (by omega)) (fun q_ hq_ => by simp at hq_; subst hq_; rfl) (by simp only [maxLen]; omega) (by omega) hB0w ?_)
      intro v126 w127 own6 gr6
      replace G := G.grown gr6 (fun k_ hk_ => Nat.le_trans hwB0 (zH5 own k_ hk_))
      replace hB0w := Nat.le_trans hB0w gr6.size
      replace hc10 := zF5 gr6 hc10 (zD9 own hc10 (by decide))
      replace hc17 := zF5 gr6 hc17 (zD9 own hc17 (by decide))
      replace hc30 := zF5 gr6 hc30 (zD9 own hc30 (by decide))
      replace hc63 := zF5 gr6 hc63 (zD9 own hc63 (by decide))
      replace hc92 := zF5 gr6 hc92 (zD9 own hc92 (by decide))
      clear own gr6
      obtain ⟨ad4, n4, c4, rfl⟩ := zD7 own6
      refine qZ 1 ?_
      refine stn (zB9 (v := .slice ad4 n4 c4) rfl rfl (by rfl) hc92 (by rfl) (by rfl) ?_)
      intro w128 hc129 u130
      replace hc10 := u130.heap hc10 ne96
      replace hc17 := u130.heap hc17 ne97
      replace hc30 := u130.heap hc30 ne98
      replace hc63 := u130.heap hc63 ne99
      replace hB0w := Nat.le_trans hB0w (Nat.le_of_eq u130.size.symm)
      replace own6 := zF4 own6 u130 (zD9 own6 hc92 (by decide))
      replace G := G.upd u130 hge95
      clear u130 hc92
      refine qZ 3 ?_
      refine stp (zB5 rfl rfl ?_ ?_); constructor <;> omega
      refine qZ 2 ?_
      refine ⟨_, ?_, m + 1, ad4, n4, c4, rfl, zC3 ⟨rfl, rfl, rfl, rfl, rfl, rfl, rfl, rfl, congrArg (Value.int .i64) (by omega), trivial⟩, by omega, hc10, hc17, hc30, hc63, hB0w, hc129, (by rw [qJ1, List.map_append]; exact own6), G⟩
      omega
     ·
      replace hlt := qF hlt
      have hm9 : m = (if (zA0 s seg a).1.size = 5 then (zA0 s seg a).1.count else (zA0 s seg a).1.data).toNat := by omega
      rw [hm9] at own
      refine qZ 7 ?_
      refine zF2 (fun m_ e_ w_ => ∃ (i : Nat) (ad5 : Option Addr) (n5 : Nat) (c5 : Nat), m_ = (zA0 s seg a).1.count.toNat - i ∧ Fr [(3, .int .i64 (32 - (d : Int))), (4, .pointer (some ⟨b1, 0, none⟩)), (8, .pointer (some ⟨b7, 0, none⟩)), (9, .pointer (some ⟨b14, 0, none⟩)), (10, .pointer (some ⟨b24, 0, none⟩)), (12, .pointer (some ⟨b86, 0, none⟩)), (13, .int .i64 (if (zA0 s seg a).1.size = 5 then (zA0 s seg a).1.count else (zA0 s seg a).1.data)), (14, .int .i64 (kidN (zA0 s seg a).1)), (18, .int .i64 (i : Int))] e_ ∧ ((i : Int) ≤ (zA0 s seg a).1.count) ∧ (i = 0 ∨ (zA0 s seg a).1.size = 2) ∧ (w_.heap[b7]? = some (.cells #[.slice none 0 0, .bool false, .slice none 0 0, .int .i64 0, .int .i64 0] 90 (0, 0))) ∧ (w_.heap[b14]? = some (.cells #[.int .i64 0, .int .i64 0, .slice none 0 0, .slice none 0 0, .slice none 0 0] 48 (0, 0))) ∧ (w_.heap[b24]? = some (.cells #[.int .i64 ((zA0 s seg a).1.kind), .int .i64 ((zA0 s seg a).1.seg), .int .i64 ((zA0 s seg a).1.at_), .int .i64 ((zA0 s seg a).1.data), .int .i64 ((zA0 s seg a).1.ptrs), .int .i64 ((zA0 s seg a).1.size), .int .i64 ((zA0 s seg a).1.count)] 112 (0, 0))) ∧ (w_.heap[b1]? = some (.cells #[.slice ada na ca, .bool b, .slice adh nh ch, .int .i64 (paid + (1 + (zB2 (zA0 s seg a).1))), .int .i64 0] 90 (0, 0))) ∧ (B0 ≤ w_.heap.size) ∧ (w_.ownsRow B0 23 1 (.slice ad3 n3 c3) ((if (zA0 s seg a).1.size = 5 then (zA0 s seg a).1.count else (zA0 s seg a).1.data).toNat) ((zJ6 s (zA0 s seg a).1.seg (zA0 s seg a).1.at_ ((if (zA0 s seg a).1.size = 5 then (zA0 s seg a).1.count else (zA0 s seg a).1.data).toNat)).map (.int .u64))) ∧ (w_.heap[b86]? = some (.cells #[.int .i64 ((zA0 s seg a).1.kind), .int .i64 ((zA0 s seg a).1.size), .slice ad3 n3 c3, .slice ad5 n5 c5, .slice none 0 0] 48 (0, 0))) ∧ (w_.ownsRow B0 5 1 (.slice ad5 n5 c5) i ((zR4 s (zA0 s seg a).1.seg (zA0 s seg a).1.at_ i).map (.int .u8))) ∧ Grow w w_) _ ⟨0, none, 0, 0, rfl, zC3 ⟨rfl, rfl, rfl, rfl, rfl, rfl, rfl, rfl, rfl, trivial⟩, by omega, .inl rfl, hc10, hc17, hc30, hc63, hB0w, own, hc92, World.ownsRow_nil _ _ _ _, G⟩ ?_
      clear hc10 hc17 hc30 hc63 hB0w hc92 own
      clear G
      rintro m_ e_ w131 ⟨i, ad5, n5, c5, rfl, ⟨e132, rfl⟩, hi, hi2, hc10, hc17, hc30, hc63, hB0w, own, hc92, ownb, G⟩
      refine qZ 6 ?_
      refine stp (zF1 rfl rfl ?_)
      refine qZ 1 ?_
      refine qG 2 ?_
      refine zA3 (zB0 (s := .bool _) (v := .bool (decide (((zA0 s seg a).1.size) = 2))) rfl (zE1 _) (fun hc135 => ?_) ?_)
      ·
       have hc135_ := qT hc135
       refine zC7 (gvt hc135) rfl ?_
       exact ⟨rfl, rfl⟩
      refine stp (zE8 rfl rfl rfl ?_)
      refine zA6 ?_
      refine zA2 (b := ((decide ((i : Int) < ((zA0 s seg a).1.count))) && (decide (((zA0 s seg a).1.size) = 2)))) rfl (fun hlt => ?_) (fun hlt => ?_)
      ·
       simp only [sb] at hlt
       have hx := hun (zA0 s seg a).1.seg ((zA0 s seg a).1.at_ + (i : Int) / 8)
       simp only [inR] at hx
       refine qZ 6 ?_
       refine stp (zH8 rfl hc63 (by rfl) (by rfl) ?_)
       refine qZ 5 ?_
       refine stp (zY0 rfl rfl ?_ ?_ ?_ ?_); omega; omega; (constructor <;> omega)
       refine stp (zB5 rfl rfl ?_ ?_); constructor <;> omega
       refine stp (zA4 (v := .tuple #[.int .u64 ((s.word ((zA0 s seg a).1.seg) (((zA0 s seg a).1.at_) + ((i : Int) / 8))).1), .int .i64 ((s.word ((zA0 s seg a).1.seg) (((zA0 s seg a).1.at_) + ((i : Int) / 8))).2)]) rfl (H.word _ G ((zA0 s seg a).1.seg) (((zA0 s seg a).1.at_) + ((i : Int) / 8)) (by simp only [inR]; omega) (by simp only [inR]; omega)) ?_)
       intro w136 g137
       replace hc10 := g137.heap hc10
       replace hc17 := g137.heap hc17
       replace hc30 := g137.heap hc30
       replace hc63 := g137.heap hc63
       replace hB0w := Nat.le_trans hB0w g137.size
       replace own := zB4 own g137
       replace hc92 := g137.heap hc92
       replace ownb := zB4 ownb g137
       replace G := G.tr g137
       clear g137
       refine qZ 12 ?_
       refine zF2 (fun m_ e_ w_ => ∃ (q : Nat), m_ = i % 8 - q ∧ Fr [(3, .int .i64 (32 - (d : Int))), (4, .pointer (some ⟨b1, 0, none⟩)), (8, .pointer (some ⟨b7, 0, none⟩)), (9, .pointer (some ⟨b14, 0, none⟩)), (10, .pointer (some ⟨b24, 0, none⟩)), (12, .pointer (some ⟨b86, 0, none⟩)), (13, .int .i64 (if (zA0 s seg a).1.size = 5 then (zA0 s seg a).1.count else (zA0 s seg a).1.data)), (14, .int .i64 (kidN (zA0 s seg a).1)), (18, .int .i64 (i : Int)), (21, .int .i64 (q : Int)), (19, .int .u64 ((s.word (zA0 s seg a).1.seg ((zA0 s seg a).1.at_ + (i : Int) / 8)).1 / 2 ^ (8 * q)))] e_ ∧ (q ≤ i % 8) ∧ (w_.heap[b7]? = some (.cells #[.slice none 0 0, .bool false, .slice none 0 0, .int .i64 0, .int .i64 0] 90 (0, 0))) ∧ (w_.heap[b14]? = some (.cells #[.int .i64 0, .int .i64 0, .slice none 0 0, .slice none 0 0, .slice none 0 0] 48 (0, 0))) ∧ (w_.heap[b24]? = some (.cells #[.int .i64 ((zA0 s seg a).1.kind), .int .i64 ((zA0 s seg a).1.seg), .int .i64 ((zA0 s seg a).1.at_), .int .i64 ((zA0 s seg a).1.data), .int .i64 ((zA0 s seg a).1.ptrs), .int .i64 ((zA0 s seg a).1.size), .int .i64 ((zA0 s seg a).1.count)] 112 (0, 0))) ∧ (w_.heap[b1]? = some (.cells #[.slice ada na ca, .bool b, .slice adh nh ch, .int .i64 (paid + (1 + (zB2 (zA0 s seg a).1))), .int .i64 0] 90 (0, 0))) ∧ (B0 ≤ w_.heap.size) ∧ (w_.ownsRow B0 23 1 (.slice ad3 n3 c3) ((if (zA0 s seg a).1.size = 5 then (zA0 s seg a).1.count else (zA0 s seg a).1.data).toNat) ((zJ6 s (zA0 s seg a).1.seg (zA0 s seg a).1.at_ ((if (zA0 s seg a).1.size = 5 then (zA0 s seg a).1.count else (zA0 s seg a).1.data).toNat)).map (.int .u64))) ∧ (w_.heap[b86]? = some (.cells #[.int .i64 ((zA0 s seg a).1.kind), .int .i64 ((zA0 s seg a).1.size), .slice ad3 n3 c3, .slice ad5 n5 c5, .slice none 0 0] 48 (0, 0))) ∧ (w_.ownsRow B0 5 1 (.slice ad5 n5 c5) i ((zR4 s (zA0 s seg a).1.seg (zA0 s seg a).1.at_ i).map (.int .u8))) ∧ Grow w w_) _ ⟨0, rfl, zC3 ⟨rfl, rfl, rfl, rfl, rfl, rfl, rfl, rfl, rfl, rfl, congrArg (Value.int .u64) (by simp), trivial⟩, by omega, hc10, hc17, hc30, hc63, hB0w, own, hc92, ownb, G⟩ ?_
       clear hc10 hc17 hc30 hc63 hB0w own hc92 ownb
       clear G
       rintro m_ e_ w138 ⟨q, rfl, ⟨e139, rfl⟩, hq, hc10, hc17, hc30, hc63, hB0w, own, hc92, ownb, G⟩
       have hxq := qU9 (s.word (zA0 s seg a).1.seg ((zA0 s seg a).1.at_ + (i : Int) / 8)).1 q hx.1 hx.2
       refine qZ 5 ?_
       refine stp (zO7 rfl rfl ?_ ?_ ?_); omega; omega
       refine stp (zF1 rfl rfl ?_)
       refine zA6 ?_
       refine zA2 (b := (decide ((q : Int) < ((i : Int) % 8)))) rfl (fun hlq => ?_) (fun hlq => ?_)
       ·
        replace hlq := qT hlq
        refine qZ 5 ?_
        refine stp (zY0 rfl rfl ?_ ?_ ?_ ?_); omega; omega; (constructor <;> omega)
        refine qZ 4 ?_
        refine stp (zB5 rfl rfl ?_ ?_); constructor <;> omega
        refine qZ 2 ?_
        refine ⟨_, ?_, q + 1, rfl, zC3 ⟨rfl, rfl, rfl, rfl, rfl, rfl, rfl, rfl, rfl, congrArg (Value.int .i64) (by omega), congrArg (Value.int .u64) (yF3 _ q), trivial⟩, by omega, hc10, hc17, hc30, hc63, hB0w, own, hc92, ownb, G⟩
        omega
       ·
        replace hlq := qF hlq
        have hq9 : q = i % 8 := by omega
        refine qZ 5 ?_
        refine stp (zO7 rfl rfl ?_ ?_ ?_); omega; omega
        refine stp (zG0 rfl ?_ ?_); constructor <;> omega
        refine stp (zC0 (cs := #[.int .u8 (((s.word (zA0 s seg a).1.seg ((zA0 s seg a).1.at_ + (i : Int) / 8)).1 / 2 ^ (8 * q)) % 256)]) (el := 5) (fun w => by kernel_rfl) ?_)
        intro bs140 w141 hb142 hc143 g144
        have hge145 := Nat.le_trans G.size hb142
        have ne146 := qN hc10 hb142
        have ne147 := qN hc17 hb142
        have ne148 := qN hc30 hb142
        have ne149 := qN hc63 hb142
        have ne150 := qN hc92 hb142
        replace hc10 := g144.heap hc10
        replace hc17 := g144.heap hc17
        replace hc30 := g144.heap hc30
        replace hc63 := g144.heap hc63
        replace hB0w := Nat.le_trans hB0w g144.size
        replace own := zB4 own g144
        replace hc92 := g144.heap hc92
        replace ownb := zB4 ownb g144
        replace G := G.tr g144
        clear g144
        refine stp (zG7 rfl rfl rfl rfl ownb (Row.of_block (n := 1) hc143 rfl rfl (by omega)) (fun q_ hq_ => by simp at hq_; subst hq_; rfl) (by simp only [maxLen]; omega) (by omega) hB0w ?_)
        intro v151 w152 own6 gr6
        replace G := G.grown gr6 (fun k_ hk_ => Nat.le_trans hwB0 (zH5 ownb k_ hk_))
        replace hB0w := Nat.le_trans hB0w gr6.size
        replace hc10 := zF5 gr6 hc10 (zD9 ownb hc10 (by decide))
        replace hc17 := zF5 gr6 hc17 (zD9 ownb hc17 (by decide))
        replace hc30 := zF5 gr6 hc30 (zD9 ownb hc30 (by decide))
        replace hc63 := zF5 gr6 hc63 (zD9 ownb hc63 (by decide))
        replace own := qS5 own ownb (by decide) gr6
        replace hc92 := zF5 gr6 hc92 (zD9 ownb hc92 (by decide))
        clear ownb gr6
        obtain ⟨ad4, n4, c4, rfl⟩ := zD7 own6
        refine qZ 1 ?_
        refine stn (zB9 (v := .slice ad4 n4 c4) rfl rfl (by rfl) hc92 (by rfl) (by rfl) ?_)
        intro w153 hc154 u155
        replace hc10 := u155.heap hc10 ne96
        replace hc17 := u155.heap hc17 ne97
        replace hc30 := u155.heap hc30 ne98
        replace hc63 := u155.heap hc63 ne99
        replace hB0w := Nat.le_trans hB0w (Nat.le_of_eq u155.size.symm)
        replace own := zF4 own u155 (zD9 own hc92 (by decide))
        replace own6 := zF4 own6 u155 (zD9 own6 hc92 (by decide))
        replace G := G.upd u155 hge95
        clear u155 hc92
        refine qZ 3 ?_
        refine stp (zB5 rfl rfl ?_ ?_); constructor <;> omega
        refine qZ 2 ?_
        refine ⟨_, ?_, i + 1, ad4, n4, c4, rfl, zC3 ⟨rfl, rfl, rfl, rfl, rfl, rfl, rfl, rfl, congrArg (Value.int .i64) (by omega), trivial⟩, by omega, by omega, hc10, hc17, hc30, hc63, hB0w, own, hc154, (by rw [yA2, List.map_append]; rw [hq9] at own6; exact own6), G⟩
        omega
      ·
       simp only [sb] at hlt
       have hi9 : (zA0 s seg a).1.size = 2 → i = (zA0 s seg a).1.count.toNat := by omega
       refine qZ 7 ?_
       obtain ⟨B, hB⟩ : ∃ B, B = w131.heap.size := ⟨_, rfl⟩
       have hwB : w.heap.size ≤ B := by rw [hB]; exact G.size
       have h0B : B0 ≤ B := by rw [hB]; exact hB0w
       have hBw : B ≤ w131.heap.size := by rw [hB]; exact Nat.le_refl _
       have hlt_b1 : b1 < B := by rw [hB]; exact zB3 hc63
       have hlt_b7 : b7 < B := by rw [hB]; exact zB3 hc10
       have hlt_b14 : b14 < B := by rw [hB]; exact zB3 hc17
       have hlt_b24 : b24 < B := by rw [hB]; exact zB3 hc30
       have hlt_b86 : b86 < B := by rw [hB]; exact zB3 hc92
       clear hB
       refine zF2 (fun m_ e_ w_ => ∃ (j : Nat) (pd : Int) (e : Int) (ks : List Nd) (ad6 : Option Addr) (n6 : Nat) (c6 : Nat) (kc : List Value) (V : Nat → Prop), m_ = (kidN (zA0 s seg a).1).toNat - j ∧ Fr [(3, .int .i64 (32 - (d : Int))), (4, .pointer (some ⟨b1, 0, none⟩)), (8, .pointer (some ⟨b7, 0, none⟩)), (9, .pointer (some ⟨b14, 0, none⟩)), (10, .pointer (some ⟨b24, 0, none⟩)), (12, .pointer (some ⟨b86, 0, none⟩)), (13, .int .i64 (if (zA0 s seg a).1.size = 5 then (zA0 s seg a).1.count else (zA0 s seg a).1.data)), (14, .int .i64 (kidN (zA0 s seg a).1)), (22, .int .i64 (j : Int))] e_ ∧ ((j : Int) ≤ kidN (zA0 s seg a).1) ∧ ((zI2 (zQ2 s d (zA0 s seg a).1.seg) (kidA (zA0 s seg a).1) (paid + (1 + zB2 (zA0 s seg a).1)) j).2.2 = e) ∧ (e = 0 → zI2 (zQ2 s d (zA0 s seg a).1.seg) (kidA (zA0 s seg a).1) (paid + (1 + zB2 (zA0 s seg a).1)) j = (pd, ks, 0)) ∧ (e = 0 → 0 ≤ pd ∧ pd ≤ 8192) ∧ (ks.length = j) ∧ (∀ x, (Value.slice ad6 n6 c6).ownBlock = some x → ¬ V x) ∧ (w_.heap[b7]? = some (.cells #[.slice none 0 0, .bool false, .slice none 0 0, .int .i64 0, .int .i64 0] 90 (0, 0))) ∧ (w_.heap[b14]? = some (.cells #[.int .i64 0, .int .i64 0, .slice none 0 0, .slice none 0 0, .slice none 0 0] 48 (0, 0))) ∧ (w_.heap[b24]? = some (.cells #[.int .i64 ((zA0 s seg a).1.kind), .int .i64 ((zA0 s seg a).1.seg), .int .i64 ((zA0 s seg a).1.at_), .int .i64 ((zA0 s seg a).1.data), .int .i64 ((zA0 s seg a).1.ptrs), .int .i64 ((zA0 s seg a).1.size), .int .i64 ((zA0 s seg a).1.count)] 112 (0, 0))) ∧ (B0 ≤ w_.heap.size) ∧ (w_.ownsRow B0 23 1 (.slice ad3 n3 c3) ((if (zA0 s seg a).1.size = 5 then (zA0 s seg a).1.count else (zA0 s seg a).1.data).toNat) ((zJ6 s (zA0 s seg a).1.seg (zA0 s seg a).1.at_ ((if (zA0 s seg a).1.size = 5 then (zA0 s seg a).1.count else (zA0 s seg a).1.data).toNat)).map (.int .u64))) ∧ (w_.ownsRow B0 5 1 (.slice ad5 n5 c5) i ((zR4 s (zA0 s seg a).1.seg (zA0 s seg a).1.at_ i).map (.int .u8))) ∧ (B ≤ w_.heap.size) ∧ (w_.heap[b86]? = some (.cells #[.int .i64 ((zA0 s seg a).1.kind), .int .i64 ((zA0 s seg a).1.size), .slice ad3 n3 c3, .slice ad5 n5 c5, .slice ad6 n6 c6] 48 (0, 0))) ∧ (w_.heap[b1]? = some (.cells #[.slice ada na ca, .bool b, .slice adh nh ch, .int .i64 pd, .int .i64 e] 90 (0, 0))) ∧ (w_.ownsRow B 48 5 (.slice ad6 n6 c6) j kc) ∧ (∀ x, V x → B ≤ x ∧ x < w_.heap.size) ∧ (KidsR (see V w_) kc ks) ∧ Grow w w_) _ ⟨0, (paid + (1 + zB2 (zA0 s seg a).1)), 0, [], none, 0, 0, [], fun _ => False, rfl, zC3 ⟨rfl, rfl, rfl, rfl, rfl, rfl, rfl, rfl, rfl, trivial⟩, by omega, rfl, fun _ => rfl, fun _ => by omega, rfl, fun x _ h_ => h_, hc10, hc17, hc30, hB0w, own, ownb, hBw, hc92, hc63, World.ownsRow_nil _ _ _ _, fun x h_ => h_.elim, .nil, G⟩ ?_
       clear hc10 hc17 hc30 hc63 hB0w own hc92 ownb hBw
       clear G
       rintro m_ e_ w156 ⟨j, pd, e, ks, ad6, n6, c6, kc, V, rfl, ⟨e157, rfl⟩, hj, hke, hkd, hpd, hlk, hVo, hc10, hc17, hc30, hB0w, own, ownb, hBw, hc92, hc63, ownk, hV, hK, G⟩
       refine qZ 5 ?_
       refine stp (zF1 rfl rfl ?_)
       refine qZ 1 ?_
       refine qG 2 ?_
       refine zA3 (zB0 (s := .bool _) (v := .bool (decide (e = 0))) rfl (zE1 _) (fun hc160 => ?_) ?_)
       ·
        have hc160_ := qT hc160
        refine zC7 (gvt hc160) rfl ?_
        exact ⟨rfl, rfl⟩
       refine stp (zE8 rfl rfl rfl ?_)
       refine zA6 ?_
       refine zA2 (b := ((decide ((j : Int) < (kidN (zA0 s seg a).1))) && (decide (e = 0)))) rfl (fun hlt => ?_) (fun hlt => ?_)
       ·
        simp only [sb] at hlt
        obtain ⟨hlj, he0⟩ := hlt
        subst he0
        replace hkd := hkd rfl
        replace hpd := hpd rfl
        obtain ⟨d1, hd1⟩ := yE8 hok h2n (j := j) (by omega)
        have hnf : zQ2 s d = zE9 s d1 := by rw [hd1]; rfl
        have hka : 0 ≤ kidA (zA0 s seg a).1 ∧ kidA (zA0 s seg a).1 ≤ 140737488420864 := by unfold kidA; split <;> omega
        have hq := qJ8 (fun seg a => H.follow_range seg a) d1 (zA0 s seg a).1.seg (kidA (zA0 s seg a).1 + (j : Int)) pd hpd.1 hpd.2
        have hj1 : zI2 (zQ2 s d (zA0 s seg a).1.seg) (kidA (zA0 s seg a).1) (paid + (1 + zB2 (zA0 s seg a).1)) (j + 1) = ((zE9 s d1 (zA0 s seg a).1.seg (kidA (zA0 s seg a).1 + (j : Int)) pd).1, ks ++ [(zE9 s d1 (zA0 s seg a).1.seg (kidA (zA0 s seg a).1 + (j : Int)) pd).2.1], (zE9 s d1 (zA0 s seg a).1.seg (kidA (zA0 s seg a).1 + (j : Int)) pd).2.2) := by rw [zI2, hkd, if_neg (by simp), hnf]
        have hmul := yQ2 hok
        refine qZ 13 ?_
        refine stp (zM6 rfl rfl ?_ ?_); constructor <;> omega
        refine stp ?_
        refine zY9 rfl rfl ?_ ?_; (rw [hmul]; constructor <;> omega)
        rw [hmul]
        refine stp (zB5 rfl rfl ?_ ?_); constructor <;> omega
        refine qZ 1 ?_
        refine stp ?_
        refine zB5 rfl rfl ?_ ?_; constructor <;> omega
        rw [show (zA0 s seg a).1.at_ + (kidA (zA0 s seg a).1 - (zA0 s seg a).1.at_) + (j : Int) = kidA (zA0 s seg a).1 + (j : Int) from by omega]
        refine qZ 1 ?_
        refine stp ?_
        refine zB5 rfl rfl ?_ ?_; constructor <;> omega
        rw [show 32 - (d : Int) + 1 = 32 - (d1 : Int) from by omega]
        refine stp ?_
        have hBw0 := hBw
        have hol := fun x hx_ => (ownk.lt x hx_).2
        have hcal := ih_ _ (H.grow G) (seg := (zA0 s seg a).1.seg) (a := kidA (zA0 s seg a).1 + (j : Int)) (paid := pd) (by simp only [inR]; omega) (by omega) (by omega) hpd.1 hpd.2 (d := d1) (by omega) (by omega)
        refine zD6 rfl hcal ?_
        rintro v_ w161 ⟨pd9, cells, t9, rfl, hT9, h9, g_⟩
        clear hcal
        replace hc10 := g_.heap hc10
        replace hc17 := g_.heap hc17
        replace hc30 := g_.heap hc30
        replace hB0w := Nat.le_trans hB0w g_.size
        replace own := zB4 own g_
        replace ownb := zB4 ownb g_
        replace hBw := Nat.le_trans hBw g_.size
        replace hc92 := g_.heap hc92
        replace hc63 := g_.heap hc63
        replace ownk := zB4 ownk g_
        replace hV := vlt hV g_.size
        replace hK := hK.sees (Sees.grow g_)
        replace G := G.tr g_
        clear g_
        obtain ⟨y0, y1, ya, yn, yc, za, zn, zc, ua9, un, uc, rfl⟩ := hT9.cells
        have hT8 := hT9.sees (Sees.more (V' := fun x => V x ∨ (w156.heap.size ≤ x ∧ x < w161.heap.size)) w161 (fun x h1_ h2_ => .inr ⟨h2_, h1_⟩))
        clear hT9
        replace hK := hK.sees (Sees.more (V' := fun x => V x ∨ (w156.heap.size ≤ x ∧ x < w161.heap.size)) w161 (fun x _ h2_ => .inl h2_))
        have hV9 : ∀ x, (V x ∨ (w156.heap.size ≤ x ∧ x < w161.heap.size)) → B ≤ x ∧ x < w161.heap.size := fun x hx_ => hx_.elim (fun h_ => hV x h_) (fun h_ => ⟨Nat.le_trans hBw0 h_.1, h_.2⟩)
        have hVo9 : ∀ x, (Value.slice ad6 n6 c6).ownBlock = some x → ¬ (V x ∨ (w156.heap.size ≤ x ∧ x < w161.heap.size)) := fun x hx_ hv_ => hv_.elim (hVo x hx_) (fun h_ => by have := (hol x hx_); omega)
        clear hV hVo
        obtain ⟨V9, hV9e⟩ : ∃ V9 : Nat → Prop, V9 = fun x => V x ∨ (w156.heap.size ≤ x ∧ x < w161.heap.size) := ⟨_, rfl⟩
        rw [← hV9e] at hT8 hK
        have hV : ∀ x, V9 x → B ≤ x ∧ x < w161.heap.size := by rw [hV9e]; exact hV9
        have hVo : ∀ x, (Value.slice ad6 n6 c6).ownBlock = some x → ¬ V9 x := by rw [hV9e]; exact hVo9
        clear hV9 hVo9 hV9e hBw0 hol
        refine qZ 3 ?_
        refine stp (zA8 ?_)
        intro b162a w162a hb162a hc162a g162a
        refine stp (zA8 ?_)
        intro b162b w162b hb162b hc162b g162b
        have n162 : b162a ≠ b162b := qN hc162a hb162b
        refine stn (zJ9 rfl rfl (g162b.heap hc162a) (by rfl) (by rfl) (by rfl) ?_)
        intro w162c hd162a u162a
        refine stn (zJ9 rfl rfl (u162a.heap hc162b n162.symm) (by rfl) (by rfl) (by rfl) ?_)
        intro w162d he162b u162b
        have he162a := u162b.heap hd162a n162
        have hx162 := Nat.le_trans g162a.size hb162b
        have gx162 := ((g162a.tr g162b).upd u162a hb162a).upd u162b hx162
        clear hc162a hc162b hd162a u162a u162b g162a g162b
        have hge163 := Nat.le_trans G.size hb162a
        have ne164 := qN hc10 hb162a
        have ne165 := qN hc17 hb162a
        have ne166 := qN hc30 hb162a
        have ne167 := qN hc92 hb162a
        have ne168 := qN hc63 hb162a
        have hge169 := Nat.le_trans G.size hx162
        have ne170 := qN hc10 hx162
        have ne171 := qN hc17 hx162
        have ne172 := qN hc30 hx162
        have ne173 := qN hc92 hx162
        have ne174 := qN hc63 hx162
        replace hc10 := gx162.heap hc10
        replace hc17 := gx162.heap hc17
        replace hc30 := gx162.heap hc30
        replace hB0w := Nat.le_trans hB0w gx162.size
        replace own := zB4 own gx162
        replace ownb := zB4 ownb gx162
        replace hBw := Nat.le_trans hBw gx162.size
        replace hc92 := gx162.heap hc92
        replace hc63 := gx162.heap hc63
        replace ownk := zB4 ownk gx162
        replace hV := vlt hV gx162.size
        replace hK := hK.sees (Sees.grow gx162)
        replace hT8 := hT8.sees (Sees.grow gx162)
        replace G := G.tr gx162
        clear gx162
        refine qZ 4 ?_
        refine stn (qS hc63 ?_)
        intro w175 hc176 u177
        replace hc10 := u177.heap hc10 ne13.symm
        replace hc17 := u177.heap hc17 ne20.symm
        replace hc30 := u177.heap hc30 ne34.symm
        replace hB0w := Nat.le_trans hB0w (Nat.le_of_eq u177.size.symm)
        replace own := zF4 own u177 (zD9 own hc63 (by decide))
        replace ownb := zF4 ownb u177 (zD9 ownb hc63 (by decide))
        replace hBw := Nat.le_trans hBw (Nat.le_of_eq u177.size.symm)
        replace hc92 := u177.heap hc92 ne99.symm
        replace ownk := zF4 ownk u177 (fun he_ => by have := zH5 ownk _ he_; omega)
        replace hV := vlt hV (Nat.le_of_eq u177.size.symm)
        replace hK := hK.sees (Sees.upd u177 (fun h_ => by have := (hV _ h_).1; omega))
        replace hT8 := hT8.sees (Sees.upd u177 (fun h_ => by have := (hV _ h_).1; omega))
        replace he162a := u177.heap he162a ne168.symm
        replace he162b := u177.heap he162b ne174.symm
        replace G := G.upd u177 hge6
        clear u177 hc63
        refine qZ 5 ?_
        refine stp (zC0 (cs := #[.int .i64 y0, .int .i64 y1, .slice ya yn yc, .slice za zn zc, .slice ua9 un uc]) (el := 48) (fun w => by kernel_rfl) ?_)
        intro bs178 w179 hb180 hc181 g182
        have hge183 := Nat.le_trans G.size hb180
        have ne184 := qN hc10 hb180
        have ne185 := qN hc17 hb180
        have ne186 := qN hc30 hb180
        have ne187 := qN hc92 hb180
        have ne188 := qN he162a hb180
        have ne189 := qN he162b hb180
        have ne190 := qN hc176 hb180
        replace hc10 := g182.heap hc10
        replace hc17 := g182.heap hc17
        replace hc30 := g182.heap hc30
        replace hB0w := Nat.le_trans hB0w g182.size
        replace own := zB4 own g182
        replace ownb := zB4 ownb g182
        replace hBw := Nat.le_trans hBw g182.size
        replace hc92 := g182.heap hc92
        replace ownk := zB4 ownk g182
        replace hV := vlt hV g182.size
        replace hK := hK.sees (Sees.grow g182)
        replace hT8 := hT8.sees (Sees.grow g182)
        replace he162a := g182.heap he162a
        replace he162b := g182.heap he162b
        replace hc176 := g182.heap hc176
        replace G := G.tr g182
        clear g182
        refine stp (zS4 rfl rfl rfl rfl ownk (Row.of_block (n := 1) hc181 rfl rfl (by omega)) (fun q_ hq_ => by simp at hq_; rcases hq_ with rfl | rfl | rfl | rfl | rfl <;> rfl) (by simp only [maxLen]; omega) (by omega) hBw ?_)
        intro v191 w192 own6 gr6 hbk6
        have k6_ : Kp (Value.slice ad6 n6 c6).ownBlock.toList w179 w192 := Kp.of_grownBy gr6 (fun k_ hk_ => by rw [Option.mem_toList]; exact hk_)
        have hF6 : ∀ x ∈ (Value.slice ad6 n6 c6).ownBlock.toList, B ≤ x := fun x hx_ => zH5 ownk x (Option.mem_toList.1 hx_)
        have hF7 : ∀ x ∈ (Value.slice ad6 n6 c6).ownBlock.toList, ¬ V9 x := fun x hx_ => hVo x (Option.mem_toList.1 hx_)
        have hVo6 : ∀ x, v191.ownBlock = some x → ¬ V9 x := fun x hx_ hv_ => hbk6.elim (fun h_ => hVo x (h_ ▸ hx_) hv_) (fun h_ => by rw [h_] at hx_; simp only [Option.some.injEq] at hx_; have := (hV x hv_).2; omega)
        replace G := G.trK k6_ (fun x hx_ => Nat.le_trans hwB (hF6 x hx_))
        replace hc10 := k6_.heap hc10 (fun hm_ => by have h1_ := hF6 _ hm_; omega)
        replace hc17 := k6_.heap hc17 (fun hm_ => by have h1_ := hF6 _ hm_; omega)
        replace hc30 := k6_.heap hc30 (fun hm_ => by have h1_ := hF6 _ hm_; omega)
        replace hB0w := Nat.le_trans hB0w k6_.size
        replace own := qS5 own ownk (by decide) gr6
        replace ownb := qS5 ownb ownk (by decide) gr6
        replace hBw := Nat.le_trans hBw k6_.size
        replace hc92 := k6_.heap hc92 (fun hm_ => by have h1_ := hF6 _ hm_; omega)
        replace hV := fun x hx_ => (⟨(hV x hx_).1, Nat.lt_of_lt_of_le (hV x hx_).2 k6_.size⟩ : B ≤ x ∧ x < w192.heap.size)
        replace hK := hK.sees (Sees.kp k6_ hF7)
        replace hT8 := hT8.sees (Sees.kp k6_ hF7)
        clear he162a
        clear he162b
        replace hc176 := k6_.heap hc176 (fun hm_ => by have h1_ := hF6 _ hm_; omega)
        clear ownk gr6 hVo k6_ hF6 hF7 hbk6
        obtain ⟨ad7, n7, c7, rfl⟩ := zD7 own6
        refine qZ 1 ?_
        refine stn (zB9 (v := .slice ad7 n7 c7) rfl rfl (by rfl) hc92 (by rfl) (by rfl) ?_)
        intro w193 hc194 u195
        replace hc10 := u195.heap hc10 ne96
        replace hc17 := u195.heap hc17 ne97
        replace hc30 := u195.heap hc30 ne98
        replace hB0w := Nat.le_trans hB0w (Nat.le_of_eq u195.size.symm)
        replace own := zF4 own u195 (zD9 own hc92 (by decide))
        replace ownb := zF4 ownb u195 (zD9 ownb hc92 (by decide))
        replace hBw := Nat.le_trans hBw (Nat.le_of_eq u195.size.symm)
        replace hV := vlt hV (Nat.le_of_eq u195.size.symm)
        replace hK := hK.sees (Sees.upd u195 (fun h_ => by have := (hV _ h_).1; omega))
        replace hT8 := hT8.sees (Sees.upd u195 (fun h_ => by have := (hV _ h_).1; omega))
        replace hc176 := u195.heap hc176 ne99
        replace own6 := zF4 own6 u195 (fun he_ => by have := zH5 own6 _ he_; omega)
        replace G := G.upd u195 hge95
        clear u195 hc92
        refine qZ 3 ?_
        refine stp (zB5 rfl rfl ?_ ?_); constructor <;> omega
        refine qZ 2 ?_
        refine ⟨_, ?_, j + 1, pd9, (zE9 s d1 (zA0 s seg a).1.seg (kidA (zA0 s seg a).1 + (j : Int)) pd).2.2, ks ++ [t9], ad7, n7, c7, _, V9, rfl, zC3 ⟨rfl, rfl, rfl, rfl, rfl, rfl, rfl, rfl, congrArg (Value.int .i64) (by omega), trivial⟩, by omega, by rw [hj1], fun h_ => by rw [hj1, h_, (h9 h_).1, (h9 h_).2], fun h_ => by rw [(h9 h_).1]; exact ⟨hq.1, hq.2.2 h_⟩, by simp [hlk], hVo6, hc10, hc17, hc30, hB0w, own, ownb, hBw, hc194, hc176, own6, hV, (KidsR.append hK (by have := KidsR.cons hT8 .nil; simpa using this)), G⟩
        omega
       ·
        simp only [sb] at hlt
        have hend : ¬ ((j : Int) < kidN (zA0 s seg a).1 ∧ e = 0) := by omega
        obtain ⟨hfe, hfi⟩ := yQ4 h3 h2n h3n hj hke hkd hend
        have hrk : Row (hide B w156) 5 (.slice ad6 n6 c6) ks.length kc := by rw [hlk]; exact zO9 ownk (by omega)
        have hK9 := hK.sees (Sees.more (V' := fun x => B ≤ x) _ (fun x _ hx_ => (hV x hx_).1))
        have hRW : Row (hide B0 w156) 1 (.slice ad3 n3 c3) (nodL s (zA0 s seg a).1).length ((nodL s (zA0 s seg a).1).map (.int .u64)) := by unfold nodL; rw [zG8]; exact zO9 own (by omega)
        have hRB : Row (hide B0 w156) 1 (.slice ad5 n5 c5) (nodB s (zA0 s seg a).1).length ((nodB s (zA0 s seg a).1).map (.int .u8)) := by
         have h_ := zO9 ownb (by omega)
         unfold nodB; split
         ·rename_i hz; rw [zL0, ← hi9 hz]; exact h_
         ·rename_i hz; have hi0 : i = 0 := by omega
          subst hi0; exact h_
        have hTn : NodeR (hide B0 w156) [.int .i64 (zA0 s seg a).1.kind, .int .i64 (zA0 s seg a).1.size, .slice ad3 n3 c3, .slice ad5 n5 c5, .slice ad6 n6 c6] (.mk (zA0 s seg a).1.kind (zA0 s seg a).1.size (nodL s (zA0 s seg a).1) (nodB s (zA0 s seg a).1) ks) := .mk (by simp only [inR]; omega) (by simp only [inR]; omega) hRW (yA3 hun _ _ _) hRB (yO9 s _) (hrk.sees (Sees.low h0B _)) (hK9.sees (Sees.low h0B _))
        clear hK hV ownk own ownb hRW hRB hrk hK9
        refine qZ 2 ?_
        have kb_hc17 : ∀ w_, Kp [b7] w156 w_ → w_.heap[b14]? = some (.cells #[.int .i64 0, .int .i64 0, .slice none 0 0, .slice none 0 0, .slice none 0 0] 48 (0, 0)) := fun w_ k_ => k_.heap hc17 (fun hm_ => by simp only [List.mem_singleton] at hm_; first | exact ne21 hm_ | exact ne21 hm_.symm)
        have kb_hc63 : ∀ w_, Kp [b7] w156 w_ → w_.heap[b1]? = some (.cells #[.slice ada na ca, .bool b, .slice adh nh ch, .int .i64 pd, .int .i64 e] 90 (0, 0)) := fun w_ k_ => k_.heap hc63 (fun hm_ => by simp only [List.mem_singleton] at hm_; first | exact ne13 hm_ | exact ne13 hm_.symm)
        have kb_hc92 : ∀ w_, Kp [b7] w156 w_ → w_.heap[b86]? = some (.cells #[.int .i64 ((zA0 s seg a).1.kind), .int .i64 ((zA0 s seg a).1.size), .slice ad3 n3 c3, .slice ad5 n5 c5, .slice ad6 n6 c6] 48 (0, 0)) := fun w_ k_ => k_.heap hc92 (fun hm_ => by simp only [List.mem_singleton] at hm_; first | exact ne96 hm_ | exact ne96 hm_.symm)
        have kb_G : ∀ w_, Kp [b7] w156 w_ → Grow w w_ := fun w_ k_ => G.trK k_ (fun x_ hx_ => by simp only [List.mem_singleton] at hx_; subst hx_; exact hge12)
        have kb_hTn : ∀ w_, Kp [b7] w156 w_ → NodeR (hide B0 w_) [.int .i64 (zA0 s seg a).1.kind, .int .i64 (zA0 s seg a).1.size, .slice ad3 n3 c3, .slice ad5 n5 c5, .slice ad6 n6 c6] (.mk (zA0 s seg a).1.kind (zA0 s seg a).1.size (nodL s (zA0 s seg a).1) (nodB s (zA0 s seg a).1) ks) := fun w_ k_ => hTn.sees (Sees.kp k_ (fun x_ hx_ hv_ => by simp only [List.mem_singleton] at hx_; subst hx_; omega))
        refine yO0 3 [[], [], [1]] [2] [b7] (fun k_ w_ => match k_ with | 0 => w_.heap[b7]? = some (.cells #[.slice none 0 0, .bool false, .slice none 0 0, .int .i64 0, .int .i64 0] 90 (0, 0)) | _ => w_.heap[b7]? = some (.cells #[.slice ada na ca, .bool b, .slice adh nh ch, .int .i64 pd, .int .i64 e] 90 (0, 0))) mixed (by kernel_rfl) (by kernel_rfl) (by kernel_rfl) (by kernel_rfl) (fun k_ w_ w2_ g_ h_ => match k_, h_ with | 0, h_ => g_.heap h_ | n_ + 1, h_ => g_.heap h_) (fun w_ g_ => g_.heap hc10) ?_
        intro w196 g197
        replace kb_hc17 : ∀ w_, Kp [b7] w196 w_ → w_.heap[b14]? = some (.cells #[.int .i64 0, .int .i64 0, .slice none 0 0, .slice none 0 0, .slice none 0 0] 48 (0, 0)) := fun w_ k_ => kb_hc17 w_ (g197.kp.tr k_)
        replace kb_hc63 : ∀ w_, Kp [b7] w196 w_ → w_.heap[b1]? = some (.cells #[.slice ada na ca, .bool b, .slice adh nh ch, .int .i64 pd, .int .i64 e] 90 (0, 0)) := fun w_ k_ => kb_hc63 w_ (g197.kp.tr k_)
        replace kb_hc92 : ∀ w_, Kp [b7] w196 w_ → w_.heap[b86]? = some (.cells #[.int .i64 ((zA0 s seg a).1.kind), .int .i64 ((zA0 s seg a).1.size), .slice ad3 n3 c3, .slice ad5 n5 c5, .slice ad6 n6 c6] 48 (0, 0)) := fun w_ k_ => kb_hc92 w_ (g197.kp.tr k_)
        replace kb_G : ∀ w_, Kp [b7] w196 w_ → Grow w w_ := fun w_ k_ => kb_G w_ (g197.kp.tr k_)
        replace kb_hTn : ∀ w_, Kp [b7] w196 w_ → NodeR (hide B0 w_) [.int .i64 (zA0 s seg a).1.kind, .int .i64 (zA0 s seg a).1.size, .slice ad3 n3 c3, .slice ad5 n5 c5, .slice ad6 n6 c6] (.mk (zA0 s seg a).1.kind (zA0 s seg a).1.size (nodL s (zA0 s seg a).1) (nodB s (zA0 s seg a).1) ks) := fun w_ k_ => kb_hTn w_ (g197.kp.tr k_)
        have k0_ : Kp [b7] w156 w196 := g197.kp
        apply qI5 (hm := by rfl)
        ·intro w_ g_; exact og rfl (zD2 rfl (kb_hc63 _ g_) (by rfl) qX)
        apply qI5 (hm := by rfl)
        ·intro w_ g_; exact og rfl (zD2 rfl (kb_hc92 _ g_) (by rfl) qX)
        apply qY4 0 (hm := by rfl)
        ·intro w_ g_ s_
         refine og rfl ?_
         refine qS s_ ?_
         intro w2_ s2_ u_
         exact ⟨Kp.of_upd u_ (by simp), s2_, rfl⟩
        refine qY5 ?_
        intro w198 g199 S_
        replace k0_ := (k0_.tr g199)
        have hc8x := S_
        clear S_
        replace hc17 := kb_hc17 _ g199
        clear kb_hc17
        replace hc63 := kb_hc63 _ g199
        clear kb_hc63
        replace hc92 := kb_hc92 _ g199
        clear kb_hc92
        replace G := kb_G _ g199
        clear kb_G
        replace hTn := kb_hTn _ g199
        clear kb_hTn
        refine stn (qS hc17 ?_)
        intro w200 hc201 u202
        replace hc92 := u202.heap hc92 ne97.symm
        replace hc63 := u202.heap hc63 ne20
        replace hTn := hTn.sees (Sees.upd u202 (fun h_ => by omega))
        replace hc8x := u202.heap hc8x ne21
        replace G := G.upd u202 hge19
        clear u202 hc17
        refine qZ 2 ?_
        rw [hfe]
        refine ret2 (zA5 rfl hc8x (by rfl)) (zA5 rfl hc201 (by rfl)) ⟨pd, _, _, rfl, hTn.sees (Sees.low hwB0 _), hfi, G⟩
theorem qP8 (w : World) {u : Value} {A : List (List Int)} (hA : zG5 w u A) (hn : A.length ≤ 8796093022208) (hx : ∀ q ∈ A, ∀ x ∈ q, inR .u64 x) : Calls Tryz.prog 17 #[u] w (Ret fun v w' => ∃ cells, v = .tuple #[.agg cells.toArray, .int .i64 (decT A).2] ∧ NodeR (hide w.heap.size w') cells (decT A).1 ∧ Grow w w') := by
 have hA0 := hA
 obtain ⟨ada, ca, segs, sa, sc, rfl, hca, hca2, RA, hsf, hrf⟩ := hA.fn
 have hs : ∀ i, len2 A i ≤ 140737488355328 := fun i => by by_cases hi : i < A.length; exact (hrf i hi).2.2.lim; (have := zP8 (A := A) (j := i) (by omega); omega)
 have G := Grow.rfl' w
 refine zC2 Tryz.func17 Tryz.ntmps17 Tryz.results17 rfl rfl ?_
 refine qZ 2 ?_
 refine stp (zA8 ?_)
 intro b1 w2 hb3 hc4 g5
 refine qZ 6 ?_
 have hge6 := Nat.le_trans G.size hb3
 replace G := G.tr g5
 clear g5 hb3
 refine stp (zA4 (v := .bool (zD1 A)) rfl (qD1 _ (hA0.grow G) hn) ?_)
 intro w7 g8
 replace hc4 := g8.heap hc4
 replace G := G.tr g8
 clear g8
 refine stp (zN7 rfl ?_)
 refine zA6 ?_
 refine zA2 (b := (!(zD1 A))) rfl (fun h1 => ?_) (fun h1 => ?_)
 ·
  simp only [sb] at h1
  have h9 : decT A = (.nil, 1) := if_pos (by simpa using h1)
  refine qZ 2 ?_
  refine stp (zA7 (v := .agg #[.int .i64 0, .int .i64 0, .slice none 0 0, .slice none 0 0, .slice none 0 0]) (fun w => by kernel_rfl) ?_)
  refine stn (qS hc4 ?_)
  intro w9 hc10 u11
  replace G := G.upd u11 hge6
  clear u11 hc4
  refine qZ 3 ?_
  rw [h9]
  refine ret2 (zA5 rfl hc10 (by rfl)) (zA1 (v := .int .i64 1) rfl) ⟨[_, _, _, _, _], rfl, NodeR.zero _, G⟩
 ·
  simp only [sb] at h1
  have h1' : zD1 A = true := by simpa using h1
  have hr : OkA A := qT7 h1' hx
  have h9 : decT A = (zE9 (zB7 A) 32 0 0 0).2 := if_neg (by simp [h1'])
  rw [h9]
  have hl16 := hr.most
  refine qZ 4 ?_
  refine stp (zA7 (v := .agg #[.slice ada A.length ca, .bool false, .slice none 0 0]) (fun w => by kernel_rfl) ?_)
  refine stp (zA7 (v := .agg #[.slice ada A.length ca, .bool false, .slice none 0 0, .int .i64 0, .int .i64 0]) (fun w => by kernel_rfl) ?_)
  refine stp ?_
  have H := qN2 (uh := .slice none 0 0) (hA0.grow G) (by omega) hx hs
  have hcal := yA5 _ w7 H (seg := 0) (a := 0) (paid := 0) (by simp [inR]) (by decide) (by decide) (by decide) (by decide) (d := 32) (by decide) (Nat.le_refl _)
  rw [show (32 - ((32 : Nat) : Int)) = 0 from by decide] at hcal
  have hlow := G.size
  have hlt1 := zB3 hc4
  refine zD6 rfl hcal ?_
  rintro v_ w12 ⟨pd9, cells, t9, rfl, hT9, ht9, g_⟩
  clear hcal H
  replace hc4 := g_.heap hc4
  replace G := G.tr g_
  clear g_
  obtain ⟨y0, y1, ya, yn, yc, za, zn, zc, ua, un, uc, rfl⟩ := hT9.cells
  refine qZ 3 ?_
  refine stp (zA8 ?_)
  intro b13a w13a hb13a hc13a g13a
  refine stp (zA8 ?_)
  intro b13b w13b hb13b hc13b g13b
  have n13 : b13a ≠ b13b := qN hc13a hb13b
  refine stn (zJ9 rfl rfl (g13b.heap hc13a) (by rfl) (by rfl) (by rfl) ?_)
  intro w13c hd13a u13a
  refine stn (zJ9 rfl rfl (u13a.heap hc13b n13.symm) (by rfl) (by rfl) (by rfl) ?_)
  intro w13d he13b u13b
  have he13a := u13b.heap hd13a n13
  have hx13 := Nat.le_trans g13a.size hb13b
  have gx13 := ((g13a.tr g13b).upd u13a hb13a).upd u13b hx13
  clear hc13a hc13b hd13a u13a u13b g13a g13b
  have hge14 := Nat.le_trans G.size hb13a
  have ne15 := qN hc4 hb13a
  have hge16 := Nat.le_trans G.size hx13
  have ne17 := qN hc4 hx13
  replace hc4 := gx13.heap hc4
  replace hT9 := hT9.sees (Sees.grow gx13)
  replace G := G.tr gx13
  clear gx13
  refine qZ 6 ?_
  refine stp (zG1 rfl rfl ?_)
  refine zA6 ?_
  refine zA2 (b := (decide (((zE9 (zB7 A) 32 0 0 0).2.2) ≠ 0))) rfl (fun h2 => ?_) (fun h2 => ?_)
  ·
   replace h2 := qT h2
   refine qA7 ?_
   have kb_he13a : ∀ w_, Kp [b1] w13d w_ → w_.heap[b13a]? = some (.cells #[.slice ada A.length ca, .bool false, .slice none 0 0, .int .i64 pd9, .int .i64 ((zE9 (zB7 A) 32 0 0 0).2.2)] 90 (0, 0)) := fun w_ k_ => k_.heap he13a (fun hm_ => by simp only [List.mem_singleton] at hm_; first | exact ne15 hm_ | exact ne15 hm_.symm)
   have kb_G : ∀ w_, Kp [b1] w13d w_ → Grow w w_ := fun w_ k_ => G.trK k_ (fun x_ hx_ => by simp only [List.mem_singleton] at hx_; subst hx_; exact hge6)
   refine yO0 4 [[], [], [0], [2]] [3] [b1] (fun k_ w_ => match k_ with | 0 => w_.heap[b1]? = some (.cells #[.int .i64 0, .int .i64 0, .slice none 0 0, .slice none 0 0, .slice none 0 0] 48 (0, 0)) | _ => w_.heap[b1]? = some (.cells #[.int .i64 0, .int .i64 0, .slice none 0 0, .slice none 0 0, .slice none 0 0] 48 (0, 0))) mixed (by kernel_rfl) (by kernel_rfl) (by kernel_rfl) (by kernel_rfl) (fun k_ w_ w2_ g_ h_ => match k_, h_ with | 0, h_ => g_.heap h_ | n_ + 1, h_ => g_.heap h_) (fun w_ g_ => g_.heap hc4) ?_
   intro w18 g19
   replace kb_he13a : ∀ w_, Kp [b1] w18 w_ → w_.heap[b13a]? = some (.cells #[.slice ada A.length ca, .bool false, .slice none 0 0, .int .i64 pd9, .int .i64 ((zE9 (zB7 A) 32 0 0 0).2.2)] 90 (0, 0)) := fun w_ k_ => kb_he13a w_ (g19.kp.tr k_)
   replace kb_G : ∀ w_, Kp [b1] w18 w_ → Grow w w_ := fun w_ k_ => kb_G w_ (g19.kp.tr k_)
   have k0_ : Kp [b1] w13d w18 := g19.kp
   apply qI5 (hm := by rfl)
   ·intro w_ g_; exact og rfl (zA7 (v := .agg #[.int .i64 0, .int .i64 0, .slice none 0 0, .slice none 0 0, .slice none 0 0]) (fun w => by kernel_rfl) qX)
   refine qM 1 ?_
   apply qI5 (hm := by rfl)
   ·intro w_ g_; exact og rfl (zG2 (v := .int .i64 ((zE9 (zB7 A) 32 0 0 0).2.2)) rfl (kb_he13a _ g_) rfl qX)
   apply qY4 0 (hm := by rfl)
   ·intro w_ g_ s_
    refine og rfl ?_
    refine qS s_ ?_
    intro w2_ s2_ u_
    exact ⟨Kp.of_upd u_ (by simp), s2_, rfl⟩
   refine qY5 ?_
   intro w20 g21 S_
   replace k0_ := (k0_.tr g21)
   have hc2x := S_
   clear S_
   replace he13a := kb_he13a _ g21
   clear kb_he13a
   replace G := kb_G _ g21
   clear kb_G
   refine qZ 3 ?_
   have hz := yQ3 h2
   rw [hz]
   refine ret2 (zA5 rfl hc2x (by rfl)) (zA1 (v := .int .i64 ((zE9 (zB7 A) 32 0 0 0).2.2)) rfl) ⟨[_, _, _, _, _], rfl, NodeR.zero _, G⟩
  ·
   replace h2 := qF h2
   have he0 : (zE9 (zB7 A) 32 0 0 0).2.2 = 0 := by omega
   refine qZ 4 ?_
   refine stn (qS hc4 ?_)
   intro w22 hc23 u24
   replace hT9 := hT9.sees (Sees.upd u24 (fun h_ => absurd h_ (Nat.not_le.2 hlt1)))
   replace he13a := u24.heap he13a ne15.symm
   replace he13b := u24.heap he13b ne17.symm
   replace G := G.upd u24 hge6
   clear u24 hc4
   refine qZ 3 ?_
   have ht8 := (ht9 he0).2
   rw [← ht8, he0]
   refine ret2 (zA5 rfl hc23 (by rfl)) (zA1 (v := .int .i64 0) rfl) ⟨_, rfl, hT9.sees (Sees.low hlow _), G⟩
end Go.Proofs.YtkkbbhpbcfcplaaGreat.K
namespace Go.Proofs.YtkkbbhpbcfcplaaGreat.K
open Go Go.RowKit
section
variable {P : Program} {ops : Array Oper} {Q : Ex → Env → World → Prop} {e : Env} {w : World} {K : Value → World → Prop} {r : List Oper}
variable {d : Option Nat} {ty : TypeId} {pos : String} {af : Array Edge} {g : Option (Nat × Bool)}
variable {t u : TypeId} {x y z : Operand}
theorem qN4 {n c : Nat} {ad : Option Addr} {el : TypeId} {xs : List Int} [hui : ElI P t el 1] [hei : IntI P el .u8] [hsi : StrI P u] (R : RowAt w 1 ad n (xs.map (.int .u8))) (hx : ev e x = .slice ad n c) (h : K (.string (strOfNums xs)) w) : Run1 P ⟨d, .convert t u x, ty, pos, af, g⟩ e w K := by
  have hn : n = xs.length := by have := R.len; simp at this; exact this.symm
  have hu := hui.h
  have ht : P.underlying t = some (.slice el) := by
    unfold elS at hu
    split at hu
    · rename_i el' hul
      split at hu
      · simp only [Option.some.injEq, Prod.mk.injEq] at hu
        obtain ⟨rfl, _⟩ := hu
        exact hul
      · cases hu
    · cases hu
  have key : (convert t u (.slice ad n c)).run P w = .ok (.string (strOfNums xs)) w := by
    rcases Nat.eq_zero_or_pos n with h0 | h0
    · have hxs : xs = [] := List.eq_nil_of_length_eq_zero (by omega)
      subst hxs
      cases ad with
      | none => exact run_convert_bytes_nil w t el ht hei.h n c u hsi.h
      | some a =>
        subst h0
        rw [run_convert_bytes_string w t u el _ 0 c ht hei.h hsi.h, run_bytesToString w a 0 c [] (by rfl)]
        rfl
    · obtain ⟨b, o, cs, T, fr, rfl, hb, hr⟩ := R.at_ h0
      refine run_convert_bytes_arg w t el ht hei.h b o n c xs hn.symm (fun i hi => ?_) u hsi.h
      rw [cell_of_row w b (o + i) cs T fr hb]
      refine zQ9 hr ?_
      rw [List.getElem?_map, List.getElem?_eq_getElem (by omega), List.getD_eq_getElem?_getD, List.getElem?_eq_getElem (by omega)]
      rfl
  exact zE3 (w' := w) (by simp only [execOp, hx, Sem.run_bind, key, Result.andThen_ok, Sem.run_pure]) h
theorem yW7 {s q : ByteArray} (hx : ev e x = .string s) (hy : ev e y = .string q) (h : K (.bool (s.toList == q.toList)) w) : Run1 P ⟨d, .binOp .eql t x y u, ty, pos, af, g⟩ e w K :=
  zE3 (w' := w) (by
    have hg : ∀ w : World, (eqGuard .eql t x y (.string s) (.string q)).run P w = .ok () w := fun _ => rfl
    simp only [execOp, hx, hy, Sem.run_bind, hg, Result.andThen_ok, binOp, Op.stringOp, Sem.run_pure]) h
end
theorem yQ6 : ∀ (xs ys : List Int), (∀ x ∈ xs, inR .u8 x) → (∀ y ∈ ys, inR .u8 y) → (strOfNums xs).data.toList = (strOfNums ys).data.toList → xs = ys := by
  intro xs ys hx hy h2
  simp only [strOfNums_data] at h2
  induction xs generalizing ys with
  | nil => cases ys with
    | nil => rfl
    | cons y ys => simp at h2
  | cons x xs ih => cases ys with
    | nil => simp at h2
    | cons y ys =>
      simp only [List.map_cons, List.cons.injEq] at h2
      have h3 := ih ys (fun z hz => hx z (by simp [hz])) (fun z hz => hy z (by simp [hz])) h2.2
      have h4 := hx x (by simp)
      have h5 := hy y (by simp)
      simp only [inR] at h4 h5
      have h6 := congrArg UInt8.toNat h2.1
      simp only [UInt8.toNat_ofNat'] at h6
      have : x = y := by omega
      rw [this, h3]
theorem yW8 {xs ys : List Int} (hx : ∀ x ∈ xs, inR .u8 x) (hy : ∀ y ∈ ys, inR .u8 y) : ((strOfNums xs).toList == (strOfNums ys).toList) = decide (xs = ys) := by
  rw [ByteArray.toList_eq, ByteArray.toList_eq]
  by_cases h : xs = ys
  · subst h; simp
  · rw [decide_eq_false h, beq_eq_false_iff_ne]
    exact fun hs => h (yQ6 xs ys hx hy hs)
end Go.Proofs.YtkkbbhpbcfcplaaGreat.K
namespace Go.Proofs.YtkkbbhpbcfcplaaGreat.K
open Go Go.RowKit Go.Proofs
attribute [local irreducible] Run1 OpG WL W AO zB8
theorem yQ7 (w : World) {ad ad2 : Option Addr} {c c2 : Nat} {xs ys : List Int} (R : RowAt w 1 ad xs.length (xs.map (.int .u64))) (R2 : RowAt w 1 ad2 ys.length (ys.map (.int .u64))) : zB8 Tryz.prog 82 #[.slice ad xs.length c, .slice ad2 ys.length c2] w (.bool (decide (xs = ys))) := by
 have l1 := R.lim
 have l2 := R2.lim
 have G := Grow.rfl' w
 refine zA9 Tryz.func82 Tryz.ntmps82 Tryz.results82 rfl rfl ?_
 refine qZ 11 ?_
 refine stp (zG1 rfl rfl ?_)
 refine zA6 ?_
 refine zA2 (b := (decide ((xs.length : Int) ≠ (ys.length : Int)))) rfl (fun h1 => ?_) (fun h1 => ?_)
 ·
  replace h1 := qT h1
  refine qZ 5 ?_
  refine ret1 (zA1 (v := .bool false) rfl) ⟨?_, G⟩
  congr 1; exact (decide_eq_false (fun he => h1 (by rw [he]))).symm
 ·
  replace h1 := qF h1
  have hl : xs.length = ys.length := by omega
  refine qZ 9 ?_
  refine zF2 (fun m_ e_ w_ => ∃ (k : Nat), m_ = xs.length - k ∧ Fr [(0, .slice ad xs.length c), (1, .slice ad2 ys.length c2), (12, .int .i64 (xs.length : Int)), (13, .int .i64 (k : Int))] e_ ∧ (k ≤ xs.length) ∧ (∀ j, j < k → xs.getD j 0 = ys.getD j 0) ∧ Grow w w_) _ ⟨0, rfl, zC3 ⟨rfl, rfl, rfl, rfl, trivial⟩, by omega, fun j hj => by omega, G⟩ ?_
  clear G
  rintro m_ e_ w1 ⟨k, rfl, ⟨e2, rfl⟩, hk2, hk, G⟩
  refine qZ 2 ?_
  refine stp (zF1 rfl rfl ?_)
  refine qZ 2 ?_
  refine zA2 (b := (decide ((k : Int) < (xs.length : Int)))) rfl (fun hlt => ?_) (fun hlt => ?_)
  ·
   replace hlt := qT hlt
   have hk3 : k < ys.length := by omega
   refine qZ 9 ?_
   refine zN6 9 [[], [], [1, 0], [2, 1, 0], [], [], [1, 0], [2, 1, 0], [7, 6, 5, 4, 3, 2, 1, 0]] mixed (by kernel_rfl) (by kernel_rfl) (by kernel_rfl) ?_
   intro w3 g4
   replace G := G.tr g4
   clear g4
   refine qA 2 ?_
   apply zC4
   ·intro w_ g_; refine og rfl ?_; refine zD5 (R.grow (G.tr g_)) rfl rfl ?_ ?_; omega; exact qX
   apply zC4
   ·intro w_ g_; exact og rfl (zC6 (v := .int .u64 (xs.getD k 0)) (m := 0) (R.grow (G.tr g_)) rfl (zE4 0 (by omega)) qX)
   refine qA 2 ?_
   apply zC4
   ·intro w_ g_; refine og rfl ?_; refine zD5 (R2.grow (G.tr g_)) rfl rfl ?_ ?_; omega; exact qX
   apply zC4
   ·intro w_ g_; exact og rfl (zC6 (v := .int .u64 (ys.getD k 0)) (m := 0) (R2.grow (G.tr g_)) rfl (zE4 0 (by omega)) qX)
   apply zC4
   ·intro w_ g_; exact og rfl (zG1 rfl rfl qX)
   refine zJ0 ?_
   intro w5 g6
   replace G := G.tr g6
   clear g6
   refine zA6 ?_
   refine zA2 (b := (decide ((xs.getD k 0) ≠ (ys.getD k 0)))) rfl (fun h3 => ?_) (fun h3 => ?_)
   ·
    replace h3 := qT h3
    refine qZ 5 ?_
    refine ret1 (zA1 (v := .bool false) rfl) ⟨?_, G⟩
    congr 1; exact (decide_eq_false (fun he => h3 (by rw [he]))).symm
   ·
    replace h3 := qF h3
    refine qZ 2 ?_
    refine stp (zB5 rfl rfl ?_ ?_); constructor <;> omega
    refine qZ 2 ?_
    refine ⟨_, ?_, k + 1, rfl, zC3 ⟨rfl, rfl, rfl, rfl, trivial⟩, by omega, fun j hj => by rcases Nat.lt_succ_iff_lt_or_eq.1 hj with h_ | h_; exact hk j h_; subst h_; omega, G⟩
    omega
  ·
   replace hlt := qF hlt
   have hk3 : k = xs.length := by omega
   refine qZ 6 ?_
   refine ret1 (zA1 (v := .bool true) rfl) ⟨?_, G⟩
   congr 1; exact (decide_eq_true (yV4 hl (fun j hj => hk j (by omega)))).symm
theorem yQ8 (w : World) {ad ad2 : Option Addr} {c c2 : Nat} {xs ys : List Int} (R : RowAt w 1 ad xs.length (xs.map (.int .u8))) (R2 : RowAt w 1 ad2 ys.length (ys.map (.int .u8))) (hx : ∀ x ∈ xs, inR .u8 x) (hy : ∀ y ∈ ys, inR .u8 y) : zB8 Tryz.prog 83 #[.slice ad xs.length c, .slice ad2 ys.length c2] w (.bool (decide (xs = ys))) := by
 have G := Grow.rfl' w
 refine zA9 Tryz.func83 Tryz.ntmps83 Tryz.results83 rfl rfl ?_
 refine qZ 7 ?_
 refine stp (qN4 (xs := xs) (R.grow G) rfl ?_)
 refine qZ 1 ?_
 refine stp (qN4 (xs := ys) (R2.grow G) rfl ?_)
 refine stp ?_
 refine yW7 rfl rfl ?_
 rw [yW8 hx hy]
 refine qZ 3 ?_
 refine ret1 (zA1 (v := .bool (decide (xs = ys))) rfl) ⟨?_, G⟩
 rfl
theorem yQ9 (w : World) {ad ad2 : Option Addr} {c c2 n m fid : Nat} {fst cap : Array Value} {kc kd : List Value} [FuncI Tryz.prog fid] (R : RowAt w 5 ad n kc) (R2 : RowAt w 5 ad2 m kd) (p : Nat → Bool) (hf : ∀ i, i < n → i < m → ∀ w', Grow w w' → zB8 Tryz.prog fid (fst.toList ++ ([Value.agg ((kc.drop (i * 5)).take 5).toArray, Value.agg ((kd.drop (i * 5)).take 5).toArray] ++ cap.toList)).toArray w' (.bool (p i))) (h1c : ∀ i, i < n → ∃ k s a n cp a2 n2 c2 a3 n3 c3, (kc.drop (i * 5)).take 5 = [.int .i64 k, .int .i64 s, .slice a n cp, .slice a2 n2 c2, .slice a3 n3 c3]) (h2c : ∀ i, i < m → ∃ k s a n cp a2 n2 c2 a3 n3 c3, (kd.drop (i * 5)).take 5 = [.int .i64 k, .int .i64 s, .slice a n cp, .slice a2 n2 c2, .slice a3 n3 c3]) : zB8 Tryz.prog 84 #[.slice ad n c, .slice ad2 m c2, .func (.func fid) fst cap] w (.bool (decide (n = m) && (List.range n).all p)) := by
 have l1 := R.lim
 have l2 := R2.lim
 have e1 := R.len
 have e2 := R2.len
 have G := Grow.rfl' w
 refine zA9 Tryz.func84 Tryz.ntmps84 Tryz.results84 rfl rfl ?_
 refine qZ 11 ?_
 refine stp (zG1 rfl rfl ?_)
 refine zA6 ?_
 refine zA2 (b := (decide ((n : Int) ≠ (m : Int)))) rfl (fun h1 => ?_) (fun h1 => ?_)
 ·
  replace h1 := qT h1
  refine qZ 5 ?_
  refine ret1 (zA1 (v := .bool false) rfl) ⟨?_, G⟩
  rw [decide_eq_false (by omega), Bool.false_and]
 ·
  replace h1 := qF h1
  have hl : n = m := by omega
  refine qZ 9 ?_
  refine zF2 (fun m_ e_ w_ => ∃ (k : Nat), m_ = n - k ∧ Fr [(1, .slice ad2 m c2), (2, .func (.func fid) fst cap), (15, .slice ad n c), (16, .int .i64 (n : Int)), (17, .int .i64 (k : Int))] e_ ∧ (k ≤ n) ∧ (∀ j, j < k → p j = true) ∧ Grow w w_) _ ⟨0, rfl, zC3 ⟨rfl, rfl, rfl, rfl, rfl, trivial⟩, by omega, fun j hj => by omega, G⟩ ?_
  clear G
  rintro m_ e_ w1 ⟨k, rfl, ⟨e2, rfl⟩, hk2, hk, G⟩
  refine qZ 2 ?_
  refine stp (zF1 rfl rfl ?_)
  refine qZ 2 ?_
  refine zA2 (b := (decide ((k : Int) < (n : Int)))) rfl (fun hlt => ?_) (fun hlt => ?_)
  ·
   replace hlt := qT hlt
   have hk3 : k < m := by omega
   have hfk := hf k (by omega) hk3
   obtain ⟨x0, x1, x2, x3, x4, x5, x6, x7, x8, x9, x10, hx5⟩ := h1c k (by omega)
   obtain ⟨y0, y1, y2, y3, y4, y5, y6, y7, y8, y9, y10, hy5⟩ := h2c k (by omega)
   rw [hx5, hy5] at hfk
   refine qZ 6 ?_
   refine stp (zD5 (R.grow G) rfl rfl ?_ ?_); omega
   refine stp (zK0 (R.grow G) rfl (by decide) (by omega) hx5 ?_)
   refine stp (zA8 ?_)
   intro b3 w4 hb5 hc6 g7
   refine qZ 1 ?_
   refine stn (qS hc6 ?_)
   intro w8 hc9 u10
   have g11 := g7.upd u10 hb5
   have hge12 := Nat.le_trans G.size hb5
   replace G := G.tr g11
   clear u10 g7 hb5 hc6
   refine qZ 5 ?_
   refine stp (zD5 (R2.grow G) rfl rfl ?_ ?_); omega
   refine stp (zK0 (R2.grow G) rfl (by decide) (by omega) hy5 ?_)
   refine stp (zA8 ?_)
   intro b13 w14 hb15 hc16 g17
   refine stn (qS hc16 ?_)
   intro w18 hc19 u20
   have g21 := g17.upd u20 hb15
   have hge22 := Nat.le_trans G.size hb15
   have ne23 := qN hc9 hb15
   replace hc9 := g21.heap hc9
   replace G := G.tr g21
   clear u20 g17 hb15 hc16
   refine qZ 6 ?_
   refine stp (zA4 (v := .bool (p k)) rfl (hfk _ G) ?_)
   intro w24 g25
   replace hc9 := g25.heap hc9
   replace hc19 := g25.heap hc19
   replace G := G.tr g25
   clear g25
   refine stp (zN7 rfl ?_)
   refine zA6 ?_
   refine zA2 (b := (!(p k))) rfl (fun hpk => ?_) (fun hpk => ?_)
   ·
    simp only [sb] at hpk
    refine qZ 5 ?_
    refine ret1 (zA1 (v := .bool false) rfl) ⟨?_, G⟩
    rw [qV0 (k := k) (by omega) (by simpa using hpk), Bool.and_false]
   ·
    simp only [sb] at hpk
    refine qZ 2 ?_
    refine stp (zB5 rfl rfl ?_ ?_); constructor <;> omega
    refine qZ 2 ?_
    refine ⟨_, ?_, k + 1, rfl, zC3 ⟨rfl, rfl, rfl, rfl, rfl, trivial⟩, by omega, fun j hj => by rcases Nat.lt_succ_iff_lt_or_eq.1 hj with h_ | h_; exact hk j h_; subst h_; simpa using hpk, G⟩
    omega
  ·
   replace hlt := qF hlt
   have hk3 : k = n := by omega
   refine qZ 6 ?_
   refine ret1 (zA1 (v := .bool true) rfl) ⟨?_, G⟩
   rw [qP6 (fun j hj => hk j (by omega)), decide_eq_true hl]; rfl
theorem yJ3 : ∀ (n_ : Nat) (w : World) {c : List Value} {t : Nd} (T : NodeR w c t) {d : List Value} {u : Nd} (U : NodeR w d u), t.sz ≤ n_ → zB8 Tryz.prog 47 #[.agg c.toArray, .agg d.toArray] w (.bool (t.beq u)) := by
 intro n_
 induction n_ with
 | zero => intro w c t T d u U hm_; exact absurd hm_ (by have := t.sz_pos; omega)
 | succ n_ ih_ =>
 intro w c t T d u U hm_
 obtain @⟨kind, size, words, bytes, kids, ws, bs, ks, kc, hk, hs, hW, hwr, hB, hbr, hK, hKs⟩ := T
 obtain ⟨aw, cw, rfl, hcw, hcw2, RW⟩ := hW
 obtain ⟨ab, cb, rfl, hcb, hcb2, RB⟩ := hB
 obtain ⟨ak, ck, rfl, hck, hck2, RK⟩ := hK
 have lw := RW.lim
 have lb := RB.lim
 have lk := RK.lim
 simp only [inR] at hk hs
 obtain @⟨kind2, size2, words2, bytes2, kids2, ws2, bs2, ks2, kc2, hk2, hs2, hW2, hwr2, hB2, hbr2, hK2, hKs2⟩ := U
 obtain ⟨aw2, cw2, rfl, hcw2, hcw22, RW2⟩ := hW2
 obtain ⟨ab2, cb2, rfl, hcb2, hcb22, RB2⟩ := hB2
 obtain ⟨ak2, ck2, rfl, hck2, hck22, RK2⟩ := hK2
 have lw2 := RW2.lim
 have lb2 := RB2.lim
 have lk2 := RK2.lim
 simp only [inR] at hk2 hs2
 have G := Grow.rfl' w
 refine zA9 Tryz.func47 Tryz.ntmps47 Tryz.results47 rfl rfl ?_
 refine qZ 2 ?_
 refine stp ?_
 refine qC ?_
 intro b1 w2 hb3 hc4 g5
 have hge6 := Nat.le_trans G.size hb3
 replace G := G.tr g5
 clear g5 hb3
 refine stp ?_
 refine qC ?_
 intro b7 w8 hb9 hc10 g11
 have hge12 := Nat.le_trans G.size hb9
 replace hc4 := g11.heap hc4
 replace G := G.tr g11
 clear g11 hb9
 refine qZ 8 ?_
 refine stp (zC7 rfl rfl ?_)
 refine qZ 1 ?_
 refine qG 4 ?_
 refine zA3 (zB0 (s := .bool _) (v := .bool (decide (size = size2))) rfl (zE1 _) (fun hc17 => ?_) ?_)
 ·
  have hc17_ := qT hc17
  refine zC7 (gvt hc17) (gvt hc17) ?_
  exact ⟨rfl, rfl⟩
 refine stp (zE8 rfl rfl rfl ?_)
 refine qZ 1 ?_
 refine qG 4 ?_
 refine zA3 (zY2 (s := .bool ((decide (kind = kind2)) && (decide (size = size2)))) (b := true) (v := .bool (decide (words = words2))) rfl (zE1 _) (fun hc22 => ?_) ?_)
 ·
  obtain ⟨hc22a, hc22b⟩ := and_t hc22
  have hc22a_ := qT hc22a
  have hc22b_ := qT hc22b
  exact zN5 (l := ([.slice aw words.length cw, .slice aw2 words2.length cw2] : List Value)) rfl (by show ([gv ((decide (kind = kind2)) && (decide (size = size2))) (.slice aw words.length cw), gv ((decide (kind = kind2)) && (decide (size = size2))) (.slice aw2 words2.length cw2)] : List Value) = _; rw [gvt hc22, gvt hc22]) (yQ7 _ (RW.grow G) (RW2.grow G)) (fun w2_ g2_ => ⟨rfl, g2_⟩)
 intro w23 g24
 replace hc4 := g24.heap hc4
 replace hc10 := g24.heap hc10
 replace G := G.tr g24
 clear g24
 refine stp (zE8 rfl rfl rfl ?_)
 refine qZ 1 ?_
 refine zA3 (zB0 (s := .bool _) (v := .pointer (some ⟨b1, 3, none⟩)) rfl (zE1 _) (fun hc25 => ?_) ?_)
 ·
  obtain ⟨hc25a, hc25b⟩ := and_t hc25
  obtain ⟨hc25aa, hc25ab⟩ := and_t hc25a
  have hc25aa_ := qT hc25aa
  have hc25ab_ := qT hc25ab
  refine zD0 rfl ?_
  exact ⟨rfl, rfl⟩
 refine zA3 (zB0 (s := .bool _) (v := .slice ab bytes.length cb) rfl (zE1 _) (fun hc26 => ?_) ?_)
 ·
  obtain ⟨hc26a, hc26b⟩ := and_t hc26
  obtain ⟨hc26aa, hc26ab⟩ := and_t hc26a
  have hc26aa_ := qT hc26aa
  have hc26ab_ := qT hc26ab
  refine zG2 (v := .slice ab bytes.length cb) (gvt hc26) hc4 rfl ?_
  exact ⟨rfl, rfl⟩
 refine zA3 (zB0 (s := .bool _) (v := .pointer (some ⟨b7, 3, none⟩)) rfl (zE1 _) (fun hc27 => ?_) ?_)
 ·
  obtain ⟨hc27a, hc27b⟩ := and_t hc27
  obtain ⟨hc27aa, hc27ab⟩ := and_t hc27a
  have hc27aa_ := qT hc27aa
  have hc27ab_ := qT hc27ab
  refine zD0 rfl ?_
  exact ⟨rfl, rfl⟩
 refine zA3 (zB0 (s := .bool _) (v := .slice ab2 bytes2.length cb2) rfl (zE1 _) (fun hc28 => ?_) ?_)
 ·
  obtain ⟨hc28a, hc28b⟩ := and_t hc28
  obtain ⟨hc28aa, hc28ab⟩ := and_t hc28a
  have hc28aa_ := qT hc28aa
  have hc28ab_ := qT hc28ab
  refine zG2 (v := .slice ab2 bytes2.length cb2) (gvt hc28) hc10 rfl ?_
  exact ⟨rfl, rfl⟩
 refine zA3 (zY2 (s := .bool (((decide (kind = kind2)) && (decide (size = size2))) && (decide (words = words2)))) (b := true) (v := .bool (decide (bytes = bytes2))) rfl (zE1 _) (fun hc29 => ?_) ?_)
 ·
  obtain ⟨hc29a, hc29b⟩ := and_t hc29
  obtain ⟨hc29aa, hc29ab⟩ := and_t hc29a
  have hc29aa_ := qT hc29aa
  have hc29ab_ := qT hc29ab
  exact zN5 (l := ([.slice ab bytes.length cb, .slice ab2 bytes2.length cb2] : List Value)) rfl (by show ([gv (((decide (kind = kind2)) && (decide (size = size2))) && (decide (words = words2))) (.slice ab bytes.length cb), gv (((decide (kind = kind2)) && (decide (size = size2))) && (decide (words = words2))) (.slice ab2 bytes2.length cb2)] : List Value) = _; rw [gvt hc29, gvt hc29]) (yQ8 _ (RB.grow G) (RB2.grow G) hbr hbr2) (fun w2_ g2_ => ⟨rfl, g2_⟩)
 intro w30 g31
 replace hc4 := g31.heap hc4
 replace hc10 := g31.heap hc10
 replace G := G.tr g31
 clear g31
 refine stp (zE8 rfl rfl rfl ?_)
 refine qZ 1 ?_
 refine zA3 (zB0 (s := .bool _) (v := .pointer (some ⟨b1, 4, none⟩)) rfl (zE1 _) (fun hc32 => ?_) ?_)
 ·
  obtain ⟨hc32a, hc32b⟩ := and_t hc32
  obtain ⟨hc32aa, hc32ab⟩ := and_t hc32a
  obtain ⟨hc32aaa, hc32aab⟩ := and_t hc32aa
  have hc32aaa_ := qT hc32aaa
  have hc32aab_ := qT hc32aab
  refine zD0 rfl ?_
  exact ⟨rfl, rfl⟩
 refine zA3 (zB0 (s := .bool _) (v := .slice ak kids.length ck) rfl (zE1 _) (fun hc33 => ?_) ?_)
 ·
  obtain ⟨hc33a, hc33b⟩ := and_t hc33
  obtain ⟨hc33aa, hc33ab⟩ := and_t hc33a
  obtain ⟨hc33aaa, hc33aab⟩ := and_t hc33aa
  have hc33aaa_ := qT hc33aaa
  have hc33aab_ := qT hc33aab
  refine zG2 (v := .slice ak kids.length ck) (gvt hc33) hc4 rfl ?_
  exact ⟨rfl, rfl⟩
 refine zA3 (zB0 (s := .bool _) (v := .pointer (some ⟨b7, 4, none⟩)) rfl (zE1 _) (fun hc34 => ?_) ?_)
 ·
  obtain ⟨hc34a, hc34b⟩ := and_t hc34
  obtain ⟨hc34aa, hc34ab⟩ := and_t hc34a
  obtain ⟨hc34aaa, hc34aab⟩ := and_t hc34aa
  have hc34aaa_ := qT hc34aaa
  have hc34aab_ := qT hc34aab
  refine zD0 rfl ?_
  exact ⟨rfl, rfl⟩
 refine zA3 (zB0 (s := .bool _) (v := .slice ak2 kids2.length ck2) rfl (zE1 _) (fun hc35 => ?_) ?_)
 ·
  obtain ⟨hc35a, hc35b⟩ := and_t hc35
  obtain ⟨hc35aa, hc35ab⟩ := and_t hc35a
  obtain ⟨hc35aaa, hc35aab⟩ := and_t hc35aa
  have hc35aaa_ := qT hc35aaa
  have hc35aab_ := qT hc35aab
  refine zG2 (v := .slice ak2 kids2.length ck2) (gvt hc35) hc10 rfl ?_
  exact ⟨rfl, rfl⟩
 refine zA3 (zY2 (s := .bool ((((decide (kind = kind2)) && (decide (size = size2))) && (decide (words = words2))) && (decide (bytes = bytes2)))) (b := true) (v := .bool (decide (kids.length = kids2.length) && (List.range kids.length).all (fun i => (kids.getD i (.mk 0 0 [] [] [])).beq (kids2.getD i (.mk 0 0 [] [] []))))) rfl (zE1 _) (fun hc36 => ?_) ?_)
 ·
  obtain ⟨hc36a, hc36b⟩ := and_t hc36
  obtain ⟨hc36aa, hc36ab⟩ := and_t hc36a
  obtain ⟨hc36aaa, hc36aab⟩ := and_t hc36aa
  have hc36aaa_ := qT hc36aaa
  have hc36aab_ := qT hc36aab
  have kid : ∀ i, i < kids.length → i < kids2.length → ∀ w', Grow w30 w' → zB8 Tryz.prog 47 ((#[] : Array Value).toList ++ ([Value.agg ((kc.drop (i * 5)).take 5).toArray, Value.agg ((kc2.drop (i * 5)).take 5).toArray] ++ (#[] : Array Value).toList)).toArray w' (.bool ((kids.getD i (.mk 0 0 [] [] [])).beq (kids2.getD i (.mk 0 0 [] [] [])))) := by
   intro i hi hi2 w' g'
   have hat := KidsR.at_ i kids[i] (hKs.grow (G.tr g')) (by simp [hi])
   have hat2 := KidsR.at_ i kids2[i] (hKs2.grow (G.tr g')) (by simp [hi2])
   have hsz := Nd.szs_at kids i kids[i] (by simp [hi])
   rw [List.getD_eq_getElem?_getD, List.getElem?_eq_getElem hi, Option.getD_some, List.getD_eq_getElem?_getD, List.getElem?_eq_getElem hi2, Option.getD_some]
   exact ih_ w' hat hat2 (by simp only [Nd.sz] at hm_; omega)
  exact zN5 (l := ([.slice ak kids.length ck, .slice ak2 kids2.length ck2, .func (.func 47) #[] #[]] : List Value)) rfl (by show ([gv ((((decide (kind = kind2)) && (decide (size = size2))) && (decide (words = words2))) && (decide (bytes = bytes2))) (.slice ak kids.length ck), gv ((((decide (kind = kind2)) && (decide (size = size2))) && (decide (words = words2))) && (decide (bytes = bytes2))) (.slice ak2 kids2.length ck2), .func (.func 47) #[] #[]] : List Value) = _; rw [gvt hc36, gvt hc36]) (yQ9 _ (RK.grow G) (RK2.grow G) (fun i => (kids.getD i (.mk 0 0 [] [] [])).beq (kids2.getD i (.mk 0 0 [] [] []))) kid (fun i hi => (KidsR.at_ i kids[i] hKs (by simp [hi])).cells) (fun i hi => (KidsR.at_ i kids2[i] hKs2 (by simp [hi])).cells)) (fun w2_ g2_ => ⟨rfl, g2_⟩)
 intro w37 g38
 replace hc4 := g38.heap hc4
 replace hc10 := g38.heap hc10
 replace G := G.tr g38
 clear g38
 refine stp (zE8 rfl rfl rfl ?_)
 refine qZ 3 ?_
 refine ret1 (zA1 (v := .bool (((((decide (kind = kind2)) && (decide (size = size2))) && (decide (words = words2))) && (decide (bytes = bytes2))) && (decide (kids.length = kids2.length) && (List.range kids.length).all (fun i => (kids.getD i (.mk 0 0 [] [] [])).beq (kids2.getD i (.mk 0 0 [] [] [])))))) rfl) ⟨?_, G⟩
 rw [Nd.beqs_all, Nd.beq]
theorem yJ4 : ∀ (n_ : Nat) (w : World) {w0 : World} {d n cp : Nat} {ad : Option Addr} {xs : List Int} (R : RowAt w0 1 ad n (xs.map (.int .u8))) (g0 : Grow w0 w) (hn : n = xs.length) (hx : ∀ x ∈ xs, inR .u8 x) (hcp : n ≤ cp) (hcp2 : cp ≤ maxLen) (hd : d ≤ 100), d + 1 ≤ n_ → Calls Tryz.prog 20 #[.slice ad n cp, .int .i64 (d : Int)] w (Ret fun v w' => ∃ cells ad' n' c', v = .tuple #[.agg cells.toArray, .slice ad' n' c'] ∧ NodeR (hide w.heap.size w') cells (zF6 d xs).1 ∧ n' = (zF6 d xs).2.length ∧ n' ≤ c' ∧ c' ≤ maxLen ∧ RowAt w0 1 ad' n' ((zF6 d xs).2.map (.int .u8)) ∧ Grow w w') := by
 intro n_
 induction n_ with
 | zero => intro w w0 d n cp ad xs R g0 hn hx hcp hcp2 hd hm_; exact absurd hm_ (by have := Nat.succ_pos d; omega)
 | succ n_ ih_ =>
 intro w w0 d n cp ad xs R g0 hn hx hcp hcp2 hd hm_
 have G := Grow.rfl' w
 refine zC2 Tryz.func20 Tryz.ntmps20 Tryz.results20 rfl rfl ?_
 refine qZ 2 ?_
 refine stp (zA8 ?_)
 intro b1 w2 hb3 hc4 g5
 refine qZ 7 ?_
 refine stp (zC7 rfl rfl ?_)
 refine qZ 1 ?_
 refine qG 1 ?_
 refine zA3 (zB0 (s := .bool _) (v := .bool (decide ((d : Int) = 0))) rfl (zE2 _) (fun hc7 => ?_) ?_)
 ·
  have hc7_ := hc7
  try simp only [sb] at hc7_
  refine zC7 (gvt hc7) rfl ?_
  exact ⟨rfl, rfl⟩
 refine stp (zH6 rfl rfl rfl ?_)
 refine zA6 ?_
 have hge8 := Nat.le_trans G.size hb3
 replace G := G.tr g5
 clear g5 hb3
 refine zA2 (b := ((decide ((n : Int) = 0)) || (decide ((d : Int) = 0)))) rfl (fun h1 => ?_) (fun h1 => ?_)
 ·
  simp only [sb] at h1
  have hst : zF6 d xs = (.nil, xs) := yH5 (by rcases h1 with h | h; exact .inl (List.eq_nil_of_length_eq_zero (by omega)); exact .inr (by omega))
  refine qZ 2 ?_
  refine stp (zA7 (v := .agg #[.int .i64 0, .int .i64 0, .slice none 0 0, .slice none 0 0, .slice none 0 0]) (fun w => by kernel_rfl) ?_)
  refine qZ 1 ?_
  refine stn (qS hc4 ?_)
  intro w9 hc10 u11
  replace G := G.upd u11 hge8
  clear u11 hc4
  refine qZ 3 ?_
  rw [hst]
  refine ret2 (zA5 rfl hc10 (by rfl)) (zA1 (v := .slice ad n cp) rfl) ⟨[_, _, _, _, _], _, _, _, rfl, NodeR.zero _, hn, hcp, hcp2, R, G⟩
 ·
  simp only [sb] at h1
  obtain ⟨h1a, h1b⟩ := h1
  obtain ⟨d, rfl⟩ : ∃ e, d = e + 1 := ⟨d - 1, by omega⟩
  obtain ⟨k, c, rfl⟩ : ∃ k c, xs = k :: c := by cases xs with | nil => simp at hn; omega | cons k c => exact ⟨_, _, rfl⟩
  have hk := hx k (by simp)
  simp only [inR] at hk
  simp only [List.length_cons] at hn
  have hxc : ∀ x ∈ c, inR .u8 x := fun x h_ => hx x (by simp [h_])
  have hlim := R.lim
  have hnc : n - 1 = c.length := by omega
  refine qZ 4 ?_
  refine stp (zE7 ((R.grow g0).grow G) rfl rfl ?_ ?_ ?_); omega; omega
  refine stp (zC6 (v := .int .u8 k) (m := 0) ((R.grow g0).grow G) rfl rfl ?_)
  refine qZ 5 ?_
  refine stp (yD8 rfl rfl (by omega) (by omega) ?_)
  have R1 := R.sliceLH (l := 1) (m := n - 1) hcp (by omega) (by omega)
  rw [show ((1 : Int).toNat) = 1 from rfl]
  generalize (if cp = 1 then ad else ad.map (·.add (1 * 1))) = ad1 at R1 ⊢
  have R2 : RowAt w0 1 ad1 (n - 1) (c.map (.int .u8)) := by
   have e_ : (List.take ((n - 1) * 1) (List.drop (1 * 1) (List.map (Value.int .u8) (k :: c)))) = c.map (.int .u8) := by simp only [Nat.mul_one, List.map_cons, List.drop_succ_cons, List.drop_zero]; rw [List.take_of_length_le (by rw [List.length_map]; omega)]
   rw [e_] at R1; exact R1
  clear R1
  refine qZ 4 ?_
  refine stp (zA7 (v := .agg #[.int .i64 0, .int .i64 0, .slice none 0 0, .slice none 0 0, .slice none 0 0]) (fun w => by kernel_rfl) ?_)
  refine stp (zA8 ?_)
  intro b12 w13 hb14 hc15 g16
  refine stn (qS hc15 ?_)
  intro w17 hc18 u19
  have g20 := g16.upd u19 hb14
  have hge21 := Nat.le_trans G.size hb14
  have ne22 := qN hc4 hb14
  replace hc4 := g20.heap hc4
  replace G := G.tr g20
  clear u19 g16 hb14 hc15
  refine qZ 4 ?_
  refine stp (zY0 rfl rfl ?_ ?_ ?_ ?_); omega; omega; (constructor <;> omega)
  refine stp (zO7 rfl rfl ?_ ?_ ?_); omega; omega
  refine stp (zG0 rfl ?_ ?_); constructor <;> omega
  refine qZ 6 ?_
  refine stp (zO7 rfl rfl ?_ ?_ ?_); omega; omega
  refine qZ 4 ?_
  refine stp (zC7 rfl rfl ?_)
  refine qZ 2 ?_
  refine zA2 (b := (decide ((k % 8) = 0))) rfl (fun h2 => ?_) (fun h2 => ?_)
  ·
   replace h2 := qT h2
   have ht : zF6 (d + 1) (k :: c) = (.nil, c) := by simp only [zF6]; rw [if_pos h2]
   refine qZ 4 ?_
   refine stn (qS hc4 ?_)
   intro w23 hc24 u25
   replace hc18 := u25.heap hc18 ne22.symm
   replace G := G.upd u25 hge8
   clear u25 hc4
   refine qZ 3 ?_
   rw [ht]
   refine ret2 (zA5 rfl hc24 (by rfl)) (zA1 (v := .slice ad1 (n - 1) (cp - 1)) rfl) ⟨[_, _, _, _, _], _, _, _, rfl, NodeR.zero _, hnc, by omega, by omega, R2, G⟩
  ·
   replace h2 := qF h2
   refine qZ 3 ?_
   refine stp (zC7 rfl rfl ?_)
   refine qZ 2 ?_
   refine zA2 (b := (decide ((k % 8) = 1))) rfl (fun h3 => ?_) (fun h3 => ?_)
   ·
    replace h3 := qT h3
    refine zU9 ?_
    refine zS1 (show _ = Value.bool true from congrArg Value.bool (decide_eq_true h3)) ?_
    refine qZ 3 ?_
    refine stn (zB9 (v := .int .i64 2) rfl rfl (by rfl) hc18 (by rfl) (by rfl) ?_)
    intro w26 hc27 u28
    replace hc4 := u28.heap hc4 ne22
    replace G := G.upd u28 hge21
    clear u28 hc18
    refine qZ 4 ?_
    refine stn (zB9 (v := .int .i64 2) rfl rfl (by rfl) hc27 (by rfl) (by rfl) ?_)
    intro w29 hc30 u31
    replace hc4 := u31.heap hc4 ne22
    replace G := G.upd u31 hge21
    clear u31 hc27
    refine qZ 6 ?_
    refine zF2 (fun m_ e_ w_ => ∃ (m : Nat) (ad3 : Option Addr) (n3 : Nat) (c3 : Nat), m_ = ((3 * (k / 8 % 5) + k % 2)).toNat - m ∧ Fr [(0, .slice ad1 (n - 1) (cp - 1)), (4, .pointer (some ⟨b1, 0, none⟩)), (5, .slice none 0 0), (6, .int .u8 k), (7, .pointer (some ⟨b12, 0, none⟩)), (8, .int .i64 ((k / 8) % 5)), (9, .int .i64 (m : Int))] e_ ∧ ((m : Int) ≤ (3 * (k / 8 % 5) + k % 2)) ∧ (w_.heap[b1]? = some (.cells #[.int .i64 0, .int .i64 0, .slice none 0 0, .slice none 0 0, .slice none 0 0] 48 (0, 0))) ∧ (w_.heap[b12]? = some (.cells #[.int .i64 2, .int .i64 2, .slice none 0 0, .slice ad3 n3 c3, .slice none 0 0] 48 (0, 0))) ∧ (w_.ownsRow w.heap.size 5 1 (.slice ad3 n3 c3) m ((List.range m).map fun i => .int .u8 (qT0 k i))) ∧ Grow w w_) _ ⟨0, none, 0, 0, rfl, zC3 ⟨rfl, rfl, rfl, rfl, rfl, rfl, rfl, trivial⟩, by omega, hc4, hc30, World.ownsRow_nil _ _ _ _, G⟩ ?_
    clear hc4 hc30
    clear G
    rintro m_ e_ w32 ⟨m, ad3, n3, c3, rfl, ⟨e33, rfl⟩, hm, hc4, hc30, own, G⟩
    refine qZ 5 ?_
    refine stp (zY9 rfl rfl ?_ ?_); constructor <;> omega
    refine qZ 1 ?_
    refine stp (zO7 rfl rfl ?_ ?_ ?_); omega; omega
    refine stp (zG0 rfl ?_ ?_); constructor <;> omega
    refine stp (zB5 rfl rfl ?_ ?_); constructor <;> omega
    refine stp (zF1 rfl rfl ?_)
    refine zA6 ?_
    refine zA2 (b := (decide ((m : Int) < ((3 * ((k / 8) % 5)) + (k % 2))))) rfl (fun hlt => ?_) (fun hlt => ?_)
    ·
     replace hlt := qT hlt
     refine qZ 8 ?_
     refine stp (zG0 rfl ?_ ?_); constructor <;> omega
     refine stp (zH0 rfl rfl ?_)
     refine stp (zC0 (cs := #[.int .u8 (qT0 k m)]) (el := 5) (fun w => by kernel_rfl) ?_)
     intro bs34 w35 hb36 hc37 g38
     have hge39 := Nat.le_trans G.size hb36
     have ne40 := qN hc4 hb36
     have ne41 := qN hc30 hb36
     replace hc4 := g38.heap hc4
     replace hc30 := g38.heap hc30
     replace own := zB4 own g38
     replace G := G.tr g38
     clear g38
     refine stp (zG7 rfl rfl rfl rfl own (Row.of_block (n := 1) hc37 rfl rfl (by omega)) (fun q_ hq_ => by simp at hq_; subst hq_; rfl) (by simp only [maxLen]; omega) (by omega) G.size ?_)
     intro v42 w43 own6 gr6
     replace G := G.grown gr6 (zH5 own)
     replace hc4 := zF5 gr6 hc4 (zD9 own hc4 (by decide))
     replace hc30 := zF5 gr6 hc30 (zD9 own hc30 (by decide))
     clear own gr6
     obtain ⟨ad4, n4, c4, rfl⟩ := zD7 own6
     refine qZ 1 ?_
     refine stn (zB9 (v := .slice ad4 n4 c4) rfl rfl (by rfl) hc30 (by rfl) (by rfl) ?_)
     intro w44 hc45 u46
     replace hc4 := u46.heap hc4 ne22
     replace own6 := zF4 own6 u46 (zD9 own6 hc30 (by decide))
     replace G := G.upd u46 hge21
     clear u46 hc30
     refine qZ 3 ?_
     refine stp (zB5 rfl rfl ?_ ?_); constructor <;> omega
     refine qZ 2 ?_
     refine ⟨_, ?_, m + 1, ad4, n4, c4, rfl, zC3 ⟨rfl, rfl, rfl, rfl, rfl, rfl, congrArg (Value.int .i64) (by omega), trivial⟩, by omega, hc4, hc45, (by rw [List.range_succ, List.map_append]; exact own6), G⟩
     omega
    ·
     replace hlt := qF hlt
     have hm2 : m = (3 * (k / 8 % 5) + k % 2).toNat := by omega
     have ht : zF6 (d + 1) (k :: c) = (.mk 2 2 [] ((List.range (3 * (k / 8 % 5) + k % 2).toNat).map (qT0 k)) [], c) := by simp only [zF6]; rw [if_neg h2, if_pos (by omega)]
     refine qZ 5 ?_
     refine stn (qS hc4 ?_)
     intro w47 hc48 u49
     replace hc30 := u49.heap hc30 ne22.symm
     replace own := zF4 own u49 (zD9 own hc4 (by decide))
     replace G := G.upd u49 hge8
     clear u49 hc4
     refine qZ 3 ?_
     rw [ht]
     refine ret2 (zA5 rfl hc48 (by rfl)) (zA1 (v := .slice ad1 (n - 1) (cp - 1)) rfl) ⟨[_, _, _, _, _], _, _, _, rfl, .mk (by simp [inR]) (by simp [inR]) (Row.nil _ _) (by simp) (zP0 own hm2 (by omega)) (fun x hx_ => by obtain ⟨i, _, rfl⟩ := List.mem_map.1 hx_; exact qP0 _) (Row.nil _ _) .nil, hnc, (by omega), (by omega), R2, G⟩
   ·
    replace h3 := qF h3
    refine qA6 rfl ?_
    refine stp (zC7 rfl rfl ?_)
    refine qZ 2 ?_
    refine zA2 (b := (decide ((k % 8) = 2))) rfl (fun h4 => ?_) (fun h4 => ?_)
    ·
     replace h4 := qT h4
     refine qZ 3 ?_
     refine stn (zB9 (v := .int .i64 2) rfl rfl (by rfl) hc18 (by rfl) (by rfl) ?_)
     intro w50 hc51 u52
     replace hc4 := u52.heap hc4 ne22
     replace G := G.upd u52 hge21
     clear u52 hc18
     refine qZ 4 ?_
     refine stn (zB9 (v := .int .i64 2) rfl rfl (by rfl) hc51 (by rfl) (by rfl) ?_)
     intro w53 hc54 u55
     replace hc4 := u55.heap hc4 ne22
     replace G := G.upd u55 hge21
     clear u55 hc51
     refine qZ 6 ?_
     refine zF2 (fun m_ e_ w_ => ∃ (m : Nat) (ad3 : Option Addr) (n3 : Nat) (c3 : Nat), m_ = ((3 * (k / 8 % 5) + k % 2)).toNat - m ∧ Fr [(0, .slice ad1 (n - 1) (cp - 1)), (4, .pointer (some ⟨b1, 0, none⟩)), (5, .slice none 0 0), (6, .int .u8 k), (7, .pointer (some ⟨b12, 0, none⟩)), (8, .int .i64 ((k / 8) % 5)), (9, .int .i64 (m : Int))] e_ ∧ ((m : Int) ≤ (3 * (k / 8 % 5) + k % 2)) ∧ (w_.heap[b1]? = some (.cells #[.int .i64 0, .int .i64 0, .slice none 0 0, .slice none 0 0, .slice none 0 0] 48 (0, 0))) ∧ (w_.heap[b12]? = some (.cells #[.int .i64 2, .int .i64 2, .slice none 0 0, .slice ad3 n3 c3, .slice none 0 0] 48 (0, 0))) ∧ (w_.ownsRow w.heap.size 5 1 (.slice ad3 n3 c3) m ((List.range m).map fun i => .int .u8 (qT0 k i))) ∧ Grow w w_) _ ⟨0, none, 0, 0, rfl, zC3 ⟨rfl, rfl, rfl, rfl, rfl, rfl, rfl, trivial⟩, by omega, hc4, hc54, World.ownsRow_nil _ _ _ _, G⟩ ?_
     clear hc4 hc54
     clear G
     rintro m_ e_ w56 ⟨m, ad3, n3, c3, rfl, ⟨e57, rfl⟩, hm, hc4, hc54, own, G⟩
     refine qZ 5 ?_
     refine stp (zY9 rfl rfl ?_ ?_); constructor <;> omega
     refine qZ 1 ?_
     refine stp (zO7 rfl rfl ?_ ?_ ?_); omega; omega
     refine stp (zG0 rfl ?_ ?_); constructor <;> omega
     refine stp (zB5 rfl rfl ?_ ?_); constructor <;> omega
     refine stp (zF1 rfl rfl ?_)
     refine zA6 ?_
     refine zA2 (b := (decide ((m : Int) < ((3 * ((k / 8) % 5)) + (k % 2))))) rfl (fun hlt => ?_) (fun hlt => ?_)
     ·
      replace hlt := qT hlt
      refine qZ 8 ?_
      refine stp (zG0 rfl ?_ ?_); constructor <;> omega
      refine stp (zH0 rfl rfl ?_)
      refine stp (zC0 (cs := #[.int .u8 (qT0 k m)]) (el := 5) (fun w => by kernel_rfl) ?_)
      intro bs58 w59 hb60 hc61 g62
      have hge63 := Nat.le_trans G.size hb60
      have ne64 := qN hc4 hb60
      have ne65 := qN hc54 hb60
      replace hc4 := g62.heap hc4
      replace hc54 := g62.heap hc54
      replace own := zB4 own g62
      replace G := G.tr g62
      clear g62
      refine stp (zG7 rfl rfl rfl rfl own (Row.of_block (n := 1) hc61 rfl rfl (by omega)) (fun q_ hq_ => by simp at hq_; subst hq_; rfl) (by simp only [maxLen]; omega) (by omega) G.size ?_)
      intro v66 w67 own6 gr6
      replace G := G.grown gr6 (zH5 own)
      replace hc4 := zF5 gr6 hc4 (zD9 own hc4 (by decide))
      replace hc54 := zF5 gr6 hc54 (zD9 own hc54 (by decide))
      clear own gr6
      obtain ⟨ad4, n4, c4, rfl⟩ := zD7 own6
      refine qZ 1 ?_
      refine stn (zB9 (v := .slice ad4 n4 c4) rfl rfl (by rfl) hc54 (by rfl) (by rfl) ?_)
      intro w68 hc69 u70
      replace hc4 := u70.heap hc4 ne22
      replace own6 := zF4 own6 u70 (zD9 own6 hc54 (by decide))
      replace G := G.upd u70 hge21
      clear u70 hc54
      refine qZ 3 ?_
      refine stp (zB5 rfl rfl ?_ ?_); constructor <;> omega
      refine qZ 2 ?_
      refine ⟨_, ?_, m + 1, ad4, n4, c4, rfl, zC3 ⟨rfl, rfl, rfl, rfl, rfl, rfl, congrArg (Value.int .i64) (by omega), trivial⟩, by omega, hc4, hc69, (by rw [List.range_succ, List.map_append]; exact own6), G⟩
      omega
     ·
      replace hlt := qF hlt
      have hm2 : m = (3 * (k / 8 % 5) + k % 2).toNat := by omega
      have ht : zF6 (d + 1) (k :: c) = (.mk 2 2 [] ((List.range (3 * (k / 8 % 5) + k % 2).toNat).map (qT0 k)) [], c) := by simp only [zF6]; rw [if_neg h2, if_pos (by omega)]
      refine qZ 5 ?_
      refine stn (qS hc4 ?_)
      intro w71 hc72 u73
      replace hc54 := u73.heap hc54 ne22.symm
      replace own := zF4 own u73 (zD9 own hc4 (by decide))
      replace G := G.upd u73 hge8
      clear u73 hc4
      refine qZ 3 ?_
      rw [ht]
      refine ret2 (zA5 rfl hc72 (by rfl)) (zA1 (v := .slice ad1 (n - 1) (cp - 1)) rfl) ⟨[_, _, _, _, _], _, _, _, rfl, .mk (by simp [inR]) (by simp [inR]) (Row.nil _ _) (by simp) (zP0 own hm2 (by omega)) (fun x hx_ => by obtain ⟨i, _, rfl⟩ := List.mem_map.1 hx_; exact qP0 _) (Row.nil _ _) .nil, hnc, (by omega), (by omega), R2, G⟩
    ·
     replace h4 := qF h4
     refine qZ 2 ?_
     refine stp (zC7 rfl rfl ?_)
     refine qZ 2 ?_
     refine zA2 (b := (decide ((k % 8) = 3))) rfl (fun h5 => ?_) (fun h5 => ?_)
     ·
      replace h5 := qT h5
      refine qZ 3 ?_
      refine stn (zB9 (v := .int .i64 2) rfl rfl (by rfl) hc18 (by rfl) (by rfl) ?_)
      intro w74 hc75 u76
      replace hc4 := u76.heap hc4 ne22
      replace G := G.upd u76 hge21
      clear u76 hc18
      refine qZ 4 ?_
      refine stn (zB9 (v := .int .i64 5) rfl rfl (by rfl) hc75 (by rfl) (by rfl) ?_)
      intro w77 hc78 u79
      replace hc4 := u79.heap hc4 ne22
      replace G := G.upd u79 hge21
      clear u79 hc75
      refine qZ 6 ?_
      refine zF2 (fun m_ e_ w_ => ∃ (m : Nat) (ad3 : Option Addr) (n3 : Nat) (c3 : Nat), m_ = ((k / 8 % 5)).toNat - m ∧ Fr [(0, .slice ad1 (n - 1) (cp - 1)), (4, .pointer (some ⟨b1, 0, none⟩)), (5, .slice none 0 0), (6, .int .u8 k), (7, .pointer (some ⟨b12, 0, none⟩)), (8, .int .i64 ((k / 8) % 5)), (10, .int .i64 (m : Int))] e_ ∧ ((m : Int) ≤ (k / 8 % 5)) ∧ (w_.heap[b1]? = some (.cells #[.int .i64 0, .int .i64 0, .slice none 0 0, .slice none 0 0, .slice none 0 0] 48 (0, 0))) ∧ (w_.heap[b12]? = some (.cells #[.int .i64 2, .int .i64 5, .slice ad3 n3 c3, .slice none 0 0, .slice none 0 0] 48 (0, 0))) ∧ (w_.ownsRow w.heap.size 23 1 (.slice ad3 n3 c3) m ((List.range m).map fun i => .int .u64 (qT1 k i))) ∧ Grow w w_) _ ⟨0, none, 0, 0, rfl, zC3 ⟨rfl, rfl, rfl, rfl, rfl, rfl, rfl, trivial⟩, by omega, hc4, hc78, World.ownsRow_nil _ _ _ _, G⟩ ?_
      clear hc4 hc78
      clear G
      rintro m_ e_ w80 ⟨m, ad3, n3, c3, rfl, ⟨e81, rfl⟩, hm, hc4, hc78, own, G⟩
      refine qZ 5 ?_
      refine stp (zF1 rfl rfl ?_)
      refine zA6 ?_
      refine zA2 (b := (decide ((m : Int) < ((k / 8) % 5)))) rfl (fun hlt => ?_) (fun hlt => ?_)
      ·
       replace hlt := qT hlt
       refine qZ 7 ?_
       refine stp (zG0 rfl ?_ ?_); constructor <;> omega
       refine stp (zV1 rfl rfl ?_)
       refine qZ 1 ?_
       refine stp (zG0 rfl ?_ ?_); constructor <;> omega
       refine stp (zH0 rfl rfl ?_)
       refine stp (zC0 (cs := #[.int .u64 (qT1 k m)]) (el := 23) (fun w => by kernel_rfl) ?_)
       intro bs82 w83 hb84 hc85 g86
       have hge87 := Nat.le_trans G.size hb84
       have ne88 := qN hc4 hb84
       have ne89 := qN hc78 hb84
       replace hc4 := g86.heap hc4
       replace hc78 := g86.heap hc78
       replace own := zB4 own g86
       replace G := G.tr g86
       clear g86
       refine stp (zG7 rfl rfl rfl rfl own (Row.of_block (n := 1) hc85 rfl rfl (by omega)) (fun q_ hq_ => by simp at hq_; subst hq_; rfl) (by simp only [maxLen]; omega) (by omega) G.size ?_)
       intro v90 w91 own6 gr6
       replace G := G.grown gr6 (zH5 own)
       replace hc4 := zF5 gr6 hc4 (zD9 own hc4 (by decide))
       replace hc78 := zF5 gr6 hc78 (zD9 own hc78 (by decide))
       clear own gr6
       obtain ⟨ad4, n4, c4, rfl⟩ := zD7 own6
       refine qZ 1 ?_
       refine stn (zB9 (v := .slice ad4 n4 c4) rfl rfl (by rfl) hc78 (by rfl) (by rfl) ?_)
       intro w92 hc93 u94
       replace hc4 := u94.heap hc4 ne22
       replace own6 := zF4 own6 u94 (zD9 own6 hc78 (by decide))
       replace G := G.upd u94 hge21
       clear u94 hc78
       refine qZ 3 ?_
       refine stp (zB5 rfl rfl ?_ ?_); constructor <;> omega
       refine qZ 2 ?_
       refine ⟨_, ?_, m + 1, ad4, n4, c4, rfl, zC3 ⟨rfl, rfl, rfl, rfl, rfl, rfl, congrArg (Value.int .i64) (by omega), trivial⟩, by omega, hc4, hc93, (by rw [List.range_succ, List.map_append]; exact own6), G⟩
       omega
      ·
       replace hlt := qF hlt
       have hm2 : m = (k / 8 % 5).toNat := by omega
       have ht : zF6 (d + 1) (k :: c) = (.mk 2 5 ((List.range (k / 8 % 5).toNat).map (qT1 k)) [] [], c) := by simp only [zF6]; rw [if_neg h2, if_neg (by omega), if_pos h5]
       refine qZ 5 ?_
       refine stn (qS hc4 ?_)
       intro w95 hc96 u97
       replace hc78 := u97.heap hc78 ne22.symm
       replace own := zF4 own u97 (zD9 own hc4 (by decide))
       replace G := G.upd u97 hge8
       clear u97 hc4
       refine qZ 3 ?_
       rw [ht]
       refine ret2 (zA5 rfl hc96 (by rfl)) (zA1 (v := .slice ad1 (n - 1) (cp - 1)) rfl) ⟨[_, _, _, _, _], _, _, _, rfl, .mk (by simp [inR]) (by simp [inR]) (zP0 own hm2 (by omega)) (fun x hx_ => by obtain ⟨i, _, rfl⟩ := List.mem_map.1 hx_; exact qC6 _) (Row.nil _ _) (by simp) (Row.nil _ _) .nil, hnc, (by omega), (by omega), R2, G⟩
     ·
      replace h5 := qF h5
      refine qZ 3 ?_
      refine stn (zB9 (v := .int .i64 1) rfl rfl (by rfl) hc18 (by rfl) (by rfl) ?_)
      intro w98 hc99 u100
      replace hc4 := u100.heap hc4 ne22
      replace G := G.upd u100 hge21
      clear u100 hc18
      refine qZ 5 ?_
      refine stp (zO7 rfl rfl ?_ ?_ ?_); omega; omega
      refine stp (zM7 rfl rfl ?_)
      refine zA6 ?_
      refine zA2 (b := (decide ((k % 8) > 6))) rfl (fun h6 => ?_) (fun h6 => ?_)
      ·
       replace h6 := qT h6
       refine qZ 3 ?_
       refine stn (zB9 (v := .int .i64 2) rfl rfl (by rfl) hc99 (by rfl) (by rfl) ?_)
       intro w101 hc102 u103
       replace hc4 := u103.heap hc4 ne22
       replace G := G.upd u103 hge21
       clear u103 hc99
       refine qZ 3 ?_
       refine stn (zB9 (v := .int .i64 6) rfl rfl (by rfl) hc102 (by rfl) (by rfl) ?_)
       intro w104 hc105 u106
       replace hc4 := u106.heap hc4 ne22
       replace G := G.upd u106 hge21
       clear u106 hc102
       refine qZ 7 ?_
       refine zF2 (fun m_ e_ w_ => m_ = 0 ∧ Fr [(0, .slice ad1 (n - 1) (cp - 1)), (1, .int .i64 ((d + 1 : Nat) : Int)), (4, .pointer (some ⟨b1, 0, none⟩)), (5, .slice none 0 0), (6, .int .u8 k), (7, .pointer (some ⟨b12, 0, none⟩)), (8, .int .i64 ((k / 8) % 5)), (11, .int .i64 0)] e_ ∧ (w_.heap[b1]? = some (.cells #[.int .i64 0, .int .i64 0, .slice none 0 0, .slice none 0 0, .slice none 0 0] 48 (0, 0))) ∧ (w_.heap[b12]? = some (.cells #[.int .i64 2, .int .i64 6, .slice none 0 0, .slice none 0 0, .slice none 0 0] 48 (0, 0))) ∧ Grow w w_) _ ⟨rfl, zC3 ⟨rfl, rfl, rfl, rfl, rfl, rfl, rfl, rfl, trivial⟩, hc4, hc105, G⟩ ?_
       clear hc4 hc105
       clear G
       rintro m_ e_ w107 ⟨rfl, ⟨e108, rfl⟩, hc4, hc105, G⟩
       refine qZ 5 ?_
       refine stp (zY0 rfl rfl ?_ ?_ ?_ ?_); omega; omega; (constructor <;> omega)
       refine stp (zG0 rfl ?_ ?_); constructor <;> omega
       refine stp (zF1 rfl rfl ?_)
       refine qZ 1 ?_
       refine qG 2 ?_
       refine zA3 (zB0 (s := .bool _) (v := .bool false) rfl (zE1 _) (fun hc111 => ?_) ?_)
       ·
        have hc111_ := qT hc111
        refine qO5 (gvt hc111) rfl (by decide) ?_
        exact ⟨rfl, rfl⟩
       refine stp (zE8 rfl rfl rfl ?_)
       refine zA6 ?_
       refine zM3 (show _ = Value.bool false from congrArg Value.bool (by simp)) ?_
       refine qZ 6 ?_
       obtain ⟨B, hB⟩ : ∃ B, B = w107.heap.size := ⟨_, rfl⟩
       have hB7 : b12 < B := by rw [hB]; exact zB3 hc105
       have hwB : w.heap.size ≤ B := by rw [hB]; exact G.size
       have hBw : B ≤ w107.heap.size := by rw [hB]; exact Nat.le_refl _
       have hB4 : b1 < B := by rw [hB]; exact zB3 hc4
       clear hB
       have hc1 : (zH1 (zF6 d) 0 c).2 = c := rfl
       refine zF2 (fun m_ e_ w_ => ∃ (j : Nat) (ad5 : Option Addr) (n5 : Nat) (c5 : Nat) (ad6 : Option Addr) (n6 : Nat) (c6 : Nat) (kc : List Value) (V : Nat → Prop), m_ = (k / 8 % 5).toNat - j ∧ Fr [(1, .int .i64 ((d + 1 : Nat) : Int)), (4, .pointer (some ⟨b1, 0, none⟩)), (5, .slice none 0 0), (7, .pointer (some ⟨b12, 0, none⟩)), (8, .int .i64 ((k / 8) % 5)), (12, .int .i64 (j : Int)), (0, .slice ad5 n5 c5)] e_ ∧ ((j : Int) ≤ (k / 8 % 5)) ∧ (n5 = (zH1 (zF6 d) j c).2.length) ∧ (n5 ≤ c5) ∧ (c5 ≤ maxLen) ∧ (RowAt w0 1 ad5 n5 ((zH1 (zF6 d) j c).2.map (.int .u8))) ∧ (∀ x, (Value.slice ad6 n6 c6).ownBlock = some x → ¬ V x) ∧ (w_.heap[b1]? = some (.cells #[.int .i64 0, .int .i64 0, .slice none 0 0, .slice none 0 0, .slice none 0 0] 48 (0, 0))) ∧ (w_.heap[b12]? = some (.cells #[.int .i64 2, .int .i64 6, .slice none 0 0, .slice none 0 0, .slice ad6 n6 c6] 48 (0, 0))) ∧ (B ≤ w_.heap.size) ∧ (w_.ownsRow B 48 5 (.slice ad6 n6 c6) j kc) ∧ (∀ x, V x → B ≤ x ∧ x < w_.heap.size) ∧ (KidsR (see V w_) kc (zH1 (zF6 d) j c).1) ∧ Grow w w_) _ ⟨0, ad1, n - 1, cp - 1, none, 0, 0, [], fun _ => False, rfl, zC3 ⟨rfl, rfl, rfl, rfl, rfl, rfl, rfl, trivial⟩, by omega, hnc, by omega, by omega, R2, fun x _ h_ => h_, hc4, hc105, hBw, World.ownsRow_nil _ _ _ _, fun x h_ => h_.elim, .nil, G⟩ ?_
       clear hc4 hc105
       clear G
       rintro m_ e_ w112 ⟨j, ad5, n5, c5, ad6, n6, c6, kc, V, rfl, ⟨e113, rfl⟩, hj, hn5, hc5, hc52, hR5, hVo, hc4, hc105, hBw, ownk, hV, hK, G⟩
       refine qZ 5 ?_
       refine stp (zF1 rfl rfl ?_)
       refine zA6 ?_
       refine zA2 (b := (decide ((j : Int) < ((k / 8) % 5)))) rfl (fun hlt => ?_) (fun hlt => ?_)
       ·
        replace hlt := qT hlt
        refine qZ 7 ?_
        refine stp (zM6 rfl rfl ?_ ?_); constructor <;> omega
        refine stp ?_
        have hBw0 := hBw
        have hol := fun x hx_ => (ownk.lt x hx_).2
        have hcal := ih_ _ (d := d) hR5 (g0.tr G) hn5 (zZ5 d j c hxc) hc5 hc52 (by omega) (by omega)
        rw [show ((d : Nat) : Int) = ((d + 1 : Nat) : Int) - 1 from by omega] at hcal
        refine zD6 rfl hcal ?_
        rintro v_ w114 ⟨cells, ad9, n9, c9, rfl, hT9, hn9, hc9, hc92, hR9, g_⟩
        have hsz9 := zB3 hc105
        replace hc4 := g_.heap hc4
        replace hc105 := g_.heap hc105
        replace hBw := Nat.le_trans hBw g_.size
        replace ownk := zB4 ownk g_
        replace hV := vlt hV g_.size
        replace hK := hK.sees (Sees.grow g_)
        replace G := G.tr g_
        clear g_
        obtain ⟨y0, y1, ya, yn, yc, za, zn, zc, ua, un, uc, rfl⟩ := hT9.cells
        have hT8 := hT9.sees (Sees.more (V' := fun x => V x ∨ (w112.heap.size ≤ x ∧ x < w114.heap.size)) w114 (fun x h1_ h2_ => .inr ⟨h2_, h1_⟩))
        clear hT9
        replace hK := hK.sees (Sees.more (V' := fun x => V x ∨ (w112.heap.size ≤ x ∧ x < w114.heap.size)) w114 (fun x _ h2_ => .inl h2_))
        have hV9 : ∀ x, (V x ∨ (w112.heap.size ≤ x ∧ x < w114.heap.size)) → B ≤ x ∧ x < w114.heap.size := fun x hx_ => hx_.elim (fun h_ => hV x h_) (fun h_ => ⟨Nat.le_trans hBw0 h_.1, h_.2⟩)
        have hVo9 : ∀ x, (Value.slice ad6 n6 c6).ownBlock = some x → ¬ (V x ∨ (w112.heap.size ≤ x ∧ x < w114.heap.size)) := fun x hx_ hv_ => hv_.elim (hVo x hx_) (fun h_ => by have := (hol x hx_); omega)
        clear hV hVo
        obtain ⟨V9, hV9e⟩ : ∃ V9 : Nat → Prop, V9 = fun x => V x ∨ (w112.heap.size ≤ x ∧ x < w114.heap.size) := ⟨_, rfl⟩
        rw [← hV9e] at hT8 hK
        have hV : ∀ x, V9 x → B ≤ x ∧ x < w114.heap.size := by rw [hV9e]; exact hV9
        have hVo : ∀ x, (Value.slice ad6 n6 c6).ownBlock = some x → ¬ V9 x := by rw [hV9e]; exact hVo9
        clear hV9 hVo9 hV9e hBw0 hol
        refine qZ 3 ?_
        refine stp (zA8 ?_)
        intro b115 w116 hb117 hc118 g119
        refine stn (qS hc118 ?_)
        intro w120 hc121 u122
        have g123 := g119.upd u122 hb117
        have hge124 := Nat.le_trans G.size hb117
        have ne125 := qN hc4 hb117
        have ne126 := qN hc105 hb117
        replace hc4 := g123.heap hc4
        replace hc105 := g123.heap hc105
        replace hBw := Nat.le_trans hBw g123.size
        replace ownk := zB4 ownk g123
        replace hK := hK.sees (Sees.grow g123)
        replace hT8 := hT8.sees (Sees.grow g123)
        replace hV := vlt hV g123.size
        replace G := G.tr g123
        clear u122 g119 hb117 hc118
        refine qZ 11 ?_
        refine stp (zC0 (cs := #[.int .i64 y0, .int .i64 y1, .slice ya yn yc, .slice za zn zc, .slice ua un uc]) (el := 48) (fun w => by kernel_rfl) ?_)
        intro bs127 w128 hb129 hc130 g131
        have hge132 := Nat.le_trans G.size hb129
        have ne133 := qN hc4 hb129
        have ne134 := qN hc105 hb129
        have ne135 := qN hc121 hb129
        replace hc4 := g131.heap hc4
        replace hc105 := g131.heap hc105
        replace hBw := Nat.le_trans hBw g131.size
        replace ownk := zB4 ownk g131
        replace hK := hK.sees (Sees.grow g131)
        replace hT8 := hT8.sees (Sees.grow g131)
        replace hV := vlt hV g131.size
        replace hc121 := g131.heap hc121
        replace G := G.tr g131
        clear g131
        refine stp (zS4 rfl rfl rfl rfl ownk (Row.of_block (n := 1) hc130 rfl rfl (by omega)) (fun q_ hq_ => by simp at hq_; rcases hq_ with rfl | rfl | rfl | rfl | rfl <;> rfl) (by simp only [maxLen]; omega) (by omega) hBw ?_)
        intro v136 w137 own6 gr6 hbk6
        have k6_ : Kp (Value.slice ad6 n6 c6).ownBlock.toList w128 w137 := Kp.of_grownBy gr6 (fun k_ hk_ => by rw [Option.mem_toList]; exact hk_)
        have hF6 : ∀ x ∈ (Value.slice ad6 n6 c6).ownBlock.toList, B ≤ x := fun x hx_ => zH5 ownk x (Option.mem_toList.1 hx_)
        have hF7 : ∀ x ∈ (Value.slice ad6 n6 c6).ownBlock.toList, ¬ V9 x := fun x hx_ => hVo x (Option.mem_toList.1 hx_)
        replace hT8 := hT8.sees (Sees.kp k6_ hF7)
        replace hK := hK.sees (Sees.kp k6_ hF7)
        have hVo6 : ∀ x, v136.ownBlock = some x → ¬ V9 x := fun x hx_ hv_ => hbk6.elim (fun h_ => hVo x (h_ ▸ hx_) hv_) (fun h_ => by rw [h_] at hx_; simp only [Option.some.injEq] at hx_; have := (hV x hv_).2; omega)
        replace hV := fun x hx_ => (⟨(hV x hx_).1, Nat.lt_of_lt_of_le (hV x hx_).2 k6_.size⟩ : B ≤ x ∧ x < w137.heap.size)
        replace G := G.trK k6_ (fun x hx_ => Nat.le_trans hwB (hF6 x hx_))
        clear hc121
        replace hc4 := k6_.heap hc4 (fun hm_ => by have h1_ := hF6 _ hm_; have := hB4; omega)
        replace hc105 := k6_.heap hc105 (fun hm_ => by have h1_ := hF6 _ hm_; omega)
        replace hBw := Nat.le_trans hBw k6_.size
        clear ownk gr6 hVo k6_ hF6 hF7 hbk6
        obtain ⟨ad7, n7, c7, rfl⟩ := zD7 own6
        refine qZ 1 ?_
        refine stn (zB9 (v := .slice ad7 n7 c7) rfl rfl (by rfl) hc105 (by rfl) (by rfl) ?_)
        intro w138 hc139 u140
        replace hc4 := u140.heap hc4 ne22
        replace own6 := zF4 own6 u140 (fun he_ => by have := zH5 own6 _ he_; omega)
        replace hT8 := hT8.sees (Sees.upd u140 (fun h_ => by have := (hV _ h_).1; omega))
        replace hK := hK.sees (Sees.upd u140 (fun h_ => by have := (hV _ h_).1; omega))
        replace hV := fun x hx_ => (⟨(hV x hx_).1, Nat.lt_of_lt_of_le (hV x hx_).2 (Nat.le_of_eq u140.size.symm)⟩ : B ≤ x ∧ x < w138.heap.size)
        replace hBw : B ≤ w138.heap.size := by rw [u140.size]; exact hBw
        replace G := G.upd u140 hge21
        clear hc105
        refine qZ 3 ?_
        refine stp (zB5 rfl rfl ?_ ?_); constructor <;> omega
        refine qZ 2 ?_
        refine ⟨_, ?_, j + 1, ad9, n9, c9, ad7, n7, c7, _, V9, rfl, zC3 ⟨rfl, rfl, rfl, rfl, rfl, congrArg (Value.int .i64) (by omega), rfl, trivial⟩, by omega, hn9, hc9, hc92, hR9, hVo6, hc4, hc139, hBw, own6, hV, (KidsR.append hK (by have := KidsR.cons hT8 .nil; simpa using this)), G⟩
        omega
       ·
        replace hlt := qF hlt
        have hj2 : j = (k / 8 % 5).toNat := by omega
        have hlk := zO0 (zF6 d) j c
        have hrk : Row (hide B w112) 5 (.slice ad6 n6 c6) (zH1 (zF6 d) j c).1.length kc := by rw [hlk]; exact zO9 ownk (by omega)
        have hK9 := hK.sees (Sees.more (V' := fun x => B ≤ x) _ (fun x _ hx_ => (hV x hx_).1))
        clear hK hV
        have ht : zF6 (d + 1) (k :: c) = (.mk 2 6 [] [] (zH1 (zF6 d) j c).1, (zH1 (zF6 d) j c).2) := by simp only [zF6]; rw [if_neg h2, if_neg (by omega), if_neg h5, if_pos h6, ← hj2]
        refine qZ 5 ?_
        refine stn (qS hc4 ?_)
        intro w141 hc142 u143
        replace hc105 := u143.heap hc105 ne22.symm
        replace hrk := hrk.sees (Sees.upd u143 (fun h_ => by omega))
        replace hK9 := hK9.sees (Sees.upd u143 (fun h_ => by omega))
        replace G := G.upd u143 hge8
        clear u143 hc4
        refine qZ 3 ?_
        rw [ht]
        refine ret2 (zA5 rfl hc142 (by rfl)) (zA1 (v := .slice ad5 n5 c5) rfl) ⟨[_, _, _, _, _], _, _, _, rfl, .mk (by simp [inR]) (by simp [inR]) (Row.nil _ _) (by simp) (Row.nil _ _) (by simp) (hrk.sees (Sees.low hwB _)) (hK9.sees (Sees.low hwB _)), hn5, hc5, hc52, hR5, G⟩
      ·
       replace h6 := qF h6
       have hkd6 : ¬ k % 8 > 6 := h6
       refine qZ 7 ?_
       refine zF2 (fun m_ e_ w_ => ∃ (m : Nat) (ad3 : Option Addr) (n3 : Nat) (c3 : Nat), m_ = ((k / 64)).toNat - m ∧ Fr [(0, .slice ad1 (n - 1) (cp - 1)), (1, .int .i64 ((d + 1 : Nat) : Int)), (4, .pointer (some ⟨b1, 0, none⟩)), (5, .slice none 0 0), (6, .int .u8 k), (7, .pointer (some ⟨b12, 0, none⟩)), (8, .int .i64 ((k / 8) % 5)), (11, .int .i64 (m : Int))] e_ ∧ ((m : Int) ≤ (k / 64)) ∧ (w_.heap[b1]? = some (.cells #[.int .i64 0, .int .i64 0, .slice none 0 0, .slice none 0 0, .slice none 0 0] 48 (0, 0))) ∧ (w_.heap[b12]? = some (.cells #[.int .i64 1, .int .i64 0, .slice ad3 n3 c3, .slice none 0 0, .slice none 0 0] 48 (0, 0))) ∧ (w_.ownsRow w.heap.size 23 1 (.slice ad3 n3 c3) m ((List.range m).map fun i => .int .u64 (qM7 k i))) ∧ Grow w w_) _ ⟨0, none, 0, 0, rfl, zC3 ⟨rfl, rfl, rfl, rfl, rfl, rfl, rfl, rfl, trivial⟩, by omega, hc4, hc99, World.ownsRow_nil _ _ _ _, G⟩ ?_
       clear hc4 hc99
       clear G
       rintro m_ e_ w144 ⟨m, ad3, n3, c3, rfl, ⟨e145, rfl⟩, hm, hc4, hc99, own, G⟩
       refine qZ 5 ?_
       refine stp (zY0 rfl rfl ?_ ?_ ?_ ?_); omega; omega; (constructor <;> omega)
       refine stp (zG0 rfl ?_ ?_); constructor <;> omega
       refine stp (zF1 rfl rfl ?_)
       refine qZ 1 ?_
       refine qG 2 ?_
       refine zA3 (zB0 (s := .bool _) (v := .bool true) rfl (zE1 _) (fun hc148 => ?_) ?_)
       ·
        have hc148_ := qT hc148
        refine zR6 (gvt hc148) rfl (by decide) ?_
        exact ⟨rfl, rfl⟩
       refine stp (zE8 rfl rfl rfl ?_)
       refine zA6 ?_
       refine zA2 (b := ((decide ((m : Int) < (k / 64))) && true)) rfl (fun hlt => ?_) (fun hlt => ?_)
       ·
        simp only [sb] at hlt
        refine qZ 7 ?_
        refine stp (zG0 rfl ?_ ?_); constructor <;> omega
        refine qZ 1 ?_
        refine stp (zY9 rfl rfl ?_ ?_); constructor <;> omega
        refine stp (zG0 rfl ?_ ?_); constructor <;> omega
        refine stp (yM6 rfl rfl ?_ ?_); omega
        refine qZ 1 ?_
        refine stp (zG0 rfl ?_ ?_); constructor <;> omega
        refine stp (zH0 rfl rfl ?_)
        refine stp (zC0 (cs := #[.int .u64 (qM7 k m)]) (el := 23) (fun w => by kernel_rfl) ?_)
        intro bs149 w150 hb151 hc152 g153
        have hge154 := Nat.le_trans G.size hb151
        have ne155 := qN hc4 hb151
        have ne156 := qN hc99 hb151
        replace hc4 := g153.heap hc4
        replace hc99 := g153.heap hc99
        replace own := zB4 own g153
        replace G := G.tr g153
        clear g153
        refine stp (zG7 rfl rfl rfl rfl own (Row.of_block (n := 1) hc152 rfl rfl (by omega)) (fun q_ hq_ => by simp at hq_; subst hq_; rfl) (by simp only [maxLen]; omega) (by omega) G.size ?_)
        intro v157 w158 own6 gr6
        replace G := G.grown gr6 (zH5 own)
        replace hc4 := zF5 gr6 hc4 (zD9 own hc4 (by decide))
        replace hc99 := zF5 gr6 hc99 (zD9 own hc99 (by decide))
        clear own gr6
        obtain ⟨ad4, n4, c4, rfl⟩ := zD7 own6
        refine qZ 1 ?_
        refine stn (zB9 (v := .slice ad4 n4 c4) rfl rfl (by rfl) hc99 (by rfl) (by rfl) ?_)
        intro w159 hc160 u161
        replace hc4 := u161.heap hc4 ne22
        replace own6 := zF4 own6 u161 (zD9 own6 hc99 (by decide))
        replace G := G.upd u161 hge21
        clear u161 hc99
        refine qZ 3 ?_
        refine stp (zB5 rfl rfl ?_ ?_); constructor <;> omega
        refine qZ 2 ?_
        refine ⟨_, ?_, m + 1, ad4, n4, c4, rfl, zC3 ⟨rfl, rfl, rfl, rfl, rfl, rfl, rfl, congrArg (Value.int .i64) (by omega), trivial⟩, by omega, hc4, hc160, (by rw [List.range_succ, List.map_append]; exact own6), G⟩
        omega
       ·
        simp only [sb] at hlt
        have hm2 : m = (k / 64).toNat := by omega
        refine qZ 6 ?_
        obtain ⟨B, hB⟩ : ∃ B, B = w144.heap.size := ⟨_, rfl⟩
        have hB7 : b12 < B := by rw [hB]; exact zB3 hc99
        have hwB : w.heap.size ≤ B := by rw [hB]; exact G.size
        have hBw : B ≤ w144.heap.size := by rw [hB]; exact Nat.le_refl _
        have hB4 : b1 < B := by rw [hB]; exact zB3 hc4
        clear hB
        have hc1 : (zH1 (zF6 d) 0 c).2 = c := rfl
        refine zF2 (fun m_ e_ w_ => ∃ (j : Nat) (ad5 : Option Addr) (n5 : Nat) (c5 : Nat) (ad6 : Option Addr) (n6 : Nat) (c6 : Nat) (kc : List Value) (V : Nat → Prop), m_ = (k / 8 % 5).toNat - j ∧ Fr [(1, .int .i64 ((d + 1 : Nat) : Int)), (4, .pointer (some ⟨b1, 0, none⟩)), (5, .slice none 0 0), (7, .pointer (some ⟨b12, 0, none⟩)), (8, .int .i64 ((k / 8) % 5)), (12, .int .i64 (j : Int)), (0, .slice ad5 n5 c5)] e_ ∧ ((j : Int) ≤ (k / 8 % 5)) ∧ (n5 = (zH1 (zF6 d) j c).2.length) ∧ (n5 ≤ c5) ∧ (c5 ≤ maxLen) ∧ (RowAt w0 1 ad5 n5 ((zH1 (zF6 d) j c).2.map (.int .u8))) ∧ (∀ x, (Value.slice ad6 n6 c6).ownBlock = some x → ¬ V x) ∧ (w_.heap[b1]? = some (.cells #[.int .i64 0, .int .i64 0, .slice none 0 0, .slice none 0 0, .slice none 0 0] 48 (0, 0))) ∧ (w_.ownsRow w.heap.size 23 1 (.slice ad3 n3 c3) m ((List.range m).map fun i => .int .u64 (qM7 k i))) ∧ (w_.heap[b12]? = some (.cells #[.int .i64 1, .int .i64 0, .slice ad3 n3 c3, .slice none 0 0, .slice ad6 n6 c6] 48 (0, 0))) ∧ (B ≤ w_.heap.size) ∧ (w_.ownsRow B 48 5 (.slice ad6 n6 c6) j kc) ∧ (∀ x, V x → B ≤ x ∧ x < w_.heap.size) ∧ (KidsR (see V w_) kc (zH1 (zF6 d) j c).1) ∧ Grow w w_) _ ⟨0, ad1, n - 1, cp - 1, none, 0, 0, [], fun _ => False, rfl, zC3 ⟨rfl, rfl, rfl, rfl, rfl, rfl, rfl, trivial⟩, by omega, hnc, by omega, by omega, R2, fun x _ h_ => h_, hc4, own, hc99, hBw, World.ownsRow_nil _ _ _ _, fun x h_ => h_.elim, .nil, G⟩ ?_
        clear hc4 hc99 own
        clear G
        rintro m_ e_ w162 ⟨j, ad5, n5, c5, ad6, n6, c6, kc, V, rfl, ⟨e163, rfl⟩, hj, hn5, hc5, hc52, hR5, hVo, hc4, own, hc99, hBw, ownk, hV, hK, G⟩
        refine qZ 5 ?_
        refine stp (zF1 rfl rfl ?_)
        refine zA6 ?_
        refine zA2 (b := (decide ((j : Int) < ((k / 8) % 5)))) rfl (fun hlt => ?_) (fun hlt => ?_)
        ·
         replace hlt := qT hlt
         refine qZ 7 ?_
         refine stp (zM6 rfl rfl ?_ ?_); constructor <;> omega
         refine stp ?_
         have hBw0 := hBw
         have hol := fun x hx_ => (ownk.lt x hx_).2
         have hcal := ih_ _ (d := d) hR5 (g0.tr G) hn5 (zZ5 d j c hxc) hc5 hc52 (by omega) (by omega)
         rw [show ((d : Nat) : Int) = ((d + 1 : Nat) : Int) - 1 from by omega] at hcal
         refine zD6 rfl hcal ?_
         rintro v_ w164 ⟨cells, ad9, n9, c9, rfl, hT9, hn9, hc9, hc92, hR9, g_⟩
         have hsz9 := zB3 hc99
         replace hc4 := g_.heap hc4
         replace own := zB4 own g_
         replace hc99 := g_.heap hc99
         replace hBw := Nat.le_trans hBw g_.size
         replace ownk := zB4 ownk g_
         replace hV := vlt hV g_.size
         replace hK := hK.sees (Sees.grow g_)
         replace G := G.tr g_
         clear g_
         obtain ⟨y0, y1, ya, yn, yc, za, zn, zc, ua, un, uc, rfl⟩ := hT9.cells
         have hT8 := hT9.sees (Sees.more (V' := fun x => V x ∨ (w162.heap.size ≤ x ∧ x < w164.heap.size)) w164 (fun x h1_ h2_ => .inr ⟨h2_, h1_⟩))
         clear hT9
         replace hK := hK.sees (Sees.more (V' := fun x => V x ∨ (w162.heap.size ≤ x ∧ x < w164.heap.size)) w164 (fun x _ h2_ => .inl h2_))
         have hV9 : ∀ x, (V x ∨ (w162.heap.size ≤ x ∧ x < w164.heap.size)) → B ≤ x ∧ x < w164.heap.size := fun x hx_ => hx_.elim (fun h_ => hV x h_) (fun h_ => ⟨Nat.le_trans hBw0 h_.1, h_.2⟩)
         have hVo9 : ∀ x, (Value.slice ad6 n6 c6).ownBlock = some x → ¬ (V x ∨ (w162.heap.size ≤ x ∧ x < w164.heap.size)) := fun x hx_ hv_ => hv_.elim (hVo x hx_) (fun h_ => by have := (hol x hx_); omega)
         clear hV hVo
         obtain ⟨V9, hV9e⟩ : ∃ V9 : Nat → Prop, V9 = fun x => V x ∨ (w162.heap.size ≤ x ∧ x < w164.heap.size) := ⟨_, rfl⟩
         rw [← hV9e] at hT8 hK
         have hV : ∀ x, V9 x → B ≤ x ∧ x < w164.heap.size := by rw [hV9e]; exact hV9
         have hVo : ∀ x, (Value.slice ad6 n6 c6).ownBlock = some x → ¬ V9 x := by rw [hV9e]; exact hVo9
         clear hV9 hVo9 hV9e hBw0 hol
         refine qZ 3 ?_
         refine stp (zA8 ?_)
         intro b165 w166 hb167 hc168 g169
         refine stn (qS hc168 ?_)
         intro w170 hc171 u172
         have g173 := g169.upd u172 hb167
         have hge174 := Nat.le_trans G.size hb167
         have ne175 := qN hc4 hb167
         have ne176 := qN hc99 hb167
         replace hc4 := g173.heap hc4
         replace own := zB4 own g173
         replace hc99 := g173.heap hc99
         replace hBw := Nat.le_trans hBw g173.size
         replace ownk := zB4 ownk g173
         replace hK := hK.sees (Sees.grow g173)
         replace hT8 := hT8.sees (Sees.grow g173)
         replace hV := vlt hV g173.size
         replace G := G.tr g173
         clear u172 g169 hb167 hc168
         refine qZ 11 ?_
         refine stp (zC0 (cs := #[.int .i64 y0, .int .i64 y1, .slice ya yn yc, .slice za zn zc, .slice ua un uc]) (el := 48) (fun w => by kernel_rfl) ?_)
         intro bs177 w178 hb179 hc180 g181
         have hge182 := Nat.le_trans G.size hb179
         have ne183 := qN hc4 hb179
         have ne184 := qN hc99 hb179
         have ne185 := qN hc171 hb179
         replace hc4 := g181.heap hc4
         replace own := zB4 own g181
         replace hc99 := g181.heap hc99
         replace hBw := Nat.le_trans hBw g181.size
         replace ownk := zB4 ownk g181
         replace hK := hK.sees (Sees.grow g181)
         replace hT8 := hT8.sees (Sees.grow g181)
         replace hV := vlt hV g181.size
         replace hc171 := g181.heap hc171
         replace G := G.tr g181
         clear g181
         refine stp (zS4 rfl rfl rfl rfl ownk (Row.of_block (n := 1) hc180 rfl rfl (by omega)) (fun q_ hq_ => by simp at hq_; rcases hq_ with rfl | rfl | rfl | rfl | rfl <;> rfl) (by simp only [maxLen]; omega) (by omega) hBw ?_)
         intro v186 w187 own6 gr6 hbk6
         have k6_ : Kp (Value.slice ad6 n6 c6).ownBlock.toList w178 w187 := Kp.of_grownBy gr6 (fun k_ hk_ => by rw [Option.mem_toList]; exact hk_)
         have hF6 : ∀ x ∈ (Value.slice ad6 n6 c6).ownBlock.toList, B ≤ x := fun x hx_ => zH5 ownk x (Option.mem_toList.1 hx_)
         have hF7 : ∀ x ∈ (Value.slice ad6 n6 c6).ownBlock.toList, ¬ V9 x := fun x hx_ => hVo x (Option.mem_toList.1 hx_)
         replace hT8 := hT8.sees (Sees.kp k6_ hF7)
         replace hK := hK.sees (Sees.kp k6_ hF7)
         have hVo6 : ∀ x, v186.ownBlock = some x → ¬ V9 x := fun x hx_ hv_ => hbk6.elim (fun h_ => hVo x (h_ ▸ hx_) hv_) (fun h_ => by rw [h_] at hx_; simp only [Option.some.injEq] at hx_; have := (hV x hv_).2; omega)
         replace hV := fun x hx_ => (⟨(hV x hx_).1, Nat.lt_of_lt_of_le (hV x hx_).2 k6_.size⟩ : B ≤ x ∧ x < w187.heap.size)
         replace G := G.trK k6_ (fun x hx_ => Nat.le_trans hwB (hF6 x hx_))
         replace own := qS5 own ownk (by decide) gr6
         clear hc171
         replace hc4 := k6_.heap hc4 (fun hm_ => by have h1_ := hF6 _ hm_; have := hB4; omega)
         replace hc99 := k6_.heap hc99 (fun hm_ => by have h1_ := hF6 _ hm_; omega)
         replace hBw := Nat.le_trans hBw k6_.size
         clear ownk gr6 hVo k6_ hF6 hF7 hbk6
         obtain ⟨ad7, n7, c7, rfl⟩ := zD7 own6
         refine qZ 1 ?_
         refine stn (zB9 (v := .slice ad7 n7 c7) rfl rfl (by rfl) hc99 (by rfl) (by rfl) ?_)
         intro w188 hc189 u190
         replace hc4 := u190.heap hc4 ne22
         replace own := zF4 own u190 (zD9 own hc99 (by decide))
         replace own6 := zF4 own6 u190 (fun he_ => by have := zH5 own6 _ he_; omega)
         replace hT8 := hT8.sees (Sees.upd u190 (fun h_ => by have := (hV _ h_).1; omega))
         replace hK := hK.sees (Sees.upd u190 (fun h_ => by have := (hV _ h_).1; omega))
         replace hV := fun x hx_ => (⟨(hV x hx_).1, Nat.lt_of_lt_of_le (hV x hx_).2 (Nat.le_of_eq u190.size.symm)⟩ : B ≤ x ∧ x < w188.heap.size)
         replace hBw : B ≤ w188.heap.size := by rw [u190.size]; exact hBw
         replace G := G.upd u190 hge21
         clear hc99
         refine qZ 3 ?_
         refine stp (zB5 rfl rfl ?_ ?_); constructor <;> omega
         refine qZ 2 ?_
         refine ⟨_, ?_, j + 1, ad9, n9, c9, ad7, n7, c7, _, V9, rfl, zC3 ⟨rfl, rfl, rfl, rfl, rfl, congrArg (Value.int .i64) (by omega), rfl, trivial⟩, by omega, hn9, hc9, hc92, hR9, hVo6, hc4, own, hc189, hBw, own6, hV, (KidsR.append hK (by have := KidsR.cons hT8 .nil; simpa using this)), G⟩
         omega
        ·
         replace hlt := qF hlt
         have hj2 : j = (k / 8 % 5).toNat := by omega
         have hlk := zO0 (zF6 d) j c
         have hrk : Row (hide B w162) 5 (.slice ad6 n6 c6) (zH1 (zF6 d) j c).1.length kc := by rw [hlk]; exact zO9 ownk (by omega)
         have hK9 := hK.sees (Sees.more (V' := fun x => B ≤ x) _ (fun x _ hx_ => (hV x hx_).1))
         clear hK hV
         have ht : zF6 (d + 1) (k :: c) = (.mk 1 0 ((List.range (k / 64).toNat).map (qM7 k)) [] (zH1 (zF6 d) j c).1, (zH1 (zF6 d) j c).2) := by simp only [zF6]; rw [if_neg h2, if_neg (by omega), if_neg h5, if_neg h6, ← hj2]
         refine qZ 5 ?_
         refine stn (qS hc4 ?_)
         intro w191 hc192 u193
         replace own := zF4 own u193 (zD9 own hc4 (by decide))
         replace hc99 := u193.heap hc99 ne22.symm
         replace hrk := hrk.sees (Sees.upd u193 (fun h_ => by omega))
         replace hK9 := hK9.sees (Sees.upd u193 (fun h_ => by omega))
         replace G := G.upd u193 hge8
         clear u193 hc4
         refine qZ 3 ?_
         rw [ht]
         refine ret2 (zA5 rfl hc192 (by rfl)) (zA1 (v := .slice ad5 n5 c5) rfl) ⟨[_, _, _, _, _], _, _, _, rfl, .mk (by simp [inR]) (by simp [inR]) (zP0 own hm2 (by omega)) (fun x hx_ => by obtain ⟨i, _, rfl⟩ := List.mem_map.1 hx_; exact qC6 _) (Row.nil _ _) (by simp) (hrk.sees (Sees.low hwB _)) (hK9.sees (Sees.low hwB _)), hn5, hc5, hc52, hR5, G⟩
end Go.Proofs.YtkkbbhpbcfcplaaGreat.K
namespace Go.Proofs.YtkkbbhpbcfcplaaGreat.K
open Go Go.RowKit
theorem qV3 {c : List Int} (hx : isU8 c) (j : Nat) : 0 ≤ zV4 c j ∧ zV4 c j ≤ 18446744073709551615 := by
  have h := qD9 ((c.drop (8 * j)).take 8) (fun x hx2 => hx x (List.mem_of_mem_drop (List.mem_of_mem_take hx2)))
  have hl : ((c.drop (8 * j)).take 8).length ≤ 8 := by rw [List.length_take]; omega
  have h2 : (256 : Int) ^ ((c.drop (8 * j)).take 8).length ≤ 256 ^ 8 := by
    generalize ((c.drop (8 * j)).take 8).length = n at hl
    have : n = 0 ∨ n = 1 ∨ n = 2 ∨ n = 3 ∨ n = 4 ∨ n = 5 ∨ n = 6 ∨ n = 7 ∨ n = 8 := by omega
    rcases this with rfl | rfl | rfl | rfl | rfl | rfl | rfl | rfl | rfl <;> decide
  have h3 : (256 : Int) ^ 8 = 18446744073709551616 := by decide
  unfold zV4
  omega
/-! ### the three arenas -/
theorem zX6 (p : Pt) : inR .u64 (encR p) := by
  obtain ⟨h0, h1⟩ := zP3 p
  unfold encR
  split
  · exact ⟨h0, h1⟩
  · simp [inR]
def qJ9 : Nd := .mk 1 0 [7] [] []
theorem jG1 {x : Int × Nd × Int} {p : Int} {t : Nd} {e : Int} (h : (decide (x.1 = p) && x.2.1.beq t && decide (x.2.2 = e)) = true) : x = (p, t, e) := by
  simp only [Bool.and_eq_true, decide_eq_true_eq, Nd.beq_iff] at h
  obtain ⟨⟨h1, h2⟩, h3⟩ := h
  exact Prod.ext h1 (Prod.ext h2 h3)
theorem yA6 : zE9 (zB7 zS7) 32 0 0 0 = (2, qJ9, 0) := jG1 (by decide +kernel)
theorem yW9 (t : Nd) : t.beq t = true := (Nd.beq_iff _ _).2 rfl
/-! ### nothing -/
theorem jH2 {m : Nat} (h0 : 1 ≤ m) (h1 : m ≤ 4000) : OkA (zZ6 m) := by
  refine ⟨by simp [zZ6], by simp [zZ6], by simp [zZ6]; omega, by simp [zZ6, zC5]; omega, ?_⟩
  intro q hq x hx
  simp only [zZ6, List.mem_singleton] at hq
  subst hq
  have := List.eq_of_mem_replicate hx
  subst this
  simp [inR]
/-! ### how many are set -/
theorem yX0 {sz : List Int} {n k : Nat} (h : k < n) (hl : k < sz.length) : ((sz.map (Value.int .i64)).take (n * 1))[k * 1]? = some (.int .i64 (sz.getD k 0)) := by
  rw [Nat.mul_one, Nat.mul_one, List.getElem?_take_of_lt h, List.getElem?_map, List.getElem?_eq_getElem hl, List.getD_eq_getElem?_getD, List.getElem?_eq_getElem hl]
  rfl
/-! ### sizes -/
def sumL : List Int → Int
  | [] => 0
  | x :: xs => x + sumL xs
theorem qA1 : ∀ (a b : List Int), sumL (a ++ b) = sumL a + sumL b
  | [], b => by simp [sumL]
  | x :: a, b => by simp only [List.cons_append, sumL, qA1 a b]; omega
theorem zS9 {sz : List Int} {k : Nat} (h : k < sz.length) : sumL (sz.take (k + 1)) = sumL (sz.take k) + sz.getD k 0 := by
  rw [List.take_succ_eq_append_getElem h, qA1, List.getD_eq_getElem?_getD, List.getElem?_eq_getElem h]
  simp [sumL]
theorem qP9 : ∀ {sz : List Int}, (∀ x ∈ sz, 0 ≤ x) → 0 ≤ sumL sz
  | [], _ => by simp [sumL]
  | x :: sz, h => by have := qP9 (sz := sz) (fun y hy => h y (by simp [hy])); have := h x (by simp); simp only [sumL]; omega
theorem zL4 {sz : List Int} (h : ∀ x ∈ sz, 0 ≤ x) (k : Nat) : 0 ≤ sumL (sz.take k) ∧ sumL (sz.take k) ≤ sumL sz := by
  have h1 := qA1 (sz.take k) (sz.drop k)
  rw [List.take_append_drop] at h1
  have h2 := qP9 (sz := sz.take k) (fun x hx => h x (List.mem_of_mem_take hx))
  have h3 := qP9 (sz := sz.drop k) (fun x hx => h x (List.mem_of_mem_drop hx))
  omega
def zM1 (sz : List Int) : Bool := decide (1 ≤ sz.length ∧ sz.length ≤ 16 ∧ 1 ≤ sz.getD 0 0 ∧ (∀ x ∈ sz, 0 ≤ x) ∧ sumL sz ≤ 4096)
theorem zX7 {sz : List Int} (h : zM1 sz = true) : 1 ≤ sz.length ∧ sz.length ≤ 16 ∧ 1 ≤ sz.getD 0 0 ∧ (∀ x ∈ sz, 0 ≤ x) ∧ sumL sz ≤ 4096 := qT h
theorem zT0 {sz : List Int} (h : zM1 sz = true) (i : Nat) : 0 ≤ sz.getD i 0 ∧ sz.getD i 0 ≤ 4096 := by
  obtain ⟨-, -, -, h4, h5⟩ := zX7 h
  by_cases hi : i < sz.length
  · have e : sz.getD i 0 = sz[i] := by rw [List.getD_eq_getElem?_getD, List.getElem?_eq_getElem hi]; rfl
    have h1 := zS9 hi
    have h2 := zL4 h4 i
    have h3 := zL4 h4 (i + 1)
    have := h4 _ (List.getElem_mem hi)
    rw [← e] at this
    omega
  · rw [List.getD_eq_getElem?_getD, List.getElem?_eq_none (by omega)]; simp
theorem yX1 {sz : List Int} (h1 : 1 ≤ sz.length) (h2 : sz.length ≤ 16) (h3 : 1 ≤ sz.getD 0 0) (hn : ∀ j, j < sz.length → 0 ≤ sz.getD j 0) (hs : sumL (sz.take sz.length) ≤ 4096) : zM1 sz = true := by
  rw [List.take_length] at hs
  refine decide_eq_true ⟨h1, h2, h3, fun x hx => ?_, hs⟩
  obtain ⟨j, hj, rfl⟩ := List.getElem_of_mem hx
  have := hn j hj
  rw [List.getD_eq_getElem?_getD, List.getElem?_eq_getElem hj] at this
  exact this
theorem jD1 {sz : List Int} {k : Nat} (hk : k < sz.length) (h : ¬ (0 ≤ sz.getD k 0 ∧ sumL (sz.take k) + sz.getD k 0 ≤ 4096)) : zM1 sz = false := by
  cases hf : zM1 sz with
  | false => rfl
  | true =>
    obtain ⟨-, -, -, h4, h5⟩ := zX7 hf
    have h6 := zS9 hk
    have h7 := zL4 h4 (k + 1)
    have h8 := zT0 hf k
    exact absurd ⟨h8.1, by omega⟩ h
theorem yR0 {sz : List Int} (h : ¬ (1 ≤ sz.length ∧ sz.length ≤ 16 ∧ 1 ≤ sz.getD 0 0)) : zM1 sz = false := decide_eq_false fun ⟨a, b, c, _⟩ => h ⟨a, b, c⟩
def zH7 (sz : List Int) (seg a : Int) : Int := if zM1 sz = true ∧ 0 ≤ seg ∧ seg < sz.length ∧ 0 ≤ a ∧ a < sz.getD seg.toNat 0 then a + sumL (sz.take seg.toNat) else -1
theorem yJ5 {sz : List Int} (h : zM1 sz = true) {seg a : Int} : zG3 sz seg a 1 = decide (0 ≤ seg ∧ seg < sz.length ∧ 0 ≤ a ∧ a < sz.getD seg.toNat 0) := by
  have hs := zT0 h seg.toNat
  unfold zG3 zJ7
  rw [← Bool.decide_and]
  exact decide_eq_decide.2 (by omega)
/-! ### sums of bytes -/
def qD3 (sz : List Int) : Nat := if zM1 sz then (sumL sz).toNat else 0
theorem yR1 (sz : List Int) : qD3 sz ≤ 4096 := by
  unfold qD3
  split
  · rename_i h; have := (zX7 h).2.2.2.2; omega
  · omega
theorem qN5 {sz : List Int} (h : zM1 sz = true) : (qD3 sz : Int) = sumL sz ∧ 1 ≤ qD3 sz := by
  obtain ⟨h1, -, h3, h4, -⟩ := zX7 h
  have hn := qP9 h4
  have h5 := zL4 h4 1
  have h6 : sumL (sz.take 1) = sumL (sz.take 0) + sz.getD 0 0 := zS9 (by omega)
  simp only [List.take_zero, sumL, Int.zero_add] at h6
  unfold qD3
  rw [if_pos h]
  omega
def yR2 (sz : List Int) : Nat := (qD3 sz + 7) / 8
section
variable {P : Program} {e : Env} {w : World} {K : Value → World → Prop} {d : Option Nat} {ty : TypeId} {pos : String} {af : Array Edge} {g : Option (Nat × Bool)} {t : TypeId} {x y : Operand} {k : IntKind} {i : Int}
end
theorem zX8 : ∀ (A : List (List Int)), sumL (zC1 A) = zC5 A
  | [] => rfl
  | s :: A => by
    have ih := zX8 A
    simp only [zC1, List.map_cons, sumL, zC5] at ih ⊢
    omega
theorem qE9 (A : List (List Int)) : zM1 (zC1 A) = zD1 A := by
  unfold zM1 zD1
  refine decide_eq_decide.2 ?_
  rw [zG9, zI7, zX8]
  constructor
  · rintro ⟨a, b, c, -, e⟩; exact ⟨a, b, by omega, e⟩
  · rintro ⟨a, b, c, e⟩
    exact ⟨a, b, by omega, fun x hx => by obtain ⟨s, _, rfl⟩ := List.mem_map.1 hx; omega, e⟩
section
variable {TP TI TW TB : TypeId} {w w' : World} {base b g h : Nat} {ses sum : Int} {sz wl kb : List Int}
end
theorem yX2 {sz : List Int} (h : zM1 sz = true) : ∀ x ∈ sz, inR .i64 x := fun x hx => by
  obtain ⟨i, hi, rfl⟩ := List.getElem_of_mem hx
  have := zT0 h i
  rw [List.getD_eq_getElem?_getD, List.getElem?_eq_getElem hi] at this
  simp only [Option.getD_some] at this
  simp only [inR]; omega
/-! ### what a part answers -/
theorem qV4 {sz : List Int} {seg a : Int} (h : 0 ≤ zH7 sz seg a) : zM1 sz = true ∧ 0 ≤ seg ∧ seg < sz.length ∧ 0 ≤ a ∧ a < sz.getD seg.toNat 0 ∧ zH7 sz seg a = a + sumL (sz.take seg.toNat) ∧ zH7 sz seg a < (qD3 sz : Int) := by
  unfold zH7 at h ⊢
  split at h
  · rename_i hc
    rw [if_pos hc]
    obtain ⟨h1, h2, h3, h4, h5⟩ := hc
    have hf := zX7 h1
    have h6 := zS9 (sz := sz) (k := seg.toNat) (by omega)
    have h7 := (zL4 hf.2.2.2.1 (seg.toNat + 1)).2
    have h8 := (qN5 h1).1
    exact ⟨h1, h2, h3, h4, h5, rfl, by omega⟩
  · omega
inductive Own2 (k z : Int) (w b : List Int) (ks : List Nd) (q a : Int) : Prop where
  | st (h1 : k = 1) (h2 : z = 0) (h3 : b = []) (h4 : objP ((Nd.mk k z w b ks).ptr 0) q a = ⟨1, q, a, w.length, ks.length, 0, 0⟩) (h5 : (Nd.mk k z w b ks).need = (w.length : Int) + ks.length) (h6 : w.length ≤ 100 ∧ ks.length ≤ 100)
  | bt (h1 : k = 2) (h2 : z = 2) (h3 : w = []) (h4 : ks = []) (h5 : objP ((Nd.mk k z w b ks).ptr 0) q a = ⟨2, q, a, 0, 0, 2, b.length⟩) (h6 : (Nd.mk k z w b ks).need = ((b.length : Int) + 7) / 8) (h7 : b.length ≤ 4096)
  | wd (h1 : k = 2) (h2 : z = 5) (h3 : b = []) (h4 : ks = []) (h5 : objP ((Nd.mk k z w b ks).ptr 0) q a = ⟨2, q, a, 0, 0, 5, w.length⟩) (h6 : (Nd.mk k z w b ks).need = (w.length : Int)) (h7 : w.length ≤ 4096)
  | pt (h1 : k = 2) (h2 : z = 6) (h3 : w = []) (h4 : b = []) (h5 : objP ((Nd.mk k z w b ks).ptr 0) q a = ⟨2, q, a, 0, 0, 6, ks.length⟩) (h6 : (Nd.mk k z w b ks).need = (ks.length : Int)) (h7 : ks.length ≤ 4096)
theorem own2 {k z : Int} {w b : List Int} {ks : List Nd} (ho : (Nd.mk k z w b ks).own = true) (hk : ¬ k = 0) (q a : Int) : Own2 k z w b ks q a := by
  simp only [Nd.own, if_neg hk] at ho
  split at ho
  · rename_i h1
    simp only [Bool.and_eq_true, decide_eq_true_eq] at ho
    obtain ⟨h2, h3, h4⟩ := ho
    have hb : b = [] := List.eq_nil_of_length_eq_zero (by omega)
    have hm : w.length ≤ 100 ∧ ks.length ≤ 100 := by split at h4 <;> omega
    subst hb
    subst h1
    exact .st rfl h2 rfl (by simp [Nd.ptr, objP]) (by simp [Nd.need]) hm
  · split at ho
    · rename_i h1 h2
      subst h2
      split at ho
      · rename_i h3
        simp only [Bool.and_eq_true, decide_eq_true_eq] at ho
        have hw : w = [] := List.eq_nil_of_length_eq_zero (by omega)
        have hks : ks = [] := List.eq_nil_of_length_eq_zero (by omega)
        subst hw; subst hks; subst h3
        exact .bt rfl rfl rfl rfl (by simp [Nd.ptr, objP]) (by simp [Nd.need]) (by omega)
      · split at ho
        · rename_i h3
          simp only [Bool.and_eq_true, decide_eq_true_eq] at ho
          have hb : b = [] := List.eq_nil_of_length_eq_zero (by omega)
          have hks : ks = [] := List.eq_nil_of_length_eq_zero (by omega)
          subst hb; subst hks; subst h3
          exact .wd rfl rfl rfl rfl (by simp [Nd.ptr, objP]) (by simp [Nd.need]) (by omega)
        · split at ho
          · rename_i h3
            simp only [Bool.and_eq_true, decide_eq_true_eq] at ho
            have hb : b = [] := List.eq_nil_of_length_eq_zero (by omega)
            have hw : w = [] := List.eq_nil_of_length_eq_zero (by omega)
            subst hb; subst hw; subst h3
            exact .pt rfl rfl rfl rfl (by simp [Nd.ptr, objP]) (by simp [Nd.need]) (by omega)
          · cases ho
    · cases ho
theorem yR3 (o : Ob) : zF3 o.pt = zF3 ⟨o.kind, 0, o.data, o.ptrs, o.size, o.count, 0, false⟩ := rfl
abbrev w2 (A : List (List Int)) (s i : Nat) : Int := (A.getD s []).getD i 0
def jH9 : Nd → List Int
  | .mk _ _ w b _ => w ++ qE0 b
/-! ### decoding it -/
mutual
def Nd.cst : Nd → Int
  | .mk k z w b ks => 1 + (Nd.mk k z w b ks).need + Nd.cstL ks
def Nd.cstL : List Nd → Int
  | [] => 0
  | t :: ts => t.cst + Nd.cstL ts
end
mutual
theorem Nd.cst_pos : ∀ (t : Nd), 1 ≤ t.cst
  | .mk k z w b ks => by have := Nd.need_nn (.mk k z w b ks); have := Nd.cstL_nn ks; rw [Nd.cst]; omega
theorem Nd.cstL_nn : ∀ (ts : List Nd), 0 ≤ Nd.cstL ts
  | [] => by rw [Nd.cstL]; exact Int.le_refl _
  | t :: ts => by have := Nd.cst_pos t; have := Nd.cstL_nn ts; rw [Nd.cstL]; omega
end
/-! ### words and bytes as they lie -/
mutual
def Nd.u8 : Nd → Prop
  | .mk _ _ _ b ks => (∀ x ∈ b, inR .u8 x) ∧ Nd.u8L ks
def Nd.u8L : List Nd → Prop
  | [] => True
  | t :: ts => t.u8 ∧ Nd.u8L ts
end
/-! ### what is built are words -/
def AllU (A : List (List Int)) : Prop := ∀ q ∈ A, ∀ x ∈ q, inR .u64 x
mutual
def Nd.u64 : Nd → Prop
  | .mk _ _ w _ ks => (∀ x ∈ w, inR .u64 x) ∧ Nd.u64L ks
def Nd.u64L : List Nd → Prop
  | [] => True
  | t :: ts => t.u64 ∧ Nd.u64L ts
end
theorem AllU.getD {A : List (List Int)} (h : AllU A) (s : Nat) : ∀ x ∈ A.getD s [], inR .u64 x := by
  by_cases hs : s < A.length
  · rw [zE5 hs]; exact h _ (List.getElem_mem hs)
  · rw [List.getD_eq_getElem?_getD, List.getElem?_eq_none (by omega)]; intro x hx; simp at hx
theorem AllU.set {A : List (List Int)} (h : AllU A) (s i : Nat) {x : Int} (hx : inR .u64 x) : AllU (setP A s i x) := by
  intro q hq y hy
  rcases List.mem_or_eq_of_mem_set hq with hq | rfl
  · exact h q hq y hy
  · rcases List.mem_or_eq_of_mem_set hy with hy | rfl
    · exact h.getD s y hy
    · exact hx
theorem AllU.growB {A : List (List Int)} (h : AllU A) (q : Nat) : AllU (growB A q) := by
  unfold K.growB
  split
  · intro p hp y hy
    rcases List.mem_append.1 hp with hp | hp
    · exact h p hp y hy
    · simp only [List.mem_singleton] at hp; subst hp; simp at hy
  · exact h
theorem AllU.grow {A : List (List Int)} (h : AllU A) (q : Nat) {l : List Int} (hl : ∀ x ∈ l, inR .u64 x) : AllU (zM9 A q l) := by
  intro p hp y hy
  unfold zM9 at hp
  rcases List.mem_or_eq_of_mem_set hp with hp | rfl
  · exact (h.growB q) p hp y hy
  · rcases List.mem_append.1 hy with hy | hy
    · exact (h.growB q).getD q y hy
    · exact hl y hy
theorem yA7 {k z : Int} {w b : List Int} {ks : List Nd} (hw : ∀ x ∈ w, inR .u64 x) (hb : isU8 b) : ∀ x ∈ (Nd.mk k z w b ks).content, inR .u64 x := by
  intro x hx
  simp only [Nd.content, List.mem_append, qE0, List.mem_map, List.mem_replicate] at hx
  rcases hx with (hx | ⟨j, -, rfl⟩) | ⟨-, rfl⟩
  · exact hw x hx
  · have := qV3 hb j
    simp only [inR]; omega
  · simp [inR]
theorem yR4 (size : Int) (t : Nd) (S : Lay) (s i : Nat) (h : AllU S.A) : AllU (zG6 size t S s i).S.A := by
  have h1 : ∀ x ∈ [t.near 0], inR .u64 x := fun x hx => by simp only [List.mem_singleton] at hx; subst hx; exact zX6 _
  unfold zG6
  split
  · exact h.set _ _ (zX6 _)
  · split
    · exact (h.set _ _ (zX6 _)).grow _ h1
    · exact (h.set _ _ (zX6 _)).grow _ h1
mutual
theorem yR5 (size : Int) : ∀ (t : Nd) (S : Lay) (s i : Nat), t.u64 → t.u8 → AllU S.A → AllU (t.lay size S s i).A
  | .mk k z w b ks, S, s, i, hw, hb, h => by
    rw [Nd.u64] at hw
    rw [Nd.u8] at hb
    simp only [Nd.lay]
    split
    · exact h
    · split
      · exact h.set _ _ (zX6 _)
      · exact yF4 size ks _ _ _ hw.2 hb.2 ((yR4 size _ S s i h).grow _ (yA7 hw.1 hb.1))
theorem yF4 (size : Int) : ∀ (ts : List Nd) (S : Lay) (s i : Nat), Nd.u64L ts → Nd.u8L ts → AllU S.A → AllU (Nd.lays size ts S s i).A
  | [], S, s, i, _, _, h => h
  | t :: ts, S, s, i, hw, hb, h => by
    rw [Nd.u64L] at hw
    rw [Nd.u8L] at hb
    simp only [Nd.lays]
    exact yF4 size ts _ _ _ hw.2 hb.2 (yR5 size t S s i hw.1 hb.1 h)
end
theorem yR6 {t : Nd} (size : Int) (hw : t.u64) (hb : t.u8) : ∀ q ∈ (t.build size).1, ∀ x ∈ q, inR .u64 x := by
  unfold Nd.build
  split
  · intro q hq; simp at hq
  · split
    · intro q hq; simp at hq
    · refine yR5 size t _ 0 0 hw hb ?_
      intro q hq x hx
      simp only [List.mem_singleton] at hq
      subst hq
      simp only [List.mem_singleton] at hx
      subst hx
      simp [inR]
theorem yA8 {t : Nd} {size : Int} (h : (t.build size).2 = 0) : zD1 (t.build size).1 = true := by
  have hf := Nd.build_fit h
  have h0 : 1 ≤ len2 (t.build size).1 0 := by
    unfold Nd.build at h ⊢
    by_cases h1 : size < 1 ∨ size > 4096 ∨ t.right 32 = false
    · rw [if_pos h1] at h; exact absurd h (by decide)
    · rw [if_neg h1] at h ⊢
      by_cases h2 : (t.lay size ⟨[[0]], false⟩ 0 0).full = true
      · rw [if_pos h2] at h; exact absurd h (by decide)
      · rw [if_neg h2]
        exact Nat.le_trans (by decide : 1 ≤ len2 [[0]] 0) ((Nd.lay_ok size t ⟨[[0]], false⟩ 0 0 (by simp)).grew.seg 0)
  unfold zD1
  exact decide_eq_true ⟨hf.one, hf.most, h0, hf.all⟩
def yJ6 (k : Int) : Int := if k = 0 then 2 else if k = 1 then 5 else if k = 2 then 6 else 3
theorem yX3 (k : Int) (h0 : 0 ≤ k) (h1 : k < 4) : ([.int .i64 2, .int .i64 5, .int .i64 6, .int .i64 3] : List Value)[k.toNat * 1]? = some (.int .i64 (yJ6 k)) := by
  have h : k = 0 ∨ k = 1 ∨ k = 2 ∨ k = 3 := by omega
  rcases h with rfl | rfl | rfl | rfl <;> rfl
def qQ0 (x y n : Int) : Pt :=
  if x % 3 = 0 then ⟨1, y % 16 - 4, x % 4, x / 64, 0, 0, 0, false⟩
  else if x % 3 = 1 then ⟨2, y % 16 - 4, 0, 0, yJ6 (x % 4), x / 16, 0, false⟩
  else ⟨3, y % 12, 0, 0, 0, 0, x / 3 % (n + 1), decide (x % 2 = 1)⟩
inductive BentA (B : List (List Int)) : List (List Int) → Prop
  | refl : BentA B B
  | put {A : List (List Int)} {s i : Nat} {x y : Int} : BentA B A → s < A.length → i < len2 A s → 0 ≤ x → x ≤ 255 → 0 ≤ y → y ≤ 255 → BentA B (setP A s i (encR (qQ0 x y A.length)))
def zT1 (xs : List Int) : Nd := (zF6 6 xs).1
def qH0 (xs : List Int) (k : Int) : List (List Int) := if ((zT1 xs).build (3 + k % 30)).2 ≠ 0 then ((zT1 xs).build 4096).1 else ((zT1 xs).build (3 + k % 30)).1
def yR7 (xs : List Int) (k : Int) (A : List (List Int)) : Prop := BentA (qH0 xs k) A
theorem qK0 {xs : List Int} (h : isU8 xs) : (zT1 xs).right 32 = true := qI8 6 xs 32 (by decide) h
theorem yA9 {xs : List Int} (h : isU8 xs) (hl : xs.length ≤ 200) : 0 ≤ (zT1 xs).needs ∧ (zT1 xs).needs ≤ 1400 := by
  have := qI9 6 xs h
  have := Nd.needs_nn (zT1 xs)
  unfold zT1 at *
  omega
theorem yR8 {xs : List Int} (h : isU8 xs) (hl : xs.length ≤ 200) : ∃ s, (zT1 xs).build 4096 = ([s], 0) ∧ (s.length : Int) = 1 + (zT1 xs).needs :=
  Nd.build_one (qK0 h) (by have := yA9 h hl; omega) (by decide)
theorem qK1 : ∀ (d : Nat) (c : List Int), (zF6 d c).1.u64 ∧ (zF6 d c).1.u8
  | 0, c => ⟨⟨by simp, trivial⟩, ⟨by simp [isU8], trivial⟩⟩
  | d + 1, [] => ⟨⟨by simp, trivial⟩, ⟨by simp [isU8], trivial⟩⟩
  | d + 1, k :: c => by
    have hk : ∀ n, Nd.u64L (zH1 (zF6 d) n c).1 ∧ Nd.u8L (zH1 (zF6 d) n c).1 := fun n => by
      have h1 := qE5 (f := zF6 d) (Q := fun _ => True) (R := fun t => t.u64 ∧ t.u8) (fun c _ => ⟨trivial, qK1 d c⟩) n c trivial
      have : ∀ (ts : List Nd), (∀ t ∈ ts, t.u64 ∧ t.u8) → Nd.u64L ts ∧ Nd.u8L ts := by
        intro ts
        induction ts with
        | nil => exact fun _ => ⟨trivial, trivial⟩
        | cons t ts ih => exact fun h => ⟨⟨(h t (by simp)).1, (ih fun u hu => h u (by simp [hu])).1⟩, ⟨(h t (by simp)).2, (ih fun u hu => h u (by simp [hu])).2⟩⟩
      exact this _ h1
    have hb : ∀ n, isU8 ((List.range n).map (qT0 k)) := fun n x hx => by obtain ⟨i, _, rfl⟩ := List.mem_map.1 hx; exact qP0 _
    have h3 : ∀ n, ∀ x ∈ (List.range n).map (qT1 k), inR .u64 x := fun n x hx => by obtain ⟨i, _, rfl⟩ := List.mem_map.1 hx; exact qC6 _
    have h4 : ∀ n, ∀ x ∈ (List.range n).map (qM7 k), inR .u64 x := fun n x hx => by obtain ⟨i, _, rfl⟩ := List.mem_map.1 hx; exact qC6 _
    simp only [zF6]
    split
    · exact ⟨⟨by simp, trivial⟩, ⟨by simp [isU8], trivial⟩⟩
    · split
      · exact ⟨⟨by simp, trivial⟩, ⟨hb _, trivial⟩⟩
      · split
        · exact ⟨⟨h3 _, trivial⟩, ⟨by simp [isU8], trivial⟩⟩
        · split
          · exact ⟨⟨by simp, (hk _).1⟩, ⟨by simp [isU8], (hk _).2⟩⟩
          · exact ⟨⟨h4 _, (hk _).1⟩, ⟨by simp [isU8], (hk _).2⟩⟩
theorem yX4 {xs : List Int} (h : isU8 xs) (hl : xs.length ≤ 200) (k : Int) : zD1 (qH0 xs k) = true ∧ AllU (qH0 xs k) ∧ zC5 (qH0 xs k) ≤ 4096 ∧ (∀ i, len2 (qH0 xs k) i ≤ 4096) := by
  obtain ⟨s, h4, -⟩ := yR8 h hl
  have key : ∀ n, ((zT1 xs).build n).2 = 0 → zD1 ((zT1 xs).build n).1 = true ∧ AllU ((zT1 xs).build n).1 ∧ zC5 ((zT1 xs).build n).1 ≤ 4096 ∧ (∀ i, len2 ((zT1 xs).build n).1 i ≤ 4096) := fun n hn => by
    have hr := yA8 hn
    refine ⟨hr, yR6 n (qK1 6 xs).1 (qK1 6 xs).2, ?_⟩
    unfold zD1 at hr
    have h1 := qT hr
    exact ⟨h1.2.2.2, fun i => by have := zK9 ((zT1 xs).build n).1 i; omega⟩
  unfold qH0
  split
  · exact key 4096 (by rw [h4])
  · exact key _ (by omega)
theorem BentA.len {B A : List (List Int)} (h : BentA B A) : A.length = B.length ∧ zC5 A = zC5 B ∧ ∀ i, len2 A i = len2 B i := by
  induction h with
  | refl => exact ⟨rfl, rfl, fun _ => rfl⟩
  | put _ hs hi _ _ _ _ ih => exact ⟨(zE6 _ _ _ _).trans ih.1, (qI6 _ _ _ _).trans ih.2.1, fun j => (zP7 _ _ _ j _).trans (ih.2.2 j)⟩
theorem BentA.allU {B A : List (List Int)} (h : BentA B A) (hB : AllU B) : AllU A := by
  induction h with
  | refl => exact hB
  | put _ hs hi _ _ _ _ ih => exact ih.set _ _ (zX6 _)
theorem BentA.right {B A : List (List Int)} (h : BentA B A) : zD1 A = zD1 B := by
  obtain ⟨h1, h2, h3⟩ := h.len
  unfold zD1
  rw [h1, h2, h3 0]
theorem yR7.ok {xs : List Int} {k : Int} {A : List (List Int)} (hA : yR7 xs k A) (h : isU8 xs) (hl : xs.length ≤ 200) : zD1 A = true ∧ AllU A ∧ zC5 A ≤ 4096 ∧ (∀ i, len2 A i ≤ 4096) ∧ 1 ≤ A.length ∧ A.length ≤ 16 ∧ ∀ s ∈ A, s.length ≤ 100000 := by
  obtain ⟨h1, h2, h3⟩ := BentA.len hA
  obtain ⟨g1, g2, g3, g4⟩ := yX4 h hl k
  have hr : zD1 A = true := by rw [BentA.right hA]; exact g1
  have hr2 := hr
  unfold zD1 at hr2
  obtain ⟨r1, r2, -, -⟩ := qT hr2
  refine ⟨hr, BentA.allU hA g2, by rw [h2]; exact g3, fun i => by rw [h3]; exact g4 i, r1, r2, fun s hs => ?_⟩
  obtain ⟨i, hi, rfl⟩ := List.getElem_of_mem hs
  have := h3 i
  have := g4 i
  rw [← h3 i, len2, zE5 hi] at this
  omega
theorem yR9 {xs : List Int} (h : isU8 xs) (hl : xs.length ≤ 200) (k : Int) : 1 ≤ (qH0 xs k).length ∧ (qH0 xs k).length ≤ 16 := by
  obtain ⟨-, -, -, -, h1, h2, -⟩ := yR7.ok (BentA.refl (B := qH0 xs k)) h hl
  exact ⟨h1, h2⟩
/-! ### chunks of an arena, as words -/
theorem yF5 : ∀ (A : List (List Int)), ((A.flatten.length : Nat) : Int) = zC5 A
  | [] => rfl
  | s :: A => by have := yF5 A; rw [List.flatten_cons, List.length_append]; simp only [zC5]; omega
theorem yB0 {A : List (List Int)} (h : zD1 A = true) : qD3 (zC1 A) = A.flatten.length ∧ 1 ≤ yR2 (zC1 A) := by
  have hf : zM1 (zC1 A) = true := by rw [qE9]; exact h
  have h1 := qN5 hf
  rw [zX8] at h1
  have h2 := yF5 A
  have hc : yR2 (zC1 A) = (qD3 (zC1 A) + 7) / 8 := rfl
  omega
/-! ### the chapter's example -/
/-! ### what law12.Arena makes of choices -/
section
variable {s s' : Src}
end
/-! ### the words of an arena, one behind the other -/
theorem yF6 : ∀ (A : List (List Int)) (i j : Nat), i < A.length → j < len2 A i → (A.flatten).getD (j + (zC5 (A.take i)).toNat) 0 = (A.getD i []).getD j 0
  | [], i, j, h, _ => by simp at h
  | s :: A, 0, j, _, hj => by
    simp only [len2, List.getD_cons_zero] at hj
    simp only [List.take_zero, zC5, Int.toNat_zero, Nat.add_zero, List.flatten_cons, List.getD_cons_zero]
    rw [List.getD_eq_getElem?_getD, List.getD_eq_getElem?_getD, List.getElem?_append_left hj]
  | s :: A, i + 1, j, h, hj => by
    have hj' : j < len2 A i := by simpa [len2] using hj
    have ih := yF6 A i j (by simpa using h) hj'
    have hn := zN9 (A.take i)
    simp only [List.take_succ_cons, zC5, List.flatten_cons, List.getD_cons_succ]
    rw [← ih, List.getD_eq_getElem?_getD, List.getD_eq_getElem?_getD, List.getElem?_append_right (by omega), show j + ((s.length : Int) + zC5 (A.take i)).toNat - s.length = j + (zC5 (A.take i)).toNat from by omega]
theorem yB1 {A : List (List Int)} (h : zD1 A = true) (seg a : Int) : (zH7 (zC1 A) seg a < 0 ∧ zH2 A seg a = (0, 20)) ∨ ∃ k : Nat, zH7 (zC1 A) seg a = (k : Int) ∧ k < A.flatten.length ∧ zH2 A seg a = (A.flatten.getD k 0, 0) := by
  have hf : zM1 (zC1 A) = true := by rw [qE9]; exact h
  have hsl := zG9 A
  have hg := zI7 A seg.toNat
  by_cases hc : 0 ≤ seg ∧ seg < A.length ∧ 0 ≤ a ∧ a < len2 A seg.toNat
  · right
    have hp : zH7 (zC1 A) seg a = a + sumL ((zC1 A).take seg.toNat) := by unfold zH7; rw [if_pos ⟨hf, by omega, by omega, by omega, by omega⟩]
    have hst : sumL ((zC1 A).take seg.toNat) = zC5 (A.take seg.toNat) := by
      rw [← zX8]; unfold zC1; rw [List.map_take]
    have hn := zN9 (A.take seg.toNat)
    have hfg := yF6 A seg.toNat a.toNat (by omega) (by omega)
    have hl := (qV4 (sz := zC1 A) (seg := seg) (a := a) (by omega)).2.2.2.2.2.2
    have hw := (yB0 h).1
    refine ⟨a.toNat + (zC5 (A.take seg.toNat)).toNat, by omega, by omega, ?_⟩
    unfold zH2
    rw [if_pos hc, hfg]
  · left
    refine ⟨?_, by unfold zH2; rw [if_neg hc]⟩
    unfold zH7
    rw [if_neg (by omega)]
    decide
abbrev Spn := Int × Int
def encS (s : Spn) : List Value := [.int .i64 s.1, .int .i64 s.2]
def encL (L : List Spn) : List Value := L.flatMap encS
theorem zK3 (L : List Spn) : (encL L).length = L.length * 2 := by
  induction L with
  | nil => rfl
  | cons s L ih => simp only [encL, List.flatMap_cons, List.length_append, List.length_cons] at ih ⊢; rw [ih]; simp [encS]; omega
theorem zK7 (A B : List Spn) : encL (A ++ B) = encL A ++ encL B := by simp [encL]
theorem yB2 : ∀ {L : List Spn} {i : Nat} (h : i < L.length), ((encL L).drop (i * 2)).take 2 = encS L[i]
  | [], i, h => by simp at h
  | s :: L, 0, _ => by simp [encL, encS]
  | s :: L, i + 1, h => by
    have := yB2 (L := L) (i := i) (by simpa using h)
    rw [show (i + 1) * 2 = i * 2 + 1 + 1 from by omega]
    simpa [encL, encS] using this
theorem yX5 {L : List Spn} : ∀ q ∈ encL L, q.oneCell' = true := by
  intro q hq
  obtain ⟨s, -, h⟩ := List.mem_flatMap.1 hq
  simp only [encS, List.mem_cons, List.not_mem_nil, or_false] at h
  rcases h with rfl | rfl <;> rfl
def zU3 (s : Spn) : Bool := decide (s.2 ≤ s.1)
def inS (L : List Spn) (n : Int) : Prop := ∃ s ∈ L, s.1 ≤ n ∧ n < s.2
theorem yB3 (n : Int) : ¬ inS [] n := fun ⟨_, h, _⟩ => by simp at h
theorem zK4 (s : Spn) (L : List Spn) (n : Int) : inS (s :: L) n ↔ (s.1 ≤ n ∧ n < s.2) ∨ inS L n := by simp [inS]
theorem qN6 (A B : List Spn) (n : Int) : inS (A ++ B) n ↔ inS A n ∨ inS B n := by
  unfold inS
  constructor
  · rintro ⟨s, h, h2⟩
    rcases List.mem_append.1 h with h | h
    · exact .inl ⟨s, h, h2⟩
    · exact .inr ⟨s, h, h2⟩
  · rintro (⟨s, h, h2⟩ | ⟨s, h, h2⟩)
    · exact ⟨s, List.mem_append_left _ h, h2⟩
    · exact ⟨s, List.mem_append_right _ h, h2⟩
theorem yF7 {A B : List Spn} (h : A.Perm B) (n : Int) : inS A n ↔ inS B n := by
  unfold inS
  constructor
  · rintro ⟨s, hs, h2⟩; exact ⟨s, h.mem_iff.1 hs, h2⟩
  · rintro ⟨s, hs, h2⟩; exact ⟨s, h.mem_iff.2 hs, h2⟩
theorem yJ7 (L : List Spn) (n : Int) : inS (L.filter fun s => !zU3 s) n ↔ inS L n := by
  unfold inS
  constructor
  · rintro ⟨s, hs, h2⟩; exact ⟨s, (List.mem_filter.1 hs).1, h2⟩
  · rintro ⟨s, hs, h2⟩
    exact ⟨s, List.mem_filter.2 ⟨hs, by simp only [zU3, Bool.not_eq_true', decide_eq_false_iff_not]; omega⟩, h2⟩
def zR5 : List Spn → Prop
  | [] => True
  | s :: L => s.1 < s.2 ∧ (∀ t ∈ L, s.2 < t.1) ∧ zR5 L
theorem zR5.lo : ∀ {L : List Spn} {s : Spn}, zR5 (s :: L) → ∀ n, inS (s :: L) n → s.1 ≤ n
  | L, s, ⟨h1, h2, h3⟩, n, h => by
    rcases (zK4 s L n).1 h with h | ⟨t, ht, h4, h5⟩
    · exact h.1
    · have := h2 t ht; omega
theorem qN7 : ∀ (A B : List Spn), zR5 A → zR5 B → (∀ n, inS A n ↔ inS B n) → A = B
  | [], [], _, _, _ => rfl
  | [], t :: B, _, hB, h => absurd ((h t.1).2 ⟨t, by simp, Int.le_refl _, hB.1⟩) (yB3 _)
  | s :: A, [], hA, _, h => absurd ((h s.1).1 ⟨s, by simp, Int.le_refl _, hA.1⟩) (yB3 _)
  | s :: A, t :: B, hA, hB, h => by
    have h1 : s.1 = t.1 := by
      have g1 := hB.lo s.1 ((h s.1).1 ⟨s, by simp, Int.le_refl _, hA.1⟩)
      have g2 := hA.lo t.1 ((h t.1).2 ⟨t, by simp, Int.le_refl _, hB.1⟩)
      omega
    have key : ∀ {s t : Spn} {A B : List Spn}, zR5 (s :: A) → zR5 (t :: B) → (∀ n, inS (s :: A) n ↔ inS (t :: B) n) → s.1 = t.1 → t.2 ≤ s.2 := by
      intro s t A B hA hB h h1
      by_cases hlt : s.2 < t.2
      · exfalso
        have g := (h s.2).2 ⟨t, by simp, by have := hA.1; omega, hlt⟩
        rcases (zK4 s A s.2).1 g with g | ⟨u, hu, g1, g2⟩
        · omega
        · have := hA.2.1 u hu; omega
      · omega
    have h2 : s.2 = t.2 := by
      have g1 := key hA hB h h1
      have g2 := key hB hA (fun n => (h n).symm) h1.symm
      omega
    have h3 : s = t := Prod.ext h1 h2
    subst h3
    congr 1
    refine qN7 A B hA.2.2 hB.2.2 fun n => ?_
    have g := h n
    rw [zK4, zK4] at g
    constructor
    · intro hn
      obtain ⟨u, hu, g1, g2⟩ := hn
      have g3 := hA.2.1 u hu
      rcases g.1 (.inr ⟨u, hu, g1, g2⟩) with g4 | g4
      · omega
      · exact g4
    · intro hn
      obtain ⟨u, hu, g1, g2⟩ := hn
      have g3 := hB.2.1 u hu
      rcases g.2 (.inr ⟨u, hu, g1, g2⟩) with g4 | g4
      · omega
      · exact g4
/-! ### Norm: what is sorted is joined; the last one is at the list's head here -/
def zO5 (out : List Spn) (s : Spn) : List Spn := match out with
  | [] => [s]
  | t :: r => if s.1 ≤ t.2 then (t.1, max t.2 s.2) :: r else s :: t :: r
def yS0 (L : List Spn) : List Spn := L.foldl zO5 []
def RevR : List Spn → Prop
  | [] => True
  | s :: L => s.1 < s.2 ∧ (∀ t ∈ L, t.2 < s.1) ∧ RevR L
theorem qN8 : ∀ {L : List Spn}, RevR L → ∀ {R : List Spn}, zR5 R → (∀ t ∈ L, ∀ u ∈ R, t.2 < u.1) → zR5 (L.reverse ++ R)
  | [], _, R, hR, _ => by simpa using hR
  | s :: L, h, R, hR, hs => by
    rw [List.reverse_cons, List.append_assoc]
    refine qN8 h.2.2 ⟨h.1, fun t ht => hs s (by simp) t ht, hR⟩ ?_
    intro t ht u hu
    rcases List.mem_cons.1 hu with rfl | hu
    · exact h.2.1 t ht
    · exact hs t (by simp [ht]) u hu
theorem jD2 {out : List Spn} {s : Spn} (h : RevR out) (hs : s.1 < s.2) (hle : ∀ t ∈ out, t.1 ≤ s.1) : RevR (zO5 out s) ∧ (∀ t ∈ zO5 out s, t.1 ≤ s.1) ∧ ∀ n, inS (zO5 out s) n ↔ inS out n ∨ (s.1 ≤ n ∧ n < s.2) := by
  cases out with
  | nil => exact ⟨⟨hs, fun t ht => by simp at ht, trivial⟩, fun t ht => by simp [zO5] at ht; subst ht; exact Int.le_refl _, fun n => by simp [zO5, inS]⟩
  | cons t r =>
    obtain ⟨h1, h2, h3⟩ := h
    have h4 := hle t (by simp)
    unfold zO5
    by_cases hc : s.1 ≤ t.2
    · simp only [if_pos hc]
      refine ⟨⟨by simp only []; omega, h2, h3⟩, fun u hu => ?_, fun n => ?_⟩
      · rcases List.mem_cons.1 hu with rfl | hu
        · exact h4
        · exact hle u (by simp [hu])
      · rw [zK4, zK4]
        simp only []
        constructor
        · rintro (g | g)
          · by_cases hn : n < t.2
            · exact .inl (.inl ⟨g.1, hn⟩)
            · exact .inr ⟨by omega, by omega⟩
          · exact .inl (.inr g)
        · rintro ((g | g) | g)
          · exact .inl ⟨g.1, by omega⟩
          · exact .inr g
          · exact .inl ⟨by omega, by omega⟩
    · simp only [if_neg hc]
      refine ⟨⟨hs, fun u hu => ?_, h1, h2, h3⟩, fun u hu => ?_, fun n => ?_⟩
      · rcases List.mem_cons.1 hu with rfl | hu
        · omega
        · have := h2 u hu; omega
      · rcases List.mem_cons.1 hu with rfl | hu
        · exact Int.le_refl _
        · exact hle u hu
      · rw [zK4 s]; exact or_comm
theorem yS1 : ∀ (L out : List Spn), RevR out → (∀ s ∈ L, s.1 < s.2) → (∀ t ∈ out, ∀ s ∈ L, t.1 ≤ s.1) → L.Pairwise (fun a b => a.1 ≤ b.1) → RevR (L.foldl zO5 out) ∧ ∀ n, inS (L.foldl zO5 out) n ↔ inS out n ∨ inS L n
  | [], out, h, _, _, _ => ⟨h, fun n => by simp [inS]⟩
  | s :: L, out, h, hs, hle, hp => by
    obtain ⟨g1, g2, g3⟩ := jD2 h (hs s (by simp)) (fun t ht => hle t ht s (by simp))
    obtain ⟨hp1, hp2⟩ := List.pairwise_cons.1 hp
    obtain ⟨k1, k2⟩ := yS1 L (zO5 out s) g1 (fun t ht => hs t (by simp [ht])) (fun t ht u hu => Int.le_trans (g2 t ht) (hp1 u hu)) hp2
    refine ⟨k1, fun n => ?_⟩
    show inS (L.foldl zO5 (zO5 out s)) n ↔ _
    rw [k2, g3, zK4]
    exact or_assoc
def yB4 (L : List Spn) : List Spn := (yS0 L).reverse
theorem yX6 {L : List Spn} (hs : ∀ s ∈ L, s.1 < s.2) (hp : L.Pairwise (fun a b => a.1 ≤ b.1)) : zR5 (yB4 L) ∧ ∀ n, inS (yB4 L) n ↔ inS L n := by
  obtain ⟨h1, h2⟩ := yS1 L [] trivial hs (fun t ht => by simp at ht) hp
  refine ⟨by have := qN8 h1 (R := []) trivial (fun t _ u hu => by simp at hu); simpa [yB4, yS0] using this, fun n => ?_⟩
  rw [yB4, yF7 (List.reverse_perm _), yS0, h2]
  exact ⟨fun h => h.resolve_left (yB3 n), .inr⟩
structure NormOf (L N : List Spn) : Prop where
  right : zR5 N
  pts : ∀ n, inS N n ↔ inS L n
theorem NormOf.same {L M A B : List Spn} (h : NormOf L A) (k : NormOf M B) (hp : ∀ n, inS L n ↔ inS M n) : A = B := qN7 A B h.right k.right fun n => by rw [h.pts, k.pts, hp]
theorem yS2 {L d : List Spn} (hperm : d.Perm (L.filter fun s => !zU3 s)) (hp : d.Pairwise (fun a b => a.1 ≤ b.1)) : NormOf L (yB4 d) := by
  have hs : ∀ s ∈ d, s.1 < s.2 := fun s hs => by
    have := (List.mem_filter.1 (hperm.mem_iff.1 hs)).2
    simp only [zU3, Bool.not_eq_true', decide_eq_false_iff_not] at this
    omega
  obtain ⟨h1, h2⟩ := yX6 hs hp
  exact ⟨h1, fun n => by rw [h2, yF7 hperm, yJ7]⟩
/-! ### holes -/
def putS (f t : Int) : List Spn := if f < t then [(f, t)] else []
def jA4 : List Spn → Int → Int → List Spn
  | [], f, t => putS f t
  | a :: N, f, t => putS f (min a.1 t) ++ jA4 N (max f a.2) t
theorem yF8 {L : List Spn} {i c : Nat} (hi : i < L.length) (hc : c < 2) : (encL L)[i * 2 + c]? = (encS L[i])[c]? := by
  have := congrArg (fun l : List Value => l[c]?) (yB2 hi)
  simp only [List.getElem?_take, hc, if_true, List.getElem?_drop] at this
  exact this
theorem qD4 {w : World} {base n m c sz : Nat} {T : TypeId} {ad : Option Addr} {xs : List Value} (h : w.ownsRow base T sz (.slice ad n c) m xs) : n = m := by
  rcases h.2 with ⟨hv, hm⟩ | ⟨q, cap, cur, hv, _⟩
  · simp only [Value.slice.injEq] at hv
    omega
  · simp only [Value.slice.injEq] at hv
    exact hv.2.1
abbrev gS (L : List Spn) (i : Nat) : Spn := L.getD i (0, 0)
theorem qG3 {L : List Spn} {i : Nat} (h : i < L.length) : gS L i = L[i] := by simp [gS, List.getD_eq_getElem?_getD, h]
theorem jA5 {w : World} {ad : Option Addr} {n i : Nat} {L : List Spn} (R : RowAt w 2 ad n (encL L)) (h : i < n) : ((encL L).drop (i * 2)).take 2 = [.int .i64 (gS L i).1, .int .i64 (gS L i).2] := by
  have hl := R.len
  rw [zK3] at hl
  rw [yB2 (show i < L.length by omega), qG3 (show i < L.length by omega)]; rfl
theorem yF9 {w : World} {ad : Option Addr} {n : Nat} {L : List Spn} (R : RowAt w 2 ad n (encL L)) : L.length = n := by
  have hl := R.len
  rw [zK3] at hl
  omega
def addG : List Spn → Spn → Bool → List Spn
  | [], s, laid => if laid then [] else [s]
  | t :: r, s, laid => if t.2 < s.1 then t :: addG r s laid else if t.1 > s.2 then (if laid then t :: addG r s laid else s :: t :: addG r s true) else addG r (min s.1 t.1, max s.2 t.2) laid
def addS (L : List Spn) (s : Spn) : List Spn := if zU3 s then L else addG L s false
theorem qV5 : ∀ {L : List Spn} {s : Spn}, zR5 L → s.1 < s.2 → (∀ t ∈ L, s.2 < t.1) → addG L s true = L
  | [], _, _, _, _ => rfl
  | t :: r, s, h, hs, hl => by
    have h1 := hl t (by simp)
    have h2 := h.1
    rw [addG, if_neg (by omega), if_pos h1, if_pos rfl, qV5 h.2.2 hs (fun u hu => hl u (by simp [hu]))]
theorem yB5 : ∀ {L : List Spn} {s : Spn}, zR5 L → s.1 < s.2 → zR5 (addG L s false) ∧ (∀ n, inS (addG L s false) n ↔ inS L n ∨ (s.1 ≤ n ∧ n < s.2)) ∧ ∀ b, (b < s.1 ∧ ∀ t ∈ L, b < t.1) → ∀ t ∈ addG L s false, b < t.1
  | [], s, h, hs => by
    simp only [addG, Bool.false_eq_true, if_false]
    exact ⟨⟨hs, fun t ht => by simp at ht, trivial⟩, fun n => by simp [inS], fun b hb t ht => by simp at ht; subst ht; exact hb.1⟩
  | t :: r, s, h, hs => by
    obtain ⟨h1, h2, h3⟩ := h
    rw [addG]
    by_cases c1 : t.2 < s.1
    · rw [if_pos c1]
      obtain ⟨g1, g2, g3⟩ := yB5 h3 hs
      refine ⟨⟨h1, g3 t.2 ⟨c1, h2⟩, g1⟩, fun n => ?_, fun b hb u hu => ?_⟩
      · rw [zK4, g2, zK4, or_assoc]
      · rcases List.mem_cons.1 hu with rfl | hu
        · exact hb.2 u (by simp)
        · exact g3 b ⟨hb.1, fun v hv => hb.2 v (by simp [hv])⟩ u hu
    · rw [if_neg c1]
      by_cases c2 : t.1 > s.2
      · rw [if_pos c2, if_neg (by simp), qV5 h3 hs (fun u hu => by have := h2 u hu; omega)]
        refine ⟨⟨hs, fun u hu => ?_, h1, h2, h3⟩, fun n => ?_, fun b hb u hu => ?_⟩
        · rcases List.mem_cons.1 hu with rfl | hu
          · exact c2
          · have := h2 u hu; omega
        · rw [zK4 s]; exact or_comm
        · rcases List.mem_cons.1 hu with rfl | hu
          · exact hb.1
          · exact hb.2 u hu
      · rw [if_neg c2]
        obtain ⟨g1, g2, g3⟩ := yB5 (s := (min s.1 t.1, max s.2 t.2)) h3 (by simp only []; omega)
        refine ⟨g1, fun n => ?_, fun b hb u hu => ?_⟩
        · rw [g2, zK4]
          simp only []
          constructor
          · rintro (g | g)
            · exact .inl (.inr g)
            · by_cases hn : t.1 ≤ n ∧ n < t.2
              · exact .inl (.inl hn)
              · exact .inr (by omega)
          · rintro ((g | g) | g)
            · exact .inr (by omega)
            · exact .inl g
            · exact .inr (by omega)
        · have hbt := hb.2 t (by simp)
          exact g3 b ⟨by simp only []; omega, fun v hv => hb.2 v (by simp [hv])⟩ u hu
theorem jD3 {L O : List Spn} {s : Spn} (h : NormOf L O) : NormOf (L ++ [s]) (addS O s) := by
  unfold addS zU3
  by_cases hs : s.2 ≤ s.1
  · rw [if_pos (by simpa using hs)]
    refine ⟨h.right, fun n => ?_⟩
    rw [h.pts, qN6]
    exact ⟨.inl, fun g => g.elim id fun ⟨u, hu, g1, g2⟩ => by simp at hu; subst hu; omega⟩
  · rw [if_neg (by simpa using hs)]
    obtain ⟨g1, g2, -⟩ := yB5 h.right (show s.1 < s.2 by omega)
    refine ⟨g1, fun n => ?_⟩
    rw [g2, h.pts, qN6]
    simp [inS]
theorem yX7 : NormOf [] [] := ⟨trivial, fun _ => Iff.rfl⟩
theorem yG0 : ∀ (L : List Spn) (s : Spn) (b : Bool), (addG L s b).length ≤ L.length + 1
  | [], s, b => by unfold addG; cases b <;> simp
  | t :: r, s, b => by
    have h1 := fun s b => yG0 r s b
    unfold addG
    split
    · simp only [List.length_cons]; have := h1 s b; omega
    · split
      · split
        · simp only [List.length_cons]; have := h1 s b; omega
        · rename_i h2 h3
          simp only [List.length_cons]
          have hl : ∀ (r : List Spn) (s : Spn), (addG r s true).length ≤ r.length := by
            intro r
            induction r with
            | nil => intro s; simp [addG]
            | cons u r ih =>
              intro s
              unfold addG
              split
              · simp only [List.length_cons]; have := ih s; omega
              · split
                · simp only [if_true, List.length_cons]; have := ih s; omega
                · have := ih (min s.1 u.1, max s.2 u.2); simp only [List.length_cons]; omega
          have := hl r s
          omega
      · have := h1 (min s.1 t.1, max s.2 t.2) b; simp only [List.length_cons]; omega
theorem yX8 (L : List Spn) (s : Spn) : (addS L s).length ≤ L.length + 1 := by
  unfold addS
  split
  · omega
  · exact yG0 _ _ _
theorem yX9 {w : World} {base : Nat} {T : TypeId} {v : Value} {O : List Spn} {s : Spn} (h : w.ownsRow base T 2 v (O.length + 1) (encL O ++ [.int .i64 s.1, .int .i64 s.2])) : w.ownsRow base T 2 v (O ++ [s]).length (encL (O ++ [s])) := by
  rw [List.length_append, zK7]
  exact h
def nrm (L : List Spn) : List Spn := L.foldl addS []
theorem yY0 (L : List Spn) (s : Spn) : nrm (L ++ [s]) = addS (nrm L) s := by unfold nrm; rw [List.foldl_append]; rfl
theorem yY1 {L : List Spn} {k : Nat} (h : k < L.length) : addS (nrm (L.take k)) (gS L k) = nrm (L.take (k + 1)) := by
  rw [List.take_succ_eq_append_getElem h, yY0, qG3 h]
theorem qQ1 : ∀ (L : List Spn) (k : Nat), k ≤ L.length → NormOf (L.take k) (nrm (L.take k)) ∧ (nrm (L.take k)).length ≤ k
  | L, 0, _ => by rw [List.take_zero]; exact ⟨yX7, Nat.le_refl _⟩
  | L, k + 1, h => by
    obtain ⟨h1, h2⟩ := qQ1 L k (by omega)
    have h3 := yX8 (nrm (L.take k)) (gS L k)
    rw [← yY1 (show k < L.length by omega)]
    refine ⟨?_, by omega⟩
    rw [List.take_succ_eq_append_getElem (show k < L.length by omega), ← qG3]
    exact jD3 h1
theorem jG2 (L : List Spn) : NormOf L (nrm L) := by have := (qQ1 L L.length (Nat.le_refl _)).1; rwa [List.take_length] at this
theorem jD4 (L : List Spn) : (nrm L).length ≤ L.length := by have := (qQ1 L L.length (Nat.le_refl _)).2; rwa [List.take_length] at this
def pwT (A : List (List Int)) (seg a : Int) : Pt := decP (zH2 A seg a).1
def zL5 (A : List (List Int)) (l : List Spn) (seg a : Int) : List Spn := if zH7 (zC1 A) seg a < 0 then l else l ++ [(zH7 (zC1 A) seg a, zH7 (zC1 A) seg a + 1)]
def zH9 (A : List (List Int)) (l : List Spn) (seg a : Int) : List Spn :=
  if (pwT A seg a).kind ≠ 3 then zL5 A l seg a
  else if (pwT A seg a).dbl = true then zL5 A (zL5 A (zL5 A l seg a) (pwT A seg a).seg (pwT A seg a).off) (pwT A seg a).seg ((pwT A seg a).off + 1)
  else zL5 A (zL5 A l seg a) (pwT A seg a).seg (pwT A seg a).off
def atT (o : Ob) (k : Int) : Int := if o.kind = 1 then o.at_ + k + o.data else o.at_ + k
def goT (A : List (List Int)) : List Int → List Spn → Ob → List Spn × Ob
  | [], l, o => (l, o)
  | k :: ks, l, o => if o.kind = 0 ∨ (o.kind = 1 ∧ k ≥ o.ptrs) then goT A ks l Ob0 else goT A ks (zH9 A l o.seg (atT o k)) (zA0 (zB7 A) o.seg (atT o k)).1
def endT (A : List (List Int)) (l : List Spn) (o : Ob) (k : Int) : List Spn :=
  if k < 0 ∨ o.kind = 0 ∨ (o.kind = 1 ∧ k ≥ o.data) then l else zL5 A l o.seg (o.at_ + if o.kind = 2 ∧ o.size = 2 then k / 8 else k)
def zY3 (A : List (List Int)) (ks : List Int) (a : Int) : List Spn :=
  endT A (goT A ks (zH9 A [] 0 0) (zA0 (zB7 A) 0 0).1).1 (goT A ks (zH9 A [] 0 0) (zA0 (zB7 A) 0 0).1).2 a
/-! ### each span is one word of the arena -/
def oneW (A : List (List Int)) (l : List Spn) : Prop := ∀ s ∈ l, ∃ k : Nat, s = ((k : Int), (k : Int) + 1) ∧ k < A.flatten.length
theorem oneW.note {A : List (List Int)} (h : zD1 A = true) {l : List Spn} (hl : oneW A l) (seg a : Int) : oneW A (zL5 A l seg a) ∧ (zL5 A l seg a).length ≤ l.length + 1 := by
  unfold zL5
  rcases yB1 h seg a with ⟨h1, h2⟩ | ⟨k, h1, h2, h3⟩
  · rw [if_pos h1]; exact ⟨hl, by omega⟩
  · have hn : ¬ zH7 (zC1 A) seg a < 0 := by omega
    rw [if_neg hn, h1]
    refine ⟨fun s hs => ?_, by simp⟩
    rcases List.mem_append.1 hs with hs | hs
    · exact hl s hs
    · simp only [List.mem_singleton] at hs; exact ⟨k, hs, h2⟩
theorem oneW.follow {A : List (List Int)} (h : zD1 A = true) {l : List Spn} (hl : oneW A l) (seg a : Int) : oneW A (zH9 A l seg a) ∧ (zH9 A l seg a).length ≤ l.length + 3 := by
  unfold zH9
  obtain ⟨h1, h2⟩ := hl.note h seg a
  obtain ⟨h3, h4⟩ := h1.note h (pwT A seg a).seg (pwT A seg a).off
  obtain ⟨h5, h6⟩ := h3.note h (pwT A seg a).seg ((pwT A seg a).off + 1)
  split
  · exact ⟨h1, by omega⟩
  · split
    · exact ⟨h5, by omega⟩
    · exact ⟨h3, by omega⟩
theorem oneW.go {A : List (List Int)} (h : zD1 A = true) : ∀ (ks : List Int) {l : List Spn} (o : Ob), oneW A l → oneW A (goT A ks l o).1 ∧ (goT A ks l o).1.length ≤ l.length + 3 * ks.length
  | [], l, o, hl => ⟨hl, by simp [goT]⟩
  | k :: ks, l, o, hl => by
    rw [goT]
    split
    · obtain ⟨h1, h2⟩ := oneW.go h ks Ob0 hl; exact ⟨h1, by simp only [List.length_cons]; omega⟩
    · obtain ⟨h1, h2⟩ := hl.follow h o.seg (atT o k)
      obtain ⟨h3, h4⟩ := oneW.go h ks (zA0 (zB7 A) o.seg (atT o k)).1 h1
      exact ⟨h3, by simp only [List.length_cons]; omega⟩
theorem oneW.end_ {A : List (List Int)} (h : zD1 A = true) {l : List Spn} (hl : oneW A l) (o : Ob) (k : Int) : oneW A (endT A l o k) ∧ (endT A l o k).length ≤ l.length + 1 := by
  unfold endT
  split
  · exact ⟨hl, by omega⟩
  · exact hl.note h _ _
theorem yS3 {A : List (List Int)} (h : zD1 A = true) (ks : List Int) (a : Int) : oneW A (zY3 A ks a) ∧ (zY3 A ks a).length ≤ 3 * ks.length + 4 := by
  unfold zY3
  obtain ⟨h1, h2⟩ := oneW.follow h (l := []) (fun s hs => by simp at hs) 0 0
  obtain ⟨h3, h4⟩ := oneW.go h ks (zA0 (zB7 A) 0 0).1 h1
  obtain ⟨h5, h6⟩ := h3.end_ h (goT A ks (zH9 A [] 0 0) (zA0 (zB7 A) 0 0).1).2 a
  simp only [List.length_nil] at h2
  exact ⟨h5, by omega⟩
/-! ### where the touched words are there, the answer is the whole's -/
section
variable {A : List (List Int)} {wl kb : List Int}
end
/-! ### the chunks of the spans -/
theorem jH5 {s : Src} {ks : List Int} {a c : Int} (h : (zF9 s ks a c).2 = 0) : (∀ k ∈ ks, 0 ≤ k) ∧ ks.length ≤ 32 ∧ ∃ left, (zZ4 s a ks (zA0 s 0 0).1 left).2 = 0 := by
  unfold zF9 at h
  by_cases h1 : ∃ k ∈ ks, k < 0
  · rw [if_pos h1] at h; simp at h
  · rw [if_neg h1] at h
    by_cases h2 : (ks.length : Int) > 32
    · rw [if_pos h2] at h; simp at h
    · rw [if_neg h2] at h
      by_cases h3 : (zA0 s 0 0).2 ≠ 0
      · rw [if_pos h3] at h; exact absurd h h3
      · rw [if_neg h3] at h
        by_cases h4 : max c (-1) - (1 + zB2 (zA0 s 0 0).1) < 0
        · rw [if_pos h4] at h; simp at h
        · rw [if_neg h4] at h
          exact ⟨fun k hk => by by_cases g : k < 0; exact absurd ⟨k, hk, g⟩ h1; omega, by omega, _, h⟩
theorem zT2 (A : List (List Int)) (l : List Spn) (seg a : Int) : (zL5 A l seg a).length ≤ l.length + 1 := by unfold zL5; split <;> simp
inductive Dec (s : Src) : Ob → Nd → Prop
  | mk (o : Ob) (ks : List Nd) (hl : (ks.length : Int) = kidN o) (he : ∀ j : Nat, j < ks.length → (zA0 s o.seg (kidA o + (j : Int))).2 = 0)
      (hd : ∀ (j : Nat) (hj : j < ks.length), Dec s (zA0 s o.seg (kidA o + (j : Int))).1 ks[j]) : Dec s o (.mk o.kind o.size (nodL s o) (nodB s o) ks)
theorem yS4 {o : Ob} (hk : ObK o) (h : o.kind = 0) : kidN o = 0 := by
  rcases hk with rfl | h1 | h1
  · rfl
  · omega
  · omega
theorem qV6 {o : Ob} (hk : ObK o) (hr : ObR o) : zB2 o = if o.kind = 1 then o.data + o.ptrs else if o.kind = 2 then (if o.size = 2 then (o.count + 7) / 8 else o.count) else 0 := by
  have r1 := hr.data
  have r2 := hr.ptrs
  have r3 := hr.count
  have r4 := hr.kind
  unfold zB2
  rw [if_neg (by omega), yR3, qJ3]
  by_cases h1 : o.kind = 1
  · rw [if_neg (by omega), if_pos h1, if_pos h1, zI4 (by simp only [inR]; omega)]
  · by_cases h2 : o.kind = 2
    · rw [if_neg (by omega), if_neg h1, if_neg (by omega), if_pos h2, if_neg h1, if_pos h2]
      rcases hk with rfl | h | ⟨-, -, -, h⟩
      · simp [Ob0] at h2
      · omega
      · by_cases h3 : o.size = 2
        · rw [if_pos h3, if_pos h3, zI4 (by simp only [inR]; omega : inR .i64 (o.count + 8)), zI4 (by simp only [inR]; omega : inR .i64 (o.count + 8 - 1)), Int.tdiv_eq_ediv_of_nonneg (by omega), zI4 (by simp only [inR]; omega)]
          omega
        · rw [if_neg h3, if_neg h3, if_pos (by omega)]
    · rw [if_pos (by omega), if_neg h1, if_neg h2]
theorem qQ2 (s : Src) (o : Ob) : (nodL s o).length = (if o.size = 5 then o.count else o.data).toNat := zG8 _ _ _ _
theorem qQ3 (s : Src) (o : Ob) : (nodB s o).length = if o.size = 2 then o.count.toNat else 0 := by
  unfold nodB; split
  · exact zL0 _ _ _ _
  · rfl
theorem qQ4 {s : Src} {o : Ob} {t : Nd} (h : Dec s o t) (hk : ObK o) (hr : ObR o) : t.need = zB2 o := by
  obtain ⟨o, ks, hl, -, -⟩ := h
  rw [qV6 hk hr]
  have r1 := hr.data
  have r2 := hr.ptrs
  have r3 := hr.count
  have r4 := hr.kind
  simp only [Nd.need, qQ2, qQ3]
  unfold kidN at hl
  by_cases h1 : o.kind = 1
  · rw [if_pos h1, if_pos h1]
    have h5 : o.size = 0 := by
      rcases hk with rfl | h | h
      · simp [Ob0] at h1
      · exact h.2.1
      · omega
    rw [if_neg (by omega)] at hl
    rw [if_neg (by omega)]; omega
  · by_cases h2 : o.kind = 2
    · rw [if_neg h1, if_pos h2, if_neg h1, if_pos h2]
      rcases hk with rfl | h | ⟨-, g1, g2, h⟩
      · simp [Ob0] at h2
      · omega
      · rcases h with h | h | h
        · rw [if_neg (by omega)] at hl
          rw [if_neg (by omega), if_pos h, if_pos h]; omega
        · rw [if_neg (by omega)] at hl
          rw [if_pos h, if_neg (by omega), if_neg (by omega)]; omega
        · rw [if_pos h] at hl
          rw [if_neg (by omega), if_neg (by omega), if_neg (by omega)]; omega
    · rw [if_neg h1, if_neg h2, if_neg h1, if_neg h2]
theorem yJ8 {f : Int → Int → Int × Nd × Int} {a p r : Int} {n : Nat} {ks : List Nd} (h : zI2 f a p (n + 1) = (r, ks, 0)) :
    ∃ q ts t, zI2 f a p n = (q, ts, 0) ∧ f (a + (n : Int)) q = (r, t, 0) ∧ ks = ts ++ [t] := by
  rw [zI2] at h
  by_cases h0 : (zI2 f a p n).2.2 ≠ 0
  · rw [if_pos h0] at h
    rw [h] at h0
    exact absurd rfl h0
  · rw [if_neg h0] at h
    have h1 : (zI2 f a p n).2.2 = 0 := by simpa using h0
    simp only [Prod.mk.injEq] at h
    obtain ⟨g1, g2, g3⟩ := h
    refine ⟨(zI2 f a p n).1, (zI2 f a p n).2.1, (f (a + (n : Int)) (zI2 f a p n).1).2.1, by rw [← h1], ?_, g2.symm⟩
    rw [← g1, ← g3]
theorem yG1 : ∀ (a b : List Nd), Nd.cstL (a ++ b) = Nd.cstL a + Nd.cstL b
  | [], b => by rw [List.nil_append]; simp [Nd.cstL]
  | t :: a, b => by rw [List.cons_append, Nd.cstL, Nd.cstL, yG1 a b]; omega
theorem qV7 {f : Int → Int → Int × Nd × Int} {P : Int → Nd → Prop} (hf : ∀ a p q t, f a p = (q, t, 0) → P a t ∧ q = p + t.cst) (a p : Int) : ∀ (n : Nat) (r : Int) (ks : List Nd), zI2 f a p n = (r, ks, 0) → ks.length = n ∧ (∀ (j : Nat) (hj : j < ks.length), P (a + (j : Int)) ks[j]) ∧ r = p + Nd.cstL ks
  | 0, r, ks, h => by
    simp only [zI2, Prod.mk.injEq] at h
    obtain ⟨rfl, rfl, -⟩ := h
    exact ⟨rfl, fun j hj => by simp at hj, by simp [Nd.cstL]⟩
  | n + 1, r, ks, h => by
    obtain ⟨q, ts, t, h1, h2, rfl⟩ := yJ8 h
    obtain ⟨i1, i2, i3⟩ := qV7 hf a p n q ts h1
    obtain ⟨j1, j2⟩ := hf _ _ _ _ h2
    refine ⟨by simp [i1], fun j hj => ?_, ?_⟩
    · by_cases hjn : j < n
      · rw [List.getElem_append_left (by omega)]; exact i2 j (by omega)
      · have hjn : j = n := by simp only [List.length_append, List.length_singleton] at hj; omega
        subst hjn
        rw [List.getElem_append_right (by omega)]
        simp only [i1, Nat.sub_self, List.getElem_cons_zero]
        exact j1
    · rw [yG1, Nd.cstL, Nd.cstL, j2, i3]; omega
theorem yS5 {s : Src} (hr : ∀ seg a, ObR (zA0 s seg a).1) : ∀ (d : Nat) (seg a p q : Int) (t : Nd), zE9 s d seg a p = (q, t, 0) → (zA0 s seg a).2 = 0 ∧ Dec s (zA0 s seg a).1 t ∧ q = p + t.cst := by
  have step : ∀ (d : Nat), (d ≠ 0 → ∀ (seg a p q : Int) (t : Nd), zQ2 s d seg a p = (q, t, 0) → ((zA0 s seg a).2 = 0 ∧ Dec s (zA0 s seg a).1 t) ∧ q = p + t.cst) → ∀ (seg a p q : Int) (t : Nd), zE9 s d seg a p = (q, t, 0) → (zA0 s seg a).2 = 0 ∧ Dec s (zA0 s seg a).1 t ∧ q = p + t.cst := by
    intro d hf seg a p q t h
    have hR := hr seg a
    have hK := zL1 s seg a
    rw [zU0] at h
    unfold qC8 at h
    generalize ho : (zA0 s seg a).1 = o at h hR hK ⊢
    by_cases h1 : (zA0 s seg a).2 ≠ 0
    · rw [if_pos h1] at h; simp only [Prod.mk.injEq] at h; exact absurd h.2.2 h1
    · rw [if_neg h1] at h
      by_cases h2 : o.kind ≠ 0 ∧ (d == 0) = true
      · rw [if_pos h2] at h; simp at h
      · rw [if_neg h2] at h
        by_cases h3 : p + (1 + zB2 o) > 8192
        · rw [if_pos h3] at h; simp at h
        · rw [if_neg h3] at h
          generalize hks : zI2 (zQ2 s d o.seg) (kidA o) (p + (1 + zB2 o)) (kidN o).toNat = K at h
          by_cases h4 : K.2.2 ≠ 0
          · rw [if_pos h4] at h; simp only [Prod.mk.injEq] at h; exact absurd h.2.2 h4
          · rw [if_neg h4] at h
            have h5 : K.2.2 = 0 := by simpa using h4
            simp only [Prod.mk.injEq] at h
            obtain ⟨rfl, rfl, -⟩ := h
            have hn0 : 0 ≤ kidN o := by unfold kidN; have := hR.count; have := hR.ptrs; split <;> omega
            have key : K.2.1.length = (kidN o).toNat ∧ (∀ (j : Nat) (hj : j < K.2.1.length), (zA0 s o.seg (kidA o + (j : Int))).2 = 0 ∧ Dec s (zA0 s o.seg (kidA o + (j : Int))).1 K.2.1[j]) ∧ K.1 = (p + (1 + zB2 o)) + Nd.cstL K.2.1 := by
              by_cases hz : o.kind = 0
              · have hkn := yS4 hK hz
                rw [hkn] at hks ⊢
                have hks2 : K = (p + (1 + zB2 o), [], 0) := hks.symm.trans rfl
                rw [hks2]
                exact ⟨rfl, fun j hj => by simp at hj, by simp [Nd.cstL]⟩
              · have hd : d ≠ 0 := fun hd => h2 ⟨hz, by rw [hd]; rfl⟩
                have hK5 : K = (K.1, K.2.1, 0) := by rw [← h5]
                exact qV7 (P := fun x t => (zA0 s o.seg x).2 = 0 ∧ Dec s (zA0 s o.seg x).1 t) (fun x p q t h => hf hd _ _ _ _ _ h) (kidA o) (p + (1 + zB2 o)) _ _ _ (hks.trans hK5)
            obtain ⟨k1, k2, k3⟩ := key
            have hD : Dec s o (.mk o.kind o.size (nodL s o) (nodB s o) K.2.1) := Dec.mk o K.2.1 (by omega) (fun j hj => (k2 j hj).1) (fun j hj => (k2 j hj).2)
            refine ⟨by simpa using h1, hD, ?_⟩
            rw [Nd.cst, qQ4 hD hK hR, k3]; omega
  intro d
  induction d with
  | zero => exact step 0 (fun h => absurd rfl h)
  | succ d ih => exact step (d + 1) (fun _ seg a p q t h => by obtain ⟨i1, i2, i3⟩ := ih seg a p q t h; exact ⟨⟨i1, i2⟩, i3⟩)
/-! ### a step, and what is there -/
theorem yS6 (s : Src) : Dec s Ob0 .nil := Dec.mk Ob0 [] rfl (fun j hj => by simp at hj) (fun j hj => by simp at hj)
theorem yY2 {s : Src} {o : Ob} {t : Nd} (h : Dec s o t) (hk : ObK o) {k : Int} (k0 : 0 ≤ k) :
    (zF8 s o k).2 = (zJ4 t k).2 ∧ ((zJ4 t k).2 = 0 → Dec s (zF8 s o k).1 (zJ4 t k).1) := by
  obtain ⟨o, ks, hl, he, hd⟩ := h
  rw [qH6]
  unfold zF8
  have hkid : ∀ (_ : k < kidN o) (_ : k < ks.length), (zA0 s o.seg (kidA o + k)).2 = 0 ∧ Dec s (zA0 s o.seg (kidA o + k)).1 (ks.getD k.toNat .nil) := fun h1 h2 => by
    have h3 : k.toNat < ks.length := by omega
    have h4 := he k.toNat h3
    have h5 := hd k.toNat h3
    rw [show ((k.toNat : Nat) : Int) = k from by omega] at h4 h5
    rw [List.getD_eq_getElem?_getD, List.getElem?_eq_getElem h3]
    exact ⟨h4, h5⟩
  rcases hk with rfl | ⟨g1, g2, g3⟩ | ⟨g1, g2, g3, g4⟩
  · simp only [Ob0, true_or, if_true, ne_eq, not_true_eq_false, false_and, if_false]
    exact ⟨by first | rfl | trivial, fun _ => yS6 s⟩
  · have hn : kidN o = o.ptrs := by unfold kidN; rw [if_neg (by omega)]
    have hA : kidA o + k = o.at_ + k + o.data := by unfold kidA; rw [if_neg (by omega)]; omega
    rw [if_neg (show ¬ ((o.kind ≠ 0 ∧ o.kind ≠ 1) ∧ o.size ≠ 6) by omega)]
    by_cases h1 : k ≥ o.ptrs
    · rw [if_pos (.inr ⟨g1, h1⟩), if_neg (by omega), if_neg (by omega)]
      exact ⟨rfl, fun _ => yS6 s⟩
    · rw [if_neg (by omega), if_pos g1, if_pos (by omega)]
      obtain ⟨i1, i2⟩ := hkid (by omega) (by omega)
      rw [hA] at i1 i2
      exact ⟨i1, fun _ => i2⟩
  · by_cases h6 : o.size = 6
    · have hn : kidN o = o.count := by unfold kidN; rw [if_pos h6]
      have hA : kidA o + k = o.at_ + k := by unfold kidA; rw [if_pos h6]
      rw [if_neg (show ¬ (o.kind = 0 ∨ (o.kind = 1 ∧ k ≥ o.ptrs)) by omega), if_neg (by omega), if_neg (show ¬ (o.size ≠ 6) by omega), if_neg (show ¬ ((o.kind ≠ 0 ∧ o.kind ≠ 1) ∧ o.size ≠ 6) by omega)]
      by_cases h1 : k ≥ o.count
      · rw [if_pos h1, if_neg (by omega), if_pos (by omega)]
        exact ⟨rfl, fun h => absurd h (by decide)⟩
      · rw [if_neg h1, if_pos (by omega)]
        obtain ⟨i1, i2⟩ := hkid (by omega) (by omega)
        rw [hA] at i1 i2
        exact ⟨i1, fun _ => i2⟩
    · rw [if_neg (show ¬ (o.kind = 0 ∨ (o.kind = 1 ∧ k ≥ o.ptrs)) by omega), if_neg (by omega), if_pos h6, if_pos (show (o.kind ≠ 0 ∧ o.kind ≠ 1) ∧ o.size ≠ 6 by omega)]
      exact ⟨rfl, fun h => absurd h (by decide)⟩
def InO (s : Src) (o : Ob) : Prop := ∀ i : Int, 0 ≤ i → i < zB2 o → (s.word o.seg (o.at_ + i)).2 = 0
theorem qF0 (s : Src) (seg a : Int) {n i : Nat} (h : i < n) : (zJ6 s seg a n).getD i 0 = (s.word seg (a + (i : Int))).1 := by
  rw [zE5 (by rw [zG8]; exact h)]
  simp [zJ6]
theorem yJ9 (s : Src) (seg a : Int) {n i : Nat} (h : i < n) : (zR4 s seg a n).getD i 0 = byt1 (s.word seg (a + (i : Int) / 8)).1 (i % 8) := by
  have hl : i / 8 < (zJ6 s seg a ((n + 7) / 8)).length := by rw [zG8]; omega
  rw [List.getD_eq_getElem?_getD]
  unfold zR4
  rw [List.getElem?_take_of_lt h, qJ7 _ _ (by rw [zG8]; omega), qF0 _ _ _ (by omega)]
  rw [show ((i / 8 : Nat) : Int) = (i : Int) / 8 from by omega]
  rfl
theorem jG3 {s : Src} {o : Ob} {t : Nd} (h : Dec s o t) (hk : ObK o) (hr : ObR o) (hi : InO s o) {k : Int} (k0 : 0 ≤ k) : atS s o k = tat t k := by
  have hw := qV6 hk hr
  obtain ⟨o, ks, hl, he, hd⟩ := h
  have r1 := hr.data
  have r2 := hr.ptrs
  have r3 := hr.count
  rw [qC7]
  simp only [qQ2, qQ3]
  unfold atS
  rcases hk with rfl | ⟨g1, g2, g3⟩ | ⟨g1, g2, g3, g4⟩
  · simp [Ob0]
  · rw [if_pos g1] at hw
    rw [if_neg (show ¬ ((o.kind ≠ 0 ∧ o.kind ≠ 1) ∧ o.size = 6) by omega), if_neg (show ¬ (o.size = 5) by omega)]
    by_cases h1 : k ≥ o.data
    · rw [if_pos (.inr ⟨g1, h1⟩), if_neg (by omega), if_neg (by omega), if_neg (by omega)]
    · rw [if_neg (by omega), if_pos g1, if_pos (by omega)]
      have hz := hi k k0 (by omega)
      unfold nodL
      rw [if_neg (by omega), qF0 _ _ _ (by omega), show ((k.toNat : Nat) : Int) = k from by omega]
      exact Prod.ext rfl hz
  · rw [if_neg (by omega), if_pos g1] at hw
    rw [if_neg (show ¬ (o.kind = 0 ∨ (o.kind = 1 ∧ k ≥ o.data)) by omega), if_neg (by omega)]
    rcases g4 with h2 | h5 | h6
    · rw [if_pos h2] at hw
      rw [if_neg (show ¬ o.size = 6 by omega), if_neg (show ¬ ((o.kind ≠ 0 ∧ o.kind ≠ 1) ∧ o.size = 6) by omega), if_neg (show ¬ o.size = 5 by omega), if_neg (show ¬ o.size = 5 by omega), if_pos h2, if_neg (show ¬ (o.kind ≠ 0 ∧ k < (o.data.toNat : Int)) by omega)]
      by_cases h1 : k ≥ o.count
      · rw [if_pos h1, if_neg (by omega), if_pos (by omega)]
      · rw [if_neg h1, if_pos (by omega)]
        have hz := hi (k / 8) (by omega) (by omega)
        unfold nodB
        rw [if_pos h2, yJ9 _ _ _ (by omega)]
        refine Prod.ext ?_ hz
        show _ = byt1 _ _
        unfold byt1
        rw [show ((k.toNat : Nat) : Int) = k from by omega, show (k % 8 * 8).toNat = 8 * (k.toNat % 8) from by omega]
    · rw [if_neg (by omega)] at hw
      rw [if_neg (show ¬ o.size = 6 by omega), if_neg (show ¬ ((o.kind ≠ 0 ∧ o.kind ≠ 1) ∧ o.size = 6) by omega), if_pos h5, if_pos h5, if_neg (show ¬ o.size = 2 by omega)]
      by_cases h1 : k ≥ o.count
      · rw [if_pos h1, if_neg (by omega), if_neg (by omega), if_pos (by omega)]
      · rw [if_neg h1, if_pos (by omega)]
        have hz := hi k k0 (by omega)
        unfold nodL
        rw [if_pos h5, qF0 _ _ _ (by omega), show ((k.toNat : Nat) : Int) = k from by omega]
        exact Prod.ext rfl hz
    · rw [if_pos h6, if_pos (by omega)]
theorem jD5 {s : Src} {o : Ob} {t : Nd} (h : Dec s o t) (hk : ObK o) (hr : ObR o) (hi : InO s o) (a : Int) : valS s o a = tval t a := by
  unfold valS tval
  have hkind : t.kind = o.kind := by obtain ⟨o, ks, hl, he, hd⟩ := h; rfl
  by_cases ha : a < 0
  · rw [if_pos ha, if_pos ha]
    refine Prod.ext ?_ rfl
    obtain ⟨o, ks, hl, he, hd⟩ := h
    have r1 := hr.data
    have r2 := hr.ptrs
    have r3 := hr.count
    unfold kidN at hl
    show isS o = ⟨o.kind, o.size, ((nodL s o).length : Int) + (nodB s o).length, ks.length, 0⟩
    rw [qQ2, qQ3, hl]
    unfold isS
    rcases hk with rfl | ⟨g1, g2, g3⟩ | ⟨g1, g2, g3, g4⟩
    · simp [Ob0]
    · rw [if_neg (by omega), if_neg (by omega), if_neg (show ¬ o.size = 5 by omega), if_neg (show ¬ o.size = 2 by omega), if_neg (show ¬ o.size = 6 by omega)]
      rw [Vl.mk.injEq]; omega
    · rcases g4 with h2 | h5 | h6
      · rw [if_pos (by omega), if_neg (by omega), if_neg (show ¬ o.size = 5 by omega), if_pos h2, if_neg (show ¬ o.size = 6 by omega)]
        rw [Vl.mk.injEq]; omega
      · rw [if_pos (by omega), if_neg (by omega), if_pos h5, if_neg (show ¬ o.size = 2 by omega), if_neg (show ¬ o.size = 6 by omega)]
        rw [Vl.mk.injEq]; omega
      · rw [if_neg (by omega), if_pos (by omega), if_neg (show ¬ o.size = 5 by omega), if_neg (show ¬ o.size = 2 by omega), if_pos h6]
        rw [Vl.mk.injEq]; omega
  · rw [if_neg ha, if_neg ha, jG3 h hk hr hi (by omega), hkind]
/-! ### a path -/
def pcT : List Int → Nd → Int
  | [], _ => 0
  | k :: ks, t => if (zJ4 t k).2 ≠ 0 then 0 else 1 + (zJ4 t k).1.need + pcT ks (zJ4 t k).1
theorem yS7 : ∀ (ks : List Int) (t : Nd), 0 ≤ pcT ks t
  | [], t => by simp [pcT]
  | k :: ks, t => by
    rw [pcT]
    split
    · omega
    · have := yS7 ks (zJ4 t k).1; have := Nd.need_nn (zJ4 t k).1; omega
theorem yS8 (s : Src) {o : Ob} (hk : ObK o) (k : Int) : ObK (zF8 s o k).1 := by
  unfold zF8
  (repeat' split) <;> first | exact .inl rfl | exact hk | exact zL1 _ _ _
theorem yY3 {s : Src} (hf : ∀ seg a, InO s (zA0 s seg a).1) {o : Ob} (ho : InO s o) (k : Int) : InO s (zF8 s o k).1 := by
  have h0 : InO s Ob0 := fun i i0 i1 => absurd i1 (by have : zB2 Ob0 = 0 := rfl; omega)
  unfold zF8
  (repeat' split) <;> first | exact h0 | exact ho | exact hf _ _
theorem yS9 {s : Src} (hf : ∀ seg a, ObR (zA0 s seg a).1) {o : Ob} (ho : ObR o) (k : Int) : ObR (zF8 s o k).1 := by
  unfold zF8
  (repeat' split) <;> first | exact zD4 | exact ho | exact hf _ _
theorem yG2 {s : Src} (hR : ∀ seg a, ObR (zA0 s seg a).1) (hI : ∀ seg a, InO s (zA0 s seg a).1) (a : Int) : ∀ (ks : List Int) (o : Ob) (t : Nd) (left : Int), Dec s o t → ObK o → ObR o → InO s o → (∀ k ∈ ks, 0 ≤ k) → pcT ks t ≤ left →
    zZ4 s a ks o left = if (tgo ks t).2 ≠ 0 then (Vl0, (tgo ks t).2) else tval (tgo ks t).1 a
  | [], o, t, left, h, hk, hr, hi, _, _ => by
    rw [zZ4, tgo, if_neg (by simp)]
    exact jD5 h hk hr hi a
  | k :: ks, o, t, left, h, hk, hr, hi, h0, hc => by
    obtain ⟨s1, s2⟩ := yY2 h hk (h0 k (by simp))
    rw [zZ4, s1, tgo]
    rw [pcT] at hc
    by_cases he : (zJ4 t k).2 ≠ 0
    · rw [if_pos he, if_pos he, if_pos he]
    · rw [if_neg he] at hc
      rw [if_neg he, if_neg he]
      have hd := s2 (by simpa using he)
      have hk2 := yS8 s hk k
      have hr2 := yS9 hR hr k
      have hw := qQ4 hd hk2 hr2
      have hn := yS7 ks (zJ4 t k).1
      rw [if_neg (by omega)]
      exact yG2 hR hI a ks _ _ _ hd hk2 hr2 (yY3 hI hi k) (fun x hx => h0 x (by simp [hx])) (by omega)
theorem yY4 {s : Src} (hR : ∀ seg a, ObR (zA0 s seg a).1) (hI : ∀ seg a, InO s (zA0 s seg a).1) {t : Nd} (h0 : (zA0 s 0 0).2 = 0) (hd : Dec s (zA0 s 0 0).1 t) {ks : List Int} {a c : Int} (hc : 1 + t.need + pcT ks t ≤ c) : zF9 s ks a c = askT t ks a := by
  have hr := hR 0 0
  have hk := zL1 s 0 0
  have hw := qQ4 hd hk hr
  have hp := yS7 ks t
  have hn := Nd.need_nn t
  unfold zF9 askT
  by_cases h1 : ∃ k ∈ ks, k < 0
  · rw [if_pos h1, if_pos h1]
  · rw [if_neg h1, if_neg h1]
    by_cases h2 : (ks.length : Int) > 32
    · rw [if_pos h2, if_pos h2]
    · rw [if_neg h2, if_neg h2, if_neg (by simp [h0]), ← hw, if_neg (by omega)]
      refine yG2 hR hI a ks _ t _ hd hk hr (hI 0 0) (fun k hk => ?_) (by omega)
      exact Int.not_lt.1 fun h3 => h1 ⟨k, hk, h3⟩
/-! ### what a path costs -/
/-! ### an arena as a source -/
theorem qG4 {A : List (List Int)} {seg a n : Int} (h : zG3 (zB7 A).sizes seg a n = true) : 0 ≤ seg ∧ seg < A.length ∧ 0 ≤ a ∧ 0 ≤ n ∧ a + n ≤ len2 A seg.toNat := by
  unfold zG3 zJ7 at h
  simp only [Bool.and_eq_true, decide_eq_true_eq] at h
  obtain ⟨⟨h3, h4⟩, h5, h6, h7, h8⟩ := h
  have hl : (zB7 A).sizes.length = A.length := by simp [zB7]
  have hz : (zB7 A).sizes.getD seg.toNat 0 = (len2 A seg.toNat : Int) := zI7 A seg.toNat
  rw [hl] at h4
  rw [hz] at h7 h8
  omega
theorem qK2 (A : List (List Int)) (p : Pt) (seg a : Int) : InO (zB7 A) (zB6 (zB7 A) p seg a).1 := by
  have h0 : InO (zB7 A) Ob0 := fun i i0 i1 => absurd i1 (by have : zB2 Ob0 = 0 := rfl; omega)
  unfold zB6
  split
  · exact h0
  · split
    · exact h0
    · rename_i hw
      have hw := qG4 (by simpa using hw)
      intro i i0 i1
      have hn : zB2 (objP p seg a) = zF3 (objP p seg a).pt := by
        unfold zB2
        by_cases h3 : (objP p seg a).kind = 3
        · unfold zB2 at i1; rw [if_pos h3] at i1; omega
        · rw [if_neg h3]
      show (zH2 A seg (a + i)).2 = 0
      unfold zH2
      rw [if_pos (by simp only [objP] at *; omega)]
theorem yK0 (A : List (List Int)) (seg a : Int) : InO (zB7 A) (zA0 (zB7 A) seg a).1 := by
  have h0 : InO (zB7 A) Ob0 := fun i i0 i1 => absurd i1 (by have : zB2 Ob0 = 0 := rfl; omega)
  unfold zA0
  split
  · exact h0
  · split
    · exact qK2 A _ _ _
    · split
      · unfold zE0
        (repeat' split) <;> first | exact h0 | exact qK2 A _ _ _
      · unfold zD3
        (repeat' split) <;> first | exact h0 | exact qK2 A _ _ _
theorem yY5 {A : List (List Int)} (hR : ∀ seg a, ObR (zA0 (zB7 A) seg a).1) (h : (decT A).2 = 0) : zD1 A = true ∧ (zA0 (zB7 A) 0 0).2 = 0 ∧ Dec (zB7 A) (zA0 (zB7 A) 0 0).1 (decT A).1 ∧ (decT A).1.cst ≤ 8192 := by
  unfold decT at h ⊢
  by_cases hr : zD1 A = false
  · rw [if_pos hr] at h; exact absurd h (by decide)
  · rw [if_neg hr] at h ⊢
    have hE : zE9 (zB7 A) 32 0 0 0 = ((zE9 (zB7 A) 32 0 0 0).1, (zE9 (zB7 A) 32 0 0 0).2.1, 0) := Prod.ext rfl (Prod.ext rfl h)
    obtain ⟨h1, h2, h3⟩ := yS5 hR 32 0 0 0 _ _ hE
    have h4 := (qJ8 hR 32 0 0 0 (by decide) (by decide)).2.2 h
    exact ⟨by simpa using hr, h1, h2, by omega⟩
/-! ### small things -/
theorem qA2 {A : List (List Int)} (hA : A.length ≤ 16) (hl : ∀ q, len2 A q ≤ 4096) {p : Pt} (hp : PtR p) (hn : zI3 p = true) (seg a : Int) : ObR (zB6 (zB7 A) p seg a).1 := by
  unfold zB6
  split
  · exact zD4
  · split
    · exact zD4
    · rename_i hw
      obtain ⟨h1, h2, h3, h4, h5⟩ := qG4 (by simpa using hw)
      have h6 := hl seg.toNat
      have hk : p.kind = 1 ∨ p.kind = 2 := by simpa [zI3] using hn
      exact ⟨by show 0 ≤ p.kind ∧ p.kind ≤ 2; omega, by show 0 ≤ seg ∧ seg ≤ _; omega, by show 0 ≤ a ∧ a ≤ _; omega, hp.data, hp.ptrs, hp.size, hp.count⟩
theorem qV8 {A : List (List Int)} (hA : A.length ≤ 16) (hl : ∀ q, len2 A q ≤ 4096) (hx : ∀ q ∈ A, ∀ x ∈ q, inR .u64 x) (seg a : Int) : ObR (zA0 (zB7 A) seg a).1 := by
  have hp : ∀ seg a, PtR (ptrS (zB7 A) seg a).1 := fun seg a => by
    obtain ⟨h1, h2, -, -⟩ := zV8 hx seg a
    unfold ptrS
    split
    · exact zV6
    · exact zI1 _ h1 h2
  unfold zA0
  split
  · exact zD4
  · split
    · rename_i h; exact qA2 hA hl (hp _ _) h _ _
    · split
      · unfold zE0
        split
        · exact zD4
        · split
          · exact zD4
          · split
            · exact zD4
            · split
              · exact zD4
              · split
                · exact zD4
                · rename_i h
                  obtain ⟨n1, n2, -, -⟩ := zV8 hx (ptrS (zB7 A) seg a).1.seg ((ptrS (zB7 A) seg a).1.off + 1)
                  refine qA2 hA hl (zI1 _ n1 n2) ?_ _ _
                  cases hq : zI3 (decP (zH2 A (ptrS (zB7 A) seg a).1.seg ((ptrS (zB7 A) seg a).1.off + 1)).1) with
                  | true => rfl
                  | false => exact absurd (.inr (.inr (.inl hq))) h
      · unfold zD3
        split
        · exact zD4
        · split
          · exact zD4
          · rename_i h
            exact qA2 hA hl (hp _ _) (by simpa using h) _ _
theorem zN1 {A : List (List Int)} (h : zD1 A = true) : A.length ≤ 16 ∧ ∀ q, len2 A q ≤ 4096 := by
  unfold zD1 at h
  obtain ⟨-, h2, -, h4⟩ := qT h
  exact ⟨h2, fun q => by have := zK9 A q; omega⟩
def decV (A : List (List Int)) : Nd × Int := if (decT A).2 ≠ 0 then (.nil, (decT A).2) else if (decT A).1.right 32 = false then (.nil, 23) else ((decT A).1, 0)
def eqT (A B : List (List Int)) : Bool := decide ((decV A).2 = 0) && (decide ((decV B).2 = 0) && (decV A).1.beq (decV B).1)
theorem yT0 {A : List (List Int)} (h : (decV A).2 = 0) : (decT A).2 = 0 ∧ (decT A).1.right 32 = true ∧ (decV A).1 = (decT A).1 := by
  unfold decV at h ⊢
  by_cases h1 : (decT A).2 ≠ 0
  · rw [if_pos h1] at h; exact absurd h h1
  · rw [if_neg h1] at h ⊢
    by_cases h2 : (decT A).1.right 32 = false
    · rw [if_pos h2] at h; simp at h
    · rw [if_neg h2]; exact ⟨by simpa using h1, by simpa using h2, rfl⟩
theorem yB6 : decT zS7 = (qJ9, 0) := by
  unfold decT
  rw [if_neg (by decide), yA6]
theorem qK3 : decV zS7 = (qJ9, 0) := by
  unfold decV
  rw [yB6, if_neg (by decide), if_neg (by decide +kernel)]
theorem yY6 : decV [] = (.nil, 1) := rfl
theorem yK1 : eqT zS7 zS7 = true := by unfold eqT; rw [qK3]; simp [yW9]
theorem qV9 : nrm (zY3 zS7 [] 0) = [(0, 2)] := by decide +kernel
theorem qK4 : (zF9 (zB7 zS7) [] 0 8192).2 = 0 := by decide +kernel
theorem qW0 : zD1 zS7 = true := by decide
theorem qH8 : AllU zS7 := by
  intro q hq x hx
  simp only [zS7, List.mem_singleton] at hq
  subst hq
  simp only [List.mem_cons, List.not_mem_nil, or_false] at hx
  rcases hx with rfl | rfl <;> simp [inR]
end Go.Proofs.YtkkbbhpbcfcplaaGreat.K
namespace Go.Proofs.YtkkbbhpbcfcplaaGreat.K
open Go Go.RowKit Go.Proofs
attribute [local irreducible] Run1 OpG WL W AO zB8
theorem zU4 (w : World) {u : Value} {A : List (List Int)} (hA : zG5 w u A) (hn : A.length ≤ 8796093022208) (hx : ∀ q ∈ A, ∀ x ∈ q, inR .u64 x) : Calls Tryz.prog 36 #[u] w (Ret fun v w' => ∃ cells, v = .tuple #[.agg cells.toArray, .int .u16 (decV A).2] ∧ NodeR (hide w.heap.size w') cells (decV A).1 ∧ Grow w w') := by
 have G := Grow.rfl' w
 refine zC2 Tryz.func36 Tryz.ntmps36 Tryz.results36 rfl rfl ?_
 refine qZ 2 ?_
 refine stp (zA8 ?_)
 intro b1 w2 hb3 hc4 g5
 refine qZ 2 ?_
 have hge6 := Nat.le_trans G.size hb3
 replace G := G.tr g5
 clear g5 hb3
 refine qZ 2 ?_
 refine stp (zH4 (v := u) rfl ?_)
 refine stp ?_
 obtain ⟨B, hB⟩ : ∃ B, B = w2.heap.size := ⟨_, rfl⟩
 have hwB : w.heap.size ≤ B := by rw [hB]; exact G.size
 have hlt_b1 : b1 < B := by rw [hB]; exact zB3 hc4
 refine zD6 rfl (qP3 _ (hA.grow G) hn hx) ?_
 rintro v_ w7 ⟨cells_, rfl, hU_, g_⟩
 rw [← hB] at hU_
 have hU := hU_
 clear hU_
 replace hc4 := g_.heap hc4
 replace G := G.tr g_
 clear g_
 obtain ⟨y08, y19, ya10, yn11, yc12, za13, zn14, zc15, ua16, un17, uc18, rfl⟩ := hU.cells
 refine qZ 3 ?_
 refine stp (zA8 ?_)
 intro b19 w20 hb21 hc22 g23
 refine stn (qS hc22 ?_)
 intro w24 hc25 u26
 have g27 := g23.upd u26 hb21
 have hge28 := Nat.le_trans G.size hb21
 have ne29 := qN hc4 hb21
 replace hc4 := g27.heap hc4
 replace hU := hU.sees (Sees.grow g27)
 replace G := G.tr g27
 clear u26 g23 hb21 hc22
 refine qZ 7 ?_
 refine stp (zG1 rfl rfl ?_)
 refine qZ 2 ?_
 refine zA2 (b := (decide (((decT A).2) ≠ 0))) rfl (fun h1 => ?_) (fun h1 => ?_)
 ·
  replace h1 := qT h1
  refine qZ 2 ?_
  refine stp (zA7 (v := .agg #[.int .i64 0, .int .i64 0, .slice none 0 0, .slice none 0 0, .slice none 0 0]) (fun w => by kernel_rfl) ?_)
  refine qZ 1 ?_
  refine stn (qS hc4 ?_)
  intro w30 hc31 u32
  replace hU := hU.sees (Sees.upd u32 (fun h_ => by omega))
  replace hc25 := u32.heap hc25 ne29.symm
  replace G := G.upd u32 hge6
  clear u32 hc4
  refine qZ 3 ?_
  have h9 : decV A = (.nil, (decT A).2) := by unfold decV; rw [if_pos h1]
  rw [h9]
  refine ret2 (zA5 rfl hc31 (by rfl)) (zA1 (v := .int .u16 ((decT A).2)) rfl) ⟨[_, _, _, _, _], rfl, NodeR.zero _, G⟩
 ·
  replace h1 := qF h1
  refine qZ 3 ?_
  refine stp (zA4 (v := .bool ((decT A).1.right 32)) rfl (qZ7 _ (hU.sees (Sees.seen _ _))) ?_)
  intro w33 g34
  replace hc4 := g34.heap hc4
  replace hU := hU.sees (Sees.grow g34)
  replace hc25 := g34.heap hc25
  replace G := G.tr g34
  clear g34
  refine stp (zN7 rfl ?_)
  refine qZ 2 ?_
  refine zA2 (b := (!((decT A).1.right 32))) rfl (fun h2 => ?_) (fun h2 => ?_)
  ·
   simp only [sb] at h2
   refine qZ 2 ?_
   refine stp (zA7 (v := .agg #[.int .i64 0, .int .i64 0, .slice none 0 0, .slice none 0 0, .slice none 0 0]) (fun w => by kernel_rfl) ?_)
   refine stn (qS hc4 ?_)
   intro w35 hc36 u37
   replace hU := hU.sees (Sees.upd u37 (fun h_ => by omega))
   replace hc25 := u37.heap hc25 ne29.symm
   replace G := G.upd u37 hge6
   clear u37 hc4
   refine qZ 3 ?_
   have h9 : decV A = (.nil, 23) := by unfold decV; rw [if_neg h1, if_pos (by simpa using h2)]
   rw [h9]
   refine ret2 (zA5 rfl hc36 (by rfl)) (zA1 (v := .int .u16 23) rfl) ⟨[_, _, _, _, _], rfl, NodeR.zero _, G⟩
  ·
   simp only [sb] at h2
   refine qZ 4 ?_
   refine stn (qS hc4 ?_)
   intro w38 hc39 u40
   replace hU := hU.sees (Sees.upd u40 (fun h_ => by omega))
   replace hc25 := u40.heap hc25 ne29.symm
   replace G := G.upd u40 hge6
   clear u40 hc4
   refine qZ 3 ?_
   have h9 : decV A = ((decT A).1, 0) := by unfold decV; rw [if_neg h1, if_neg (by simpa using h2)]
   rw [h9]
   refine ret2 (zA5 rfl hc39 (by rfl)) (zA1 (v := .int .u16 0) rfl) ⟨[_, _, _, _, _], rfl, hU.sees (Sees.low hwB _), G⟩
theorem qA3 (w : World) {u : Value} {A : List (List Int)} (hA : zG5 w u A) (hn : A.length ≤ 8796093022208) (hx : ∀ q ∈ A, ∀ x ∈ q, inR .u64 x) : zB8 Tryz.prog 16 #[u] w (.int .u16 ((decV A).2)) := by
 have G := Grow.rfl' w
 refine zA9 Tryz.func16 Tryz.ntmps16 Tryz.results16 rfl rfl ?_
 refine qZ 6 ?_
 refine stp (zH4 (v := u) rfl ?_)
 refine stp ?_
 refine zD6 rfl (zU4 _ (hA.grow G) hn hx) ?_
 rintro v_ w1 ⟨cells_, rfl, hU_, g_⟩
 have hU := hU_.sees (Sees.seen _ _)
 clear hU_
 replace G := G.tr g_
 clear g_
 obtain ⟨y02, y13, ya4, yn5, yc6, za7, zn8, zc9, ua10, un11, uc12, rfl⟩ := hU.cells
 refine qZ 3 ?_
 refine stp (zA8 ?_)
 intro b13 w14 hb15 hc16 g17
 refine stn (qS hc16 ?_)
 intro w18 hc19 u20
 have g21 := g17.upd u20 hb15
 have hge22 := Nat.le_trans G.size hb15
 replace hU := hU.grow g21
 replace G := G.tr g21
 clear u20 g17 hb15 hc16
 refine qZ 8 ?_
 refine ret1 (zA1 (v := .int .u16 ((decV A).2)) rfl) ⟨?_, G⟩
 rfl
theorem yB7 (w : World) {u : Value} {A : List (List Int)} (hA : zG5 w u A) (hn : A.length ≤ 8796093022208) (hx : ∀ q ∈ A, ∀ x ∈ q, inR .u64 x) {v : Value} {B : List (List Int)} (hB : zG5 w v B) (hnB : B.length ≤ 8796093022208) (hxB : ∀ q ∈ B, ∀ x ∈ q, inR .u64 x) : zB8 Tryz.prog 27 #[u, v] w (.bool (eqT A B)) := by
 have G := Grow.rfl' w
 refine zA9 Tryz.func27 Tryz.ntmps27 Tryz.results27 rfl rfl ?_
 refine qZ 6 ?_
 refine stp (zH4 (v := u) rfl ?_)
 refine stp ?_
 refine zD6 rfl (zU4 _ (hA.grow G) hn hx) ?_
 rintro v_ w1 ⟨cells_, rfl, hU_, g_⟩
 have hU := hU_.sees (Sees.seen _ _)
 clear hU_
 replace G := G.tr g_
 clear g_
 obtain ⟨y02, y13, ya4, yn5, yc6, za7, zn8, zc9, ua10, un11, uc12, rfl⟩ := hU.cells
 refine qZ 3 ?_
 refine stp (zA8 ?_)
 intro b13 w14 hb15 hc16 g17
 refine stn (qS hc16 ?_)
 intro w18 hc19 u20
 have g21 := g17.upd u20 hb15
 have hge22 := Nat.le_trans G.size hb15
 replace hU := hU.grow g21
 replace G := G.tr g21
 clear u20 g17 hb15 hc16
 refine qZ 4 ?_
 refine stp (zH4 (v := v) rfl ?_)
 refine stp ?_
 refine zD6 rfl (zU4 _ (hB.grow G) hnB hxB) ?_
 rintro v_ w23 ⟨cells_, rfl, hU_, g_⟩
 have hV := hU_.sees (Sees.seen _ _)
 clear hU_
 replace hU := hU.grow g_
 replace hc19 := g_.heap hc19
 replace G := G.tr g_
 clear g_
 obtain ⟨y024, y125, ya26, yn27, yc28, za29, zn30, zc31, ua32, un33, uc34, rfl⟩ := hV.cells
 refine qZ 3 ?_
 refine stp (zA8 ?_)
 intro b35 w36 hb37 hc38 g39
 refine stn (qS hc38 ?_)
 intro w40 hc41 u42
 have g43 := g39.upd u42 hb37
 have hge44 := Nat.le_trans G.size hb37
 have ne45 := qN hc19 hb37
 replace hU := hU.grow g43
 replace hc19 := g43.heap hc19
 replace hV := hV.grow g43
 replace G := G.tr g43
 clear u42 g39 hb37 hc38
 refine qZ 5 ?_
 refine stp (zC7 rfl rfl ?_)
 refine qZ 1 ?_
 refine qG 1 ?_
 refine zA3 (zB0 (s := .bool _) (v := .bool (decide (((decV B).2) = 0))) rfl (zE1 _) (fun hc47 => ?_) ?_)
 ·
  have hc47_ := qT hc47
  refine zC7 (gvt hc47) rfl ?_
  exact ⟨rfl, rfl⟩
 refine stp (zE8 rfl rfl rfl ?_)
 refine qZ 1 ?_
 refine zA3 (zB0 (s := .bool _) (v := .agg #[.int .i64 y02, .int .i64 y13, .slice ya4 yn5 yc6, .slice za7 zn8 zc9, .slice ua10 un11 uc12]) rfl (zE1 _) (fun hc48 => ?_) ?_)
 ·
  obtain ⟨hc48a, hc48b⟩ := and_t hc48
  have hc48a_ := qT hc48a
  have hc48b_ := qT hc48b
  refine zD2 rfl hc19 (by rfl) ?_
  exact ⟨rfl, rfl⟩
 refine zA3 (zB0 (s := .bool _) (v := .agg #[.int .i64 y024, .int .i64 y125, .slice ya26 yn27 yc28, .slice za29 zn30 zc31, .slice ua32 un33 uc34]) rfl (zE1 _) (fun hc49 => ?_) ?_)
 ·
  obtain ⟨hc49a, hc49b⟩ := and_t hc49
  have hc49a_ := qT hc49a
  have hc49b_ := qT hc49b
  refine zD2 rfl hc41 (by rfl) ?_
  exact ⟨rfl, rfl⟩
 refine zA3 (zY2 (s := .bool ((decide (((decV A).2) = 0)) && (decide (((decV B).2) = 0)))) (b := true) (v := .bool ((decV A).1.beq (decV B).1)) rfl (zE1 _) (fun hc50 => ?_) ?_)
 ·
  obtain ⟨hc50a, hc50b⟩ := and_t hc50
  have hc50a_ := qT hc50a
  have hc50b_ := qT hc50b
  exact zN5 (l := ([.agg #[.int .i64 y02, .int .i64 y13, .slice ya4 yn5 yc6, .slice za7 zn8 zc9, .slice ua10 un11 uc12], .agg #[.int .i64 y024, .int .i64 y125, .slice ya26 yn27 yc28, .slice za29 zn30 zc31, .slice ua32 un33 uc34]] : List Value)) rfl (by show ([gv ((decide (((decV A).2) = 0)) && (decide (((decV B).2) = 0))) (.agg #[.int .i64 y02, .int .i64 y13, .slice ya4 yn5 yc6, .slice za7 zn8 zc9, .slice ua10 un11 uc12]), gv ((decide (((decV A).2) = 0)) && (decide (((decV B).2) = 0))) (.agg #[.int .i64 y024, .int .i64 y125, .slice ya26 yn27 yc28, .slice za29 zn30 zc31, .slice ua32 un33 uc34])] : List Value) = _; rw [gvt hc50, gvt hc50]) (yJ3 _ _ hU hV (Nat.le_refl _)) (fun w2_ g2_ => ⟨rfl, g2_⟩)
 intro w51 g52
 replace hU := hU.grow g52
 replace hc19 := g52.heap hc19
 replace hV := hV.grow g52
 replace hc41 := g52.heap hc41
 replace G := G.tr g52
 clear g52
 refine stp (zE8 rfl rfl rfl ?_)
 refine qZ 3 ?_
 refine ret1 (zA1 (v := .bool (((decide (((decV A).2) = 0)) && (decide (((decV B).2) = 0))) && ((decV A).1.beq (decV B).1))) rfl) ⟨?_, G⟩
 unfold eqT; rw [Bool.and_assoc]
end Go.Proofs.YtkkbbhpbcfcplaaGreat.K
namespace Go.Proofs.YtkkbbhpbcfcplaaGreat.K
open Go Go.RowKit
def viaS (P : Program) (t : TypeId) (name : String) : Option (TypeId × Nat) :=
  match P.info? t with
  | some i => (match i.methods.find? (·.name == name) with
    | some m => (match m.path.toList, m.func with
      | [s], none => if s.deref then some (s.struct, s.index) else none
      | _, _ => none)
    | none => none)
  | none => none
class ViaI (P : Program) (t : TypeId) (name : String) (S : outParam TypeId) (j : outParam Nat) : Prop where
  h : viaS P t name = some (S, j)
class MethN (P : Program) (t : TypeId) (name : String) (f : FuncId) : Prop where
  m : ∀ (v : Value) (w : World), (method (P.types.size + 99) t v name).run P w = .ok (f, v) w
  c : ∀ (args : Array Value) (w : World), (callFunc f args).run P w = .ok (.enter f args) w
theorem jD6 {P : Program} {w : World} {t t' S ft : TypeId} {name : String} {j off n b o : Nat} {f : FuncId} {cs : Array Value} {T : TypeId} {fr : Nat × Nat} {v' : Value} {args : Array Value}
    [hv : ViaI P t name S j] [hfi : FldI P S j off] [hft : FtI P S j ft] [hti : TyI P ft n false] (hm : MethN P t' name f)
    (hb : w.heap[b]? = some (.cells cs T fr)) (hc : cs[o + off]? = some (.iface t' v')) :
    (callMethod (.iface t (.pointer (some ⟨b, o, none⟩))) name args).run P w = .ok (.enter f (#[v'] ++ args)) w := by
  have hl : (loadVar ft ⟨b, o + off, none⟩).run P w = .ok (.iface t' v') w := by
    have ht := hti.h
    unfold tyS at ht
    split at ht
    · rename_i i dd hi hu
      simp only [Option.some.injEq, Prod.mk.injEq] at ht
      have hagg : (isAgg ft).run P w = .ok false w := by
        simp only [isAgg, underlying, program, Sem.run_bind, Sem.run, hu, Result.andThen_ok]
        cases dd <;> first | rfl | simp at ht
      simp only [loadVar, Sem.run_bind, hagg, Result.andThen_ok]
      simp [zV2 hb, hc]
    · cases ht
  have hs := hv.h
  unfold viaS at hs
  split at hs
  · rename_i i hi
    split at hs
    · rename_i m hmt
      split at hs
      · rename_i s hp hf
        split at hs
        · rename_i hd
          simp only [Option.some.injEq, Prod.mk.injEq] at hs
          obtain ⟨rfl, rfl⟩ := hs
          have hff := hfi.h
          have hft2 := hft.h
          unfold fldS at hff
          unfold ftS at hft2
          have hfol : (follow m.path.toList t (.val (.pointer (some ⟨b, o, none⟩)))).run P w = .ok (ft, .var ⟨b, o + off, none⟩) w := by
            rw [hp]
            split at hff
            · rename_i fs hu
              split at hff
              · rename_i fl hfl
                split at hff
                · rename_i i2 hi2
                  split at hff
                  · cases hff
                  · rename_i hz
                    simp only [Option.some.injEq] at hff
                    simp only [hu, hfl, Option.map_some, Option.some.injEq] at hft2
                    subst hff
                    have h1 : (underlying s.struct).run P w = .ok (.struct fs) w := by simp only [underlying, program, Sem.run_bind, Sem.run, hu, Result.andThen_ok, Sem.run_pure]
                    have h2 : (fieldPlace ⟨b, o, none⟩ fl).run P w = .ok ⟨b, o + fl.offset, none⟩ w := by
                      simp only [fieldPlace, sizeOf, typeInfo, program, Sem.run_bind, Sem.run, hi2, Result.andThen_ok, Sem.run_pure, hz, if_false, add_lit]
                    simp only [follow, hd, if_true, Place.get, asAddr, Sem.run_bind, Sem.run_pure, Result.andThen_ok, h1, hfl, h2, hft2]
                · cases hff
              · cases hff
            · cases hff
          have hin : (typeInfo t).run P w = .ok i w := by simp only [typeInfo, program, Sem.run_bind, Sem.run, hi, Result.andThen_ok, Sem.run_pure]
          have hme : (method (P.types.size + 99 + 1) t (.pointer (some ⟨b, o, none⟩)) name).run P w = .ok (f, v') w := by
            have hm' := hm.m v' w
            generalize P.types.size + 99 = k at hm' ⊢
            simp only [method, Sem.run_bind, hin, Result.andThen_ok, hmt, hfol, hf, Place.get, hl]
            exact hm'
          show ((method (P.types.size + 99 + 1) t (.pointer (some ⟨b, o, none⟩)) name >>= fun x => callFunc x.1 (#[x.2] ++ args)) : Sem Next).run P w = _
          rw [Sem.run_bind, hme, Result.andThen_ok]
          exact hm.c _ w
        · cases hs
      · cases hs
    · cases hs
  · cases hs
structure NkP (F : List Nat) (T : TypeId) (base : Nat) (w w' : World) : Prop where
  os : w'.os = w.os
  tape : w'.tape = w.tape
  output : w'.output = w.output
  size : w.heap.size ≤ w'.heap.size
  old : ∀ k : Nat, k < w.heap.size → k ∉ F → (k < base ∨ ¬ ∃ cs, w.heap[k]? = some (.cells cs T (0, 0))) → w'.heap[k]? = w.heap[k]?
section
variable {F : List Nat} {T : TypeId} {base : Nat} {a b c w w' w0 : World}
theorem NkP.refl (F : List Nat) (T : TypeId) (base : Nat) (w : World) : NkP F T base w w := ⟨rfl, rfl, rfl, Nat.le_refl _, fun _ _ _ _ => rfl⟩
theorem NkP.tr (h : NkP F T base a b) (k : NkP F T base b c) : NkP F T base a c :=
  ⟨k.os.trans h.os, k.tape.trans h.tape, k.output.trans h.output, Nat.le_trans h.size k.size, fun i hi hF hc => by
    have h1 := h.old i hi hF hc
    rw [k.old i (Nat.lt_of_lt_of_le hi h.size) hF (by rw [h1]; exact hc), h1]⟩
theorem NkP.of_grow (g : Grow a b) : NkP F T base a b := ⟨g.os, g.tape, g.output, g.size, fun k hk _ _ => g.block k hk⟩
theorem NkP.mono {F2 : List Nat} (h : NkP F T base a b) (hs : ∀ x ∈ F, x ∈ F2) : NkP F2 T base a b := ⟨h.os, h.tape, h.output, h.size, fun k hk hF hc => h.old k hk (fun hm => hF (hs k hm)) hc⟩
theorem NkP.of_upd {b : Nat} (u : Upd b w w') (hb : b ∈ F) : NkP F T base w w' := ⟨u.os, u.tape, u.output, by rw [u.size]; exact Nat.le_refl _, fun k hk hF _ => u.other k (fun he => hF (he ▸ hb))⟩
theorem NkP.upd_new {b : Nat} (h : NkP F T base a w) (u : Upd b w w') (hb : a.heap.size ≤ b) : NkP F T base a w' :=
  ⟨u.os.trans h.os, u.tape.trans h.tape, u.output.trans h.output, by rw [u.size]; exact h.size, fun k hk hF hc => by rw [u.other k (fun he => by omega), h.old k hk hF hc]⟩
theorem NkP.new_kp {G : List Nat} (h : NkP F T base a w) (u : Kp G w w') (hb : ∀ x ∈ G, a.heap.size ≤ x ∨ x ∈ F) : NkP F T base a w' :=
  ⟨u.os.trans h.os, u.tape.trans h.tape, u.output.trans h.output, Nat.le_trans h.size u.size, fun k hk hF hc => by
    rw [u.block k (Nat.lt_of_lt_of_le hk h.size) (fun hm => by rcases hb k hm with h1 | h1; omega; exact hF h1), h.old k hk hF hc]⟩
theorem NkP.new_nk {G : List Nat} (h : NkP F T base a w) (u : NkP G T base w w') (hb : ∀ x ∈ G, a.heap.size ≤ x ∨ x ∈ F) : NkP F T base a w' :=
  ⟨u.os.trans h.os, u.tape.trans h.tape, u.output.trans h.output, Nat.le_trans h.size u.size, fun k hk hF hc => by
    have h1 := h.old k hk hF hc
    rw [u.old k (Nat.lt_of_lt_of_le hk h.size) (fun hm => by rcases hb k hm with h2 | h2; omega; exact hF h2) (by rw [h1]; exact hc), h1]⟩
theorem NkP.heap {k : Nat} {cs : Array Value} {T2 : TypeId} {fr : Nat × Nat} (h : NkP F T base w w') (hk : w.heap[k]? = some (.cells cs T2 fr)) (hF : k ∉ F) (hT : T2 ≠ T) : w'.heap[k]? = some (.cells cs T2 fr) := by
  rw [h.old k (zB3 hk) hF (.inr fun ⟨cs2, h2⟩ => by rw [hk] at h2; simp only [Option.some.injEq, Obj.cells.injEq] at h2; exact hT h2.2.1)]
  exact hk
theorem NkP.to_grow (k : NkP F T base w w') (g : Grow w0 w) (hF : ∀ x ∈ F, w0.heap.size ≤ x) (hb : w0.heap.size ≤ base) : Grow w0 w' :=
  ⟨k.os.trans g.os, k.tape.trans g.tape, k.output.trans g.output, Nat.le_trans g.size k.size, fun i hi => by
    rw [k.old i (Nat.lt_of_lt_of_le hi g.size) (fun hm => by have := hF i hm; omega) (.inl (by omega)), g.block i hi]⟩
theorem NkP.of_grown {sz n : Nat} {v : Value} {xs : List Value} (own : w.ownsRow base T sz v n xs) (gr : w.grownBy w' v.ownBlock) : NkP F T base w w' :=
  ⟨gr.os, gr.tape, gr.output, gr.size, fun k hk _ hc => gr.block k hk (fun he => by
    rcases own.2 with ⟨rfl, _⟩ | ⟨q, cap, cur, rfl, hq, hg, _⟩
    · simp [Value.ownBlock] at he
    · simp only [Value.ownBlock, Option.some.injEq] at he
      subst he
      rcases hc with hc | hc
      · omega
      · exact hc ⟨cur, hg⟩)⟩
end
def nkR (F : List Nat) (T : TypeId) (base : Nat) : KpR := ⟨NkP F T base, NkP.refl F T base, NkP.tr, NkP.of_grow⟩
theorem zQ1 {w : World} {k b : Nat} {cs cs2 : Array Value} {T T2 : TypeId} {fr fr2 : Nat × Nat} (h : w.heap[k]? = some (.cells cs T fr)) (h2 : w.heap[b]? = some (.cells cs2 T2 fr2)) (hT : T ≠ T2) : k ≠ b := by
  intro he; subst he; rw [h] at h2; simp only [Option.some.injEq, Obj.cells.injEq] at h2; exact hT h2.2.1
def NtS (TS TN TE : TypeId) (base : Nat) (w : World) (u : Value) (bn : Nat) (L : List Spn) : Prop :=
  ∃ ad c, w.heap[bn]? = some (.cells #[.iface TS (.agg #[u]), .slice ad L.length c] TN (0, 0)) ∧ w.ownsRow base TE 2 (.slice ad L.length c) L.length (encL L)
section
variable {TS TN TE : TypeId} {base : Nat} {w w' : World} {u : Value} {bn : Nat} {L : List Spn}
theorem NtS.grow (h : NtS TS TN TE base w u bn L) (g : Grow w w') : NtS TS TN TE base w' u bn L := by
  obtain ⟨ad, c, h1, h2⟩ := h
  exact ⟨ad, c, g.heap h1, zB4 h2 g⟩
theorem NtS.upd {b : Nat} {cs : Array Value} {T : TypeId} {fr : Nat × Nat} (h : NtS TS TN TE base w u bn L) (up : Upd b w w') (hb : w.heap[b]? = some (.cells cs T fr)) (h1 : T ≠ TN) (h2 : T ≠ TE) : NtS TS TN TE base w' u bn L := by
  obtain ⟨ad, c, g1, g2⟩ := h
  exact ⟨ad, c, up.heap g1 (zQ1 g1 hb (Ne.symm h1)), zF4 g2 up (zD9 g2 hb (Ne.symm h2))⟩
theorem jD7 {b sz n : Nat} {T : TypeId} {cs : Array Value} {T2 : TypeId} {fr : Nat × Nat} {v : Value} {xs : List Value} (h : w.ownsRow base T sz v n xs) (k : Kp [b] w w') (hb : w.heap[b]? = some (.cells cs T2 fr)) (hT : T2 ≠ T) : w'.ownsRow base T sz v n xs := by
  refine ⟨h.1, ?_⟩
  have hne := zD9 h hb (Ne.symm hT)
  rcases h.2 with hn | ⟨q, cap, cur, rfl, hq, hg, rest⟩
  · exact .inl hn
  · exact .inr ⟨q, cap, cur, rfl, hq, k.heap hg (fun hm => hne (by simp only [List.mem_singleton] at hm; rw [hm]; rfl)), rest⟩
theorem NtS.kp {b : Nat} {cs : Array Value} {T : TypeId} {fr : Nat × Nat} (h : NtS TS TN TE base w u bn L) (k : Kp [b] w w') (hb : w.heap[b]? = some (.cells cs T fr)) (h1 : T ≠ TN) (h2 : T ≠ TE) : NtS TS TN TE base w' u bn L := by
  obtain ⟨ad, c, g1, g2⟩ := h
  exact ⟨ad, c, k.heap g1 (fun hm => by simp only [List.mem_singleton] at hm; exact zQ1 g1 hb (Ne.symm h1) hm), jD7 g2 k hb h2⟩
theorem NkP.hpN {k : Nat} {cs : Array Value} {T : TypeId} {fr : Nat × Nat} (r : NkP [bn] TE base w w') (st : NtS TS TN TE base w u bn L) (h : w.heap[k]? = some (.cells cs T fr)) (h1 : T ≠ TN) (h2 : T ≠ TE) : w'.heap[k]? = some (.cells cs T fr) := by
  obtain ⟨ad, c, g1, -⟩ := st
  exact r.heap h (fun hm => by simp only [List.mem_singleton] at hm; exact zQ1 h g1 h1 hm) h2
theorem NkP.hpN2 {k b : Nat} {cs cb : Array Value} {T TB : TypeId} {fr fb : Nat × Nat} (r : NkP [bn, b] TE base w w') (st : NtS TS TN TE base w u bn L) (hb : w.heap[b]? = some (.cells cb TB fb)) (h : w.heap[k]? = some (.cells cs T fr)) (h1 : T ≠ TN) (h2 : T ≠ TE) (h3 : T ≠ TB) : w'.heap[k]? = some (.cells cs T fr) := by
  obtain ⟨ad, c, g1, -⟩ := st
  exact r.heap h (fun hm => by
    simp only [List.mem_cons, List.not_mem_nil, or_false] at hm
    rcases hm with hm | hm
    · exact zQ1 h g1 h1 hm
    · exact zQ1 h hb h3 hm) h2
end
section
variable {P : Program} {ops : Array Oper} {e : Env} {w : World} {K : Value → World → Prop} {d : Option Nat} {ty : TypeId} {pos : String} {af : Array Edge} {g : Option (Nat × Bool)} {x : Operand}
theorem jH6 {name : String} {args : Array Operand} {at_ : Array TypeId} {f : FuncId} {v' : Value} {F : Value → World → Prop} {t t' S ft : TypeId} {j off n b : Nat} {cs : Array Value} {T : TypeId} {fr : Nat × Nat}
    [hv : ViaI P t name S j] [hfi : FldI P S j off] [hft : FtI P S j ft] [hti : TyI P ft n false] (hm : MethN P t' name f) (hx : ev e x = .iface t (.pointer (some ⟨b, 0, none⟩)))
    (hb : w.heap[b]? = some (.cells cs T fr)) (hc0 : cs[off]? = some (.iface t' v'))
    (hc : Calls P f (v' :: args.toList.map (ev e)).toArray w (Ret F)) (h : ∀ v w', F v w' → K v w') : Run1 P ⟨d, .call ⟨.invoke x name, args, at_⟩, ty, pos, af, g⟩ e w K := by
  have ha : ((#[ev e x] ++ args.map (ev e)).extract 1 (#[ev e x] ++ args.map (ev e)).size) = args.map (ev e) := by
    apply Array.ext'
    simp
    exact List.take_of_length_le (by simp)
  have h0 : (#[ev e x] ++ args.map (ev e))[0]? = some (.iface t (.pointer (some ⟨b, 0, none⟩))) := by rw [hx, Array.getElem?_append_left (by simp)]; rfl
  have hbb : #[v'] ++ args.map (ev e) = (v' :: args.toList.map (ev e)).toArray := by
    apply Array.ext'
    simp
  have hr : (execOp (ev e) ⟨d, .call ⟨.invoke x name, args, at_⟩, ty, pos, af, g⟩).run P w = .ok (.enter f (v' :: args.toList.map (ev e)).toArray) w := by
    simp only [execOp, resolve, Sem.run_bind, Sem.run_pure, Result.andThen_ok, invoke, h0, ha]
    rw [jD6 (o := 0) hm hb (by rw [Nat.zero_add]; exact hc0), hbb]
  unfold Run1
  rw [hr]
  exact hc.mono fun r w' ⟨v, hv, hF⟩ => ⟨v, hv, h v w' hF⟩
variable {y z : Operand}
theorem zB8.c {f : FuncId} {a : Array Value} {v : Value} (h : zB8 P f a w v) : Calls P f a w (Ret fun r w' => r = v ∧ Grow w w') := h
theorem zO1 {name : String} {at_ : Array TypeId} {f : FuncId} {v a b : Value} {F : Value → World → Prop} {T : TypeId} (hm : MethI P T name f) (hx : ev e x = .iface T v) (hy : ev e y = a) (hz : ev e z = b)
    (hc : Calls P f #[v, a, b] w (Ret F)) (h : ∀ v w', F v w' → K v w') : Run1 P ⟨d, .call ⟨.invoke x name, #[y, z], at_⟩, ty, pos, af, g⟩ e w K := by
  refine qH5 hm hx ?_ h
  rw [show ((v :: (#[y, z] : Array Operand).toList.map (ev e)).toArray) = #[v, a, b] from by simp [hy, hz]]
  exact hc
theorem jG4 {name : String} {at_ : Array TypeId} {f : FuncId} {v' : Value} {F : Value → World → Prop} {t t' S ft : TypeId} {j off n b : Nat} {cs : Array Value} {T : TypeId} {fr : Nat × Nat}
    [hv : ViaI P t name S j] [hfi : FldI P S j off] [hft : FtI P S j ft] [hti : TyI P ft n false] (hm : MethN P t' name f) (hx : ev e x = .iface t (.pointer (some ⟨b, 0, none⟩)))
    (hb : w.heap[b]? = some (.cells cs T fr)) (hc0 : cs[off]? = some (.iface t' v'))
    (hc : Calls P f #[v'] w (Ret F)) (h : ∀ v w', F v w' → K v w') : Run1 P ⟨d, .call ⟨.invoke x name, #[], at_⟩, ty, pos, af, g⟩ e w K :=
  jH6 hm hx hb hc0 hc h
end
/-! ### an arena as the source -/
section
variable {A : List (List Int)} {s : Src}
theorem num9 (hs : s = zB7 A) (hx : AllU A) (seg a : Int) : 0 ≤ (s.word seg a).1 ∧ (s.word seg a).1 ≤ 18446744073709551615 ∧ 0 ≤ (s.word seg a).2 ∧ (s.word seg a).2 ≤ 65535 := by subst hs; exact zV8 hx seg a
theorem ptr9 (hs : s = zB7 A) (hx : AllU A) (seg a : Int) : PtR (ptrS s seg a).1 := by
  obtain ⟨h1, h2, -, -⟩ := num9 hs hx seg a
  unfold ptrS
  split
  · exact zV6
  · exact zI1 _ h1 h2
theorem fol9 (hs : s = zB7 A) (hr : zD1 A = true) (hx : AllU A) (seg a : Int) : ObR (zA0 s seg a).1 := by
  obtain ⟨h1, h2⟩ := zN1 hr
  subst hs; exact qV8 h1 h2 hx seg a
theorem jH7 (hs : s = zB7 A) (hr : zD1 A = true) : ∀ i, i < s.sizes.length → 0 ≤ s.sizes.getD i 0 ∧ s.sizes.getD i 0 ≤ 140737488355328 := by
  obtain ⟨-, h2⟩ := zN1 hr
  subst hs
  intro i _
  have h3 : (zB7 A).sizes.getD i 0 = (len2 A i : Int) := zI7 A i
  have := h2 i
  omega
theorem jA6 (hs : s = zB7 A) : s.sizes = zC1 A := by subst hs; rfl
theorem jG5 (hs : s = zB7 A) (hr : zD1 A = true) {seg a : Int} (h : (ptrS s seg a).2 = 0) : 0 ≤ seg ∧ seg ≤ 16 ∧ 0 ≤ a ∧ a ≤ 4096 := by
  obtain ⟨h1, h2⟩ := zN1 hr
  subst hs
  have h3 : ((zB7 A).word seg a).2 = 0 := by
    unfold ptrS at h
    by_cases h0 : ((zB7 A).word seg a).2 ≠ 0
    · rw [if_pos h0] at h; exact absurd h h0
    · simpa using h0
  have h4 : (zH2 A seg a).2 = 0 := h3
  unfold zH2 at h4
  split at h4
  · rename_i hc; have := h2 seg.toNat; omega
  · exact absurd h4 (by decide)
theorem pw9 (hs : s = zB7 A) {seg a : Int} (h : (ptrS s seg a).2 = 0) : (ptrS s seg a).1 = pwT A seg a := by
  subst hs
  unfold ptrS at h ⊢
  by_cases h0 : ((zB7 A).word seg a).2 ≠ 0
  · rw [if_pos h0] at h; exact absurd h h0
  · rw [if_neg h0]; rfl
theorem yT1 (hs : s = zB7 A) {seg a : Int} (h : (ptrS s seg a).2 = 0) (hk : (ptrS s seg a).1.kind ≠ 3) (L : List Spn) : zH9 A L seg a = zL5 A L seg a := by
  unfold zH9; rw [← pw9 hs h, if_pos hk]
theorem jD8 (hs : s = zB7 A) {seg a : Int} (h : (ptrS s seg a).2 = 0) (hk : (ptrS s seg a).1.kind = 3) (hd : (ptrS s seg a).1.dbl = true) (L : List Spn) : zH9 A L seg a = zL5 A (zL5 A (zL5 A L seg a) (ptrS s seg a).1.seg (ptrS s seg a).1.off) (ptrS s seg a).1.seg ((ptrS s seg a).1.off + 1) := by
  unfold zH9; rw [← pw9 hs h, if_neg (by omega), if_pos hd]
theorem yY7 (hs : s = zB7 A) {seg a : Int} (h : (ptrS s seg a).2 = 0) (hk : (ptrS s seg a).1.kind = 3) (hd : ¬ (ptrS s seg a).1.dbl = true) (L : List Spn) : zH9 A L seg a = zL5 A (zL5 A L seg a) (ptrS s seg a).1.seg (ptrS s seg a).1.off := by
  unfold zH9; rw [← pw9 hs h, if_neg (by omega), if_neg hd]
def yK2 (A : List (List Int)) (L : List Spn) (o : Ob) (k : Int) : List Spn := if o.kind = 0 ∨ (o.kind = 1 ∧ k ≥ o.ptrs) then L else zH9 A L o.seg (atT o k)
theorem yY8 (hs : s = zB7 A) {o : Ob} {k : Int} (h : (zF8 s o k).2 = 0) (ks : List Int) (L : List Spn) : goT A (k :: ks) L o = goT A ks (yK2 A L o k) (zF8 s o k).1 := by
  subst hs
  rw [goT]
  unfold yK2
  by_cases h1 : o.kind = 0 ∨ (o.kind = 1 ∧ k ≥ o.ptrs)
  · rw [if_pos h1, if_pos h1]
    unfold zF8; rw [if_pos h1]
  · rw [if_neg h1, if_neg h1]
    unfold zF8 at h ⊢
    rw [if_neg h1] at h ⊢
    by_cases h2 : o.kind = 1
    · rw [if_pos h2] at h ⊢
      unfold atT; rw [if_pos h2]
    · rw [if_neg h2] at h ⊢
      by_cases h3 : o.size ≠ 6
      · rw [if_pos h3] at h; simp at h
      · rw [if_neg h3] at h ⊢
        by_cases h4 : k ≥ o.count
        · rw [if_pos h4] at h; simp at h
        · rw [if_neg h4]; unfold atT; rw [if_neg h2]
end
end Go.Proofs.YtkkbbhpbcfcplaaGreat.K
namespace Go.Proofs.YtkkbbhpbcfcplaaGreat.K
open Go Go.RowKit Go.Proofs
attribute [local irreducible] Run1 OpG WL W AO zB8
theorem yB8 (w : World) {ad : Option Addr} {c : Nat} {sz : List Int} (R : RowAt w 1 ad sz.length (sz.map (.int .i64))) (hr : ∀ x ∈ sz, inR .i64 x) : zB8 Tryz.prog 50 #[.slice ad sz.length c] w (.bool (zM1 sz)) := by
 have lR := R.lim
 have hg : ∀ i, inR .i64 (sz.getD i 0) := fun i => by rw [List.getD_eq_getElem?_getD]; cases hi_ : sz[i]? with | none => simp [inR] | some x_ => exact hr x_ (List.mem_of_getElem? hi_)
 have hg0 := hg 0
 simp only [inR] at hg0
 have G := Grow.rfl' w
 refine zA9 Tryz.func50 Tryz.ntmps50 Tryz.results50 rfl rfl ?_
 refine qZ 9 ?_
 refine stp (zF1 rfl rfl ?_)
 refine qZ 1 ?_
 refine qG 2 ?_
 refine zA3 (zB0 (s := .bool _) (v := .bool (decide ((sz.length : Int) > 16))) rfl (zE2 _) (fun hc3 => ?_) ?_)
 ·
  have hc3_ := hc3
  try simp only [sb] at hc3_
  refine zM7 (gvt hc3) rfl ?_
  exact ⟨rfl, rfl⟩
 refine stp (zH6 rfl rfl rfl ?_)
 refine qZ 1 ?_
 refine qG 1 ?_
 refine zA3 (zB0 (s := .bool _) (v := .pointer (some (eadr ad ((0 : Int).toNat * 1)))) rfl (zE2 _) (fun hc5 => ?_) ?_)
 ·
  have hc5_ := hc5
  try simp only [sb] at hc5_
  refine zE7 (R.grow G) (gvt hc5) rfl ?_ ?_ ?_; omega; omega
  exact ⟨rfl, rfl⟩
 refine zA3 (zB0 (s := .bool _) (v := .int .i64 (sz.getD 0 0)) rfl (zE2 _) (fun hc6 => ?_) ?_)
 ·
  have hc6_ := hc6
  try simp only [sb] at hc6_
  refine zC6 (v := .int .i64 (sz.getD 0 0)) (m := 0) (R.grow G) (gvt hc6) (show _ from zE4 (j := 0) 0 (by omega)) ?_
  exact ⟨rfl, rfl⟩
 refine zA3 (zB0 (s := .bool _) (v := .bool (decide ((sz.getD 0 0) < 1))) rfl (zE2 _) (fun hc7 => ?_) ?_)
 ·
  have hc7_ := hc7
  try simp only [sb] at hc7_
  refine zF1 (gvt hc7) rfl ?_
  exact ⟨rfl, rfl⟩
 refine stp (zH6 rfl rfl rfl ?_)
 refine zA6 ?_
 refine zA2 (b := (((decide ((sz.length : Int) < 1)) || (decide ((sz.length : Int) > 16))) || (decide ((sz.getD 0 0) < 1)))) rfl (fun h1 => ?_) (fun h1 => ?_)
 ·
  simp only [sb] at h1
  refine qZ 5 ?_
  have h9 : zM1 sz = false := yR0 (by omega)
  refine ret1 (zA1 (v := .bool false) rfl) ⟨?_, G⟩
  rw [h9]
 ·
  simp only [sb] at h1
  have h1' : 1 ≤ sz.length ∧ sz.length ≤ 16 ∧ 1 ≤ sz.getD 0 0 := by omega
  clear h1
  refine qZ 13 ?_
  refine zF2 (fun m_ e_ w_ => ∃ (k : Nat), m_ = sz.length - k ∧ Fr [(22, .slice ad sz.length c), (23, .int .i64 (sz.length : Int)), (3, .int .i64 (sumL (sz.take k))), (24, .int .i64 (k : Int))] e_ ∧ (k ≤ sz.length) ∧ (0 ≤ sumL (sz.take k) ∧ sumL (sz.take k) ≤ 4096) ∧ (∀ j, j < k → 0 ≤ sz.getD j 0) ∧ Grow w w_) _ ⟨0, rfl, zC3 ⟨rfl, rfl, rfl, rfl, trivial⟩, by omega, by simp [sumL], fun j hj => by omega, G⟩ ?_
  clear G
  rintro m_ e_ w8 ⟨k, rfl, ⟨e9, rfl⟩, hk, htk, hnn, G⟩
  have hgk := hg k
  simp only [inR] at hgk
  refine qZ 2 ?_
  refine stp (zF1 rfl rfl ?_)
  refine qZ 2 ?_
  refine zA2 (b := (decide ((k : Int) < (sz.length : Int)))) rfl (fun hlt => ?_) (fun hlt => ?_)
  ·
   replace hlt := qT hlt
   have hi : k < sz.length := by omega
   have ht := zS9 hi
   have hadd : zJ7 (sumL (sz.take k)) (sz.getD k 0) 4096 = decide (0 ≤ sz.getD k 0 ∧ sumL (sz.take k) + sz.getD k 0 ≤ 4096) := by unfold zJ7; exact decide_eq_decide.2 (by omega)
   refine qZ 5 ?_
   refine stp (zD5 (R.grow G) rfl rfl ?_ ?_); omega
   refine stp (zC6 (v := .int .i64 (sz.getD k 0)) (m := 0) (R.grow G) rfl (zE4 0 (by omega)) ?_)
   refine qZ 6 ?_
   refine stp (zA4 (v := .tuple #[.int .i64 (if zJ7 (sumL (sz.take k)) (sz.getD k 0) 4096 then sumL (sz.take k) + sz.getD k 0 else 0), .bool (zJ7 (sumL (sz.take k)) (sz.getD k 0) 4096)]) rfl (qE7 _ (a := sumL (sz.take k)) (b := sz.getD k 0) (m := 4096) (by simp only [inR]; omega) (hg k) (by simp only [inR]; omega)) ?_)
   intro w10 g11
   replace G := G.tr g11
   clear g11
   refine qZ 10 ?_
   refine stp (zN7 rfl ?_)
   refine zA6 ?_
   refine zA2 (b := (!(zJ7 (sumL (sz.take k)) (sz.getD k 0) 4096))) rfl (fun h3 => ?_) (fun h3 => ?_)
   ·
    simp only [sb] at h3
    rw [hadd] at h3
    refine qZ 5 ?_
    have h9 : zM1 sz = false := jD1 hi (by simpa using h3)
    refine ret1 (zA1 (v := .bool false) rfl) ⟨?_, G⟩
    rw [h9]
   ·
    simp only [sb] at h3
    rw [hadd] at h3
    have h3' : 0 ≤ sz.getD k 0 ∧ sumL (sz.take k) + sz.getD k 0 ≤ 4096 := by simpa using h3
    refine qZ 6 ?_
    refine stp (zB5 rfl rfl ?_ ?_); constructor <;> omega
    refine qZ 2 ?_
    refine ⟨_, ?_, k + 1, rfl, zC3 ⟨rfl, rfl, congrArg (Value.int .i64) (by rw [hadd, decide_eq_true h3', if_pos rfl]; omega), rfl, trivial⟩, by omega, by omega, fun j hj => by rcases Nat.lt_succ_iff_lt_or_eq.1 hj with h_ | h_; exact hnn j h_; (subst h_; exact h3'.1), G⟩
    omega
  ·
   replace hlt := qF hlt
   have hk2 : k = sz.length := by omega
   subst hk2
   refine qZ 6 ?_
   have h9 : zM1 sz = true := yX1 h1'.1 h1'.2.1 h1'.2.2 hnn htk.2
   refine ret1 (zA1 (v := .bool true) rfl) ⟨?_, G⟩
   rw [h9]
theorem yK3 (w : World) {a m : Int} (hm : 0 ≤ m ∧ m ≤ 140737488355328) : zB8 Tryz.prog 87 #[.int .i64 a, .int .i64 1, .int .i64 m] w (.tuple #[.int .i64 (if zJ7 a 1 m then a + 1 else 0), .bool (zJ7 a 1 m)]) := by
 have G := Grow.rfl' w
 refine zA9 Tryz.func87 Tryz.ntmps87 Tryz.results87 rfl rfl ?_
 refine qZ 10 ?_
 refine stp (qI4 rfl rfl rfl ?_)
 refine stp (zF1 rfl rfl ?_)
 refine qZ 1 ?_
 refine qG 2 ?_
 refine zA3 (zB0 (s := .bool _) (v := .bool (decide (a > m))) rfl (zE2 _) (fun hc3 => ?_) ?_)
 ·
  have hc3_ := hc3
  try simp only [sb] at hc3_
  refine zM7 (gvt hc3) (gvt hc3) ?_
  exact ⟨rfl, rfl⟩
 refine stp (zH6 rfl rfl rfl ?_)
 refine qZ 1 ?_
 refine qG 3 ?_
 refine zA3 (zB0 (s := .bool _) (v := .int .i64 (m - a)) rfl (zE2 _) (fun hc7 => ?_) ?_)
 ·
  have hc7_ := hc7
  try simp only [sb] at hc7_
  refine zM6 (gvt hc7) (gvt hc7) ?_ ?_; constructor <;> omega
  exact ⟨rfl, rfl⟩
 refine zA3 (zB0 (s := .bool _) (v := .bool (decide (1 > (m - a)))) rfl (zE2 _) (fun hc8 => ?_) ?_)
 ·
  have hc8_ := hc8
  try simp only [sb] at hc8_
  refine zM7 (gvt hc8) (gvt hc8) ?_
  exact ⟨rfl, rfl⟩
 refine stp (zH6 rfl rfl rfl ?_)
 refine zA6 ?_
 refine zA2 (b := (((decide ((if 1 < a then 1 else a) < 0)) || (decide (a > m))) || (decide (1 > (m - a))))) rfl (fun h1 => ?_) (fun h1 => ?_)
 ·
  simp only [sb] at h1
  refine qZ 6 ?_
  refine ret2 (zA1 (v := .int .i64 0) rfl) (zA1 (v := .bool false) rfl) ⟨?_, G⟩
  have h9 : zJ7 a 1 m = false := by simp only [zJ7]; exact decide_eq_false (by omega)
  rw [h9]; rfl
 ·
  simp only [sb] at h1
  have h9 : zJ7 a 1 m = true := by simp only [zJ7]; exact decide_eq_true (by omega)
  refine qZ 5 ?_
  refine stp (zB5 rfl rfl ?_ ?_); constructor <;> omega
  refine qZ 4 ?_
  refine ret2 (zA1 (v := .int .i64 (a + 1)) rfl) (zA1 (v := .bool true) rfl) ⟨?_, G⟩
  rw [h9]; rfl
theorem qQ5 (w : World) {ad : Option Addr} {c : Nat} {sz : List Int} {seg a : Int} (R : RowAt w 1 ad sz.length (sz.map (.int .i64))) (hs : ∀ i, i < sz.length → 0 ≤ sz.getD i 0 ∧ sz.getD i 0 ≤ 140737488355328) : zB8 Tryz.prog 119 #[.slice ad sz.length c, .int .i64 seg, .int .i64 a, .int .i64 1] w (.bool (zG3 sz seg a 1)) := by
 have ll := R.lim
 have G := Grow.rfl' w
 refine zA9 Tryz.func119 Tryz.ntmps119 Tryz.results119 rfl rfl ?_
 refine qZ 8 ?_
 refine stp (zF1 rfl rfl ?_)
 refine qZ 1 ?_
 refine qG 3 ?_
 refine zA3 (zB0 (s := .bool _) (v := .bool (decide (seg ≥ (sz.length : Int)))) rfl (zE2 _) (fun hc4 => ?_) ?_)
 ·
  have hc4_ := hc4
  try simp only [sb] at hc4_
  refine zO4 (gvt hc4) (gvt hc4) ?_
  exact ⟨rfl, rfl⟩
 refine stp (zH6 rfl rfl rfl ?_)
 refine zA6 ?_
 refine zA2 (b := ((decide (seg < 0)) || (decide (seg ≥ (sz.length : Int))))) rfl (fun h1 => ?_) (fun h1 => ?_)
 ·
  simp only [sb] at h1
  refine qZ 5 ?_
  refine ret1 (zA1 (v := .bool false) rfl) ⟨?_, G⟩
  have h9 : zG3 sz seg a 1 = false := by unfold zG3; rw [decide_eq_false (by omega), Bool.false_and]
  rw [h9]
 ·
  simp only [sb] at h1
  have h9 := hs seg.toNat (by omega)
  refine qZ 7 ?_
  refine stp (zE7 (R.grow G) rfl rfl ?_ ?_ ?_); omega; omega
  refine stp (zC6 (v := .int .i64 (sz.getD seg.toNat 0)) (m := 0) (R.grow G) rfl (by rw [Nat.mul_one]; exact zZ2 0 (by omega)) ?_)
  refine stp (zA4 (v := .tuple #[.int .i64 (if zJ7 a 1 (sz.getD seg.toNat 0) then a + 1 else 0), .bool (zJ7 a 1 (sz.getD seg.toNat 0))]) rfl (yK3 _ (m := sz.getD seg.toNat 0) h9) ?_)
  intro w5 g6
  replace G := G.tr g6
  clear g6
  refine qZ 12 ?_
  refine ret1 (zA1 (v := .bool (zJ7 a 1 (sz.getD seg.toNat 0))) rfl) ⟨?_, G⟩
  unfold zG3; rw [decide_eq_true (by omega), Bool.true_and]
theorem qW1 (w : World) {ad : Option Addr} {c : Nat} {sz : List Int} (R : RowAt w 1 ad sz.length (sz.map (.int .i64))) (hr : ∀ x ∈ sz, inR .i64 x) {seg a : Int} (hc : sz.length ≤ c) : zB8 Tryz.prog 181 #[.slice ad sz.length c, .int .i64 seg, .int .i64 a] w (.int .i64 (zH7 sz seg a)) := by
 have lR := R.lim
 have G := Grow.rfl' w
 refine zA9 Tryz.func181 Tryz.ntmps181 Tryz.results181 rfl rfl ?_
 refine qZ 8 ?_
 refine stp (zA4 (v := .bool (zM1 sz)) rfl (yB8 _ (R.grow G) hr) ?_)
 intro w1 g2
 replace G := G.tr g2
 clear g2
 refine stp (zN7 rfl ?_)
 refine qZ 1 ?_
 refine qG 3 ?_
 refine zA3 (zY2 (s := .bool (!(zM1 sz))) (b := false) (v := .bool (decide (0 ≤ seg ∧ seg < sz.length ∧ 0 ≤ a ∧ a < sz.getD seg.toNat 0))) rfl (zE2 _) (fun hc6 => ?_) ?_)
 ·
  have hc6_ := hc6
  try simp only [sb] at hc6_
  exact zN5 (l := ([.slice ad sz.length c, .int .i64 seg, .int .i64 a, .int .i64 1] : List Value)) rfl (by show ([gv (!(!(zM1 sz))) (.slice ad sz.length c), gv (!(!(zM1 sz))) (.int .i64 seg), gv (!(!(zM1 sz))) (.int .i64 a), .int .i64 1] : List Value) = _; rw [gvt hc6, gvt hc6, gvt hc6]) ((by have hf_ : zM1 sz = true := (by simpa using hc6); exact zJ5 (qQ5 _ (R.grow G) (fun i _ => by have := zT0 hf_ i; omega)) (y := .bool (decide (0 ≤ seg ∧ seg < sz.length ∧ 0 ≤ a ∧ a < sz.getD seg.toNat 0))) (by rw [yJ5 hf_]))) (fun w2_ g2_ => ⟨rfl, g2_⟩)
 intro w7 g8
 replace G := G.tr g8
 clear g8
 refine zA3 (zB0 (s := .bool _) (v := .bool (!(decide (0 ≤ seg ∧ seg < sz.length ∧ 0 ≤ a ∧ a < sz.getD seg.toNat 0)))) rfl (zE2 _) (fun hc9 => ?_) ?_)
 ·
  have hc9_ := hc9
  try simp only [sb] at hc9_
  refine zN7 (gvt hc9) ?_
  exact ⟨rfl, rfl⟩
 refine stp (zH6 rfl rfl rfl ?_)
 refine zA6 ?_
 refine zA2 (b := ((!(zM1 sz)) || (!(decide (0 ≤ seg ∧ seg < sz.length ∧ 0 ≤ a ∧ a < sz.getD seg.toNat 0))))) rfl (fun h1 => ?_) (fun h1 => ?_)
 ·
  simp only [sb] at h1
  refine qZ 5 ?_
  have h9 : zH7 sz seg a = -1 := by unfold zH7; rw [if_neg]; rintro ⟨x1, x2⟩; rcases h1 with h_ | h_; (rw [x1] at h_; cases h_); exact absurd x2 h_
  refine ret1 (zA1 (v := .int .i64 (-1)) rfl) ⟨?_, G⟩
  rw [h9]
 ·
  simp only [sb] at h1
  obtain ⟨hf, hw⟩ := h1
  have hw' := hw
  obtain ⟨n, hn⟩ : ∃ n : Nat, seg = (n : Int) := ⟨seg.toNat, by omega⟩
  have h9 : zH7 sz seg a = a + sumL (sz.take n) := by unfold zH7; rw [if_pos ⟨hf, hw'⟩, hn, Int.toNat_natCast]
  obtain ⟨f1, f2, f3, f4, f5⟩ := zX7 hf
  have hsz := zT0 hf
  have hsg := hsz seg.toNat
  refine qZ 6 ?_
  refine stp (qH3 rfl rfl (by omega) (by omega) ?_)
  have R2 := R.sliceH (m := n) hc (by omega) (by decide)
  rw [show seg.toNat = n from by omega]
  generalize (if c = 0 then ad else ad.map (·.add (0 * 1))) = ad2 at R2 ⊢
  refine qZ 4 ?_
  refine zF2 (fun m_ e_ w_ => ∃ (k : Nat), m_ = n - k ∧ Fr [(6, .int .i64 0), (21, .slice ad2 n c), (22, .int .i64 (n : Int)), (2, .int .i64 (a + sumL (sz.take k))), (23, .int .i64 (k : Int))] e_ ∧ (k ≤ n) ∧ Grow w w_) _ ⟨0, rfl, zC3 ⟨rfl, rfl, rfl, congrArg (Value.int .i64) (by simp [sumL]), rfl, trivial⟩, by omega, G⟩ ?_
  clear G
  rintro m_ e_ w10 ⟨k, rfl, ⟨e11, rfl⟩, hk, G⟩
  have hkz := hsz k
  have htk := zL4 f4 k
  refine qZ 2 ?_
  refine stp (zF1 rfl rfl ?_)
  refine qZ 2 ?_
  refine zA2 (b := (decide ((k : Int) < (n : Int)))) rfl (fun hlt => ?_) (fun hlt => ?_)
  ·
   replace hlt := qT hlt
   have hi : k < sz.length := by omega
   have ht := zS9 hi
   refine qZ 5 ?_
   refine stp (zD5 (R2.grow G) rfl rfl ?_ ?_); omega
   refine stp (zC6 (v := .int .i64 (sz.getD k 0)) (m := 0) (R2.grow G) rfl (show _ from yX0 (by omega) (by omega)) ?_)
   refine qZ 5 ?_
   refine stp (zB5 rfl rfl ?_ ?_); constructor <;> omega
   refine qZ 3 ?_
   refine stp (zB5 rfl rfl ?_ ?_); constructor <;> omega
   refine qZ 2 ?_
   refine ⟨_, ?_, k + 1, rfl, zC3 ⟨rfl, rfl, rfl, congrArg (Value.int .i64) (by omega), congrArg (Value.int .i64) (by omega), trivial⟩, by omega, G⟩
   omega
  ·
   replace hlt := qF hlt
   have hkn : k = n := by omega
   refine qZ 7 ?_
   refine ret1 (zA1 (v := .int .i64 (a + sumL (sz.take k))) rfl) ⟨?_, G⟩
   rw [h9, hkn]
instance : ViaI Tryz.prog 74 "Sizes" 79 0 := ⟨by kernel_rfl⟩
theorem yB9 : MethN Tryz.prog 110 "Sizes" 182 := ⟨fun v w => by kernel_rfl, fun args w => by kernel_rfl⟩
theorem zP4 : MethI Tryz.prog 74 "Word" 180 := ⟨fun v args w => by kernel_rfl⟩
theorem qG5 (w : World) {u : Value} {A : List (List Int)} (hA : zG5 w u A) (hl : A.length ≤ 1000) : Calls Tryz.prog 182 #[.agg #[u]] w (Ret fun r w2 => ∃ ad c, r = .slice ad (zC1 A).length c ∧ (zC1 A).length ≤ c ∧ RowAt w2 1 ad (zC1 A).length ((zC1 A).map (.int .i64)) ∧ Grow w w2) := by
 obtain ⟨segs_, ⟨ada, ca, rfl, hc1_, hc2_, RA⟩, hrows⟩ := hA
 have G := Grow.rfl' w
 refine zC2 Tryz.func182 Tryz.ntmps182 Tryz.results182 rfl rfl ?_
 refine qZ 2 ?_
 refine stp ?_
 refine qC ?_
 intro b1 w2 hb3 hc4 g5
 have hge6 := Nat.le_trans G.size hb3
 replace G := G.tr g5
 clear g5 hb3
 refine qZ 6 ?_
 refine stp ?_
 refine zD6 rfl (qJ5 _ (RA.grow G) rfl (fun i q hq => by obtain ⟨v, h1, h2⟩ := hrows i q hq; exact ⟨v, h1, h2.grow G⟩) (by omega)) ?_
 rintro v_ w7 ⟨own, g_⟩
 replace hc4 := g_.heap hc4
 replace G := G.tr g_
 clear g_
 obtain ⟨ad5, c5, rfl, hc5, hc6, RS⟩ := zI8 own (by omega)
 refine qZ 3 ?_
 rw [show (A.map fun s => Value.int .i64 (s.length : Int)) = (zC1 A).map (.int .i64) from by simp [zC1, Function.comp_def], ← zG9 A] at RS
 rw [← zG9 A] at hc5
 refine ret1 (zA1 (v := .slice ad5 A.length c5) rfl) ⟨_, _, by rw [zG9], hc5, RS, G⟩
theorem zN2 (w : World) {w0 : World} {u : Value} {A : List (List Int)} (hA : zG5 w0 u A) (hr : zD1 A = true) (hx : AllU A) {s : Src} (hs : s = zB7 A) (g0 : Grow w0 w) {bn : Nat} (hbn : w0.heap.size ≤ bn) {L : List Spn} (st : NtS 110 79 61 w0.heap.size w u bn L) (hL : L.length ≤ 200000) (seg a : Int) : Calls Tryz.prog 180 #[.pointer (some ⟨bn, 0, none⟩), .int .i64 seg, .int .i64 a] w (Ret fun v w' => v = .tuple #[.int .u64 (s.word seg a).1, .int .u16 (s.word seg a).2] ∧ NtS 110 79 61 w0.heap.size w' u bn (zL5 A L seg a) ∧ NkP [bn] 61 w0.heap.size w w') := by
 have K := NkP.refl [bn] 61 w0.heap.size w
 have g0w := g0.size
 obtain ⟨ad0, c0, hn0, oL⟩ := st
 obtain ⟨hlen16, hl4096⟩ := zN1 hr
 have hfit : zM1 (zC1 A) = true := by rw [qE9]; exact hr
 have hrz : ∀ x ∈ zC1 A, inR .i64 x := yX2 hfit
 have hlE := zK3 L
 have hbnw := zB3 hn0
 refine zC2 Tryz.func180 Tryz.ntmps180 Tryz.results180 rfl rfl ?_
 have hpl : zH7 (zC1 A) seg a < 0 ∨ (zH7 (zC1 A) seg a < 4096) := by by_cases h_ : zH7 (zC1 A) seg a < 0; exact .inl h_; (have h2_ := (qV4 (sz := zC1 A) (seg := seg) (a := a) (by omega)).2.2.2.2.2.2; have := yR1 (zC1 A); omega)
 refine qZ 12 ?_
 refine stp (qH5 zW1 rfl (qG5 _ (hA.grow g0) (by omega)) ?_)
 rintro v_ w1 ⟨adz, cz, rfl, hcz, RZ, g_⟩
 replace K := K.tr (NkP.of_grow g_)
 replace g0 := g0.tr g_
 replace hn0 := g_.heap hn0
 replace oL := zB4 oL g_
 clear g_
 refine qZ 2 ?_
 refine stp (zA4 (v := .int .i64 (zH7 (zC1 A) seg a)) rfl (qW1 _ RZ hrz hcz) ?_)
 intro w2 g3
 replace K := K.tr (NkP.of_grow g3)
 replace g0 := g0.tr g3
 replace hn0 := g3.heap hn0
 replace oL := zB4 oL g3
 replace RZ := RZ.grow g3
 clear g3
 refine qZ 5 ?_
 refine stp (zO4 rfl rfl ?_)
 refine zA6 ?_
 refine zA2 (b := (decide ((zH7 (zC1 A) seg a) ≥ 0))) rfl (fun h1 => ?_) (fun h1 => ?_)
 ·
  replace h1 := qT h1
  have h9 : (zL5 A L seg a) = L ++ [(zH7 (zC1 A) seg a, zH7 (zC1 A) seg a + 1)] := if_neg (by omega)
  refine qZ 8 ?_
  refine stp (zB5 rfl rfl ?_ ?_); constructor <;> omega
  refine stp (zA7 (v := .agg #[.int .i64 (zH7 (zC1 A) seg a), .int .i64 ((zH7 (zC1 A) seg a) + 1)]) (fun w => by kernel_rfl) ?_)
  refine stp (zC0 (cs := #[.int .i64 (zH7 (zC1 A) seg a), .int .i64 ((zH7 (zC1 A) seg a) + 1)]) (el := 61) (fun w => by kernel_rfl) ?_)
  intro bs4 w5 hb6 hc7 g8
  have hge9 := Nat.le_trans K.size hb6
  replace K := K.tr (NkP.of_grow g8)
  replace g0 := g0.tr g8
  replace hn0 := g8.heap hn0
  replace oL := zB4 oL g8
  clear g8
  refine stp (zG7 rfl rfl rfl rfl oL (Row.of_block (n := 1) hc7 rfl rfl (by omega)) (fun q_ hq_ => by simp at hq_; rcases hq_ with rfl | rfl <;> rfl) (by simp only [maxLen]; omega) (by omega) g0.size ?_)
  intro v7 w7 own2 gr7
  replace K := K.tr (NkP.of_grown oL gr7)
  replace g0 := g0.grown gr7 (zH5 oL)
  replace hn0 := zF5 gr7 hn0 (zD9 oL hn0 (by decide))
  have own3 := yX9 (s := (zH7 (zC1 A) seg a, zH7 (zC1 A) seg a + 1)) own2
  clear own2 gr7 oL
  obtain ⟨ad2, n2, c2, rfl⟩ := zD7 own3
  have hn3 := qD4 own3
  subst hn3
  refine qZ 2 ?_
  refine stn (zB9 (v := .slice ad2 ((L ++ [(zH7 (zC1 A) seg a, zH7 (zC1 A) seg a + 1)]).length) c2) rfl rfl (by rfl) hn0 (by rfl) (by rfl) ?_)
  intro w10 hc11 u12
  replace K := (by first | exact K.upd_new u12 (by assumption) | exact K.tr (NkP.of_upd u12 (by simp)))
  replace g0 := (by first | exact Grow.upd g0 u12 (Nat.le_trans g0w (by assumption)) | exact Grow.upd g0 u12 hbn | exact Grow.upd g0 u12 hb0)
  replace own3 := zF4 own3 u12 (zD9 own3 hn0 (by decide))
  clear u12 hn0
  refine qZ 9 ?_
  refine stp (zO1 (F := fun v_ w_ => v_ = .tuple #[.int .u64 (zH2 A seg a).1, .int .u16 (zH2 A seg a).2] ∧ Grow w10 w_) (a := .int .i64 seg) (b := .int .i64 a) zR9 rfl rfl rfl (zQ0 _ (hA.grow g0) seg a).c ?_)
  rintro v_ w13 ⟨rfl, g_⟩
  replace K := K.tr (NkP.of_grow g_)
  replace g0 := g0.tr g_
  replace own3 := zB4 own3 g_
  replace hc11 := g_.heap hc11
  clear g_
  refine qZ 6 ?_
  subst hs
  rw [h9]
  refine ret2 (zA1 (v := .int .u64 ((zH2 A seg a).1)) rfl) (zA1 (v := .int .u16 ((zH2 A seg a).2)) rfl) ⟨rfl, ⟨ad2, c2, hc11, own3⟩, K⟩
 ·
  replace h1 := qF h1
  have h9 : (zL5 A L seg a) = L := if_pos (by omega)
  refine qZ 9 ?_
  refine stp (zO1 (F := fun v_ w_ => v_ = .tuple #[.int .u64 (zH2 A seg a).1, .int .u16 (zH2 A seg a).2] ∧ Grow w2 w_) (a := .int .i64 seg) (b := .int .i64 a) zR9 rfl rfl rfl (zQ0 _ (hA.grow g0) seg a).c ?_)
  rintro v_ w14 ⟨rfl, g_⟩
  replace K := K.tr (NkP.of_grow g_)
  replace g0 := g0.tr g_
  replace hn0 := g_.heap hn0
  replace oL := zB4 oL g_
  replace RZ := RZ.grow g_
  clear g_
  refine qZ 6 ?_
  subst hs
  rw [h9]
  refine ret2 (zA1 (v := .int .u64 ((zH2 A seg a).1)) rfl) (zA1 (v := .int .u16 ((zH2 A seg a).2)) rfl) ⟨rfl, ⟨ad0, c0, hn0, oL⟩, K⟩
end Go.Proofs.YtkkbbhpbcfcplaaGreat.K
