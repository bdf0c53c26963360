/- The walks of chapter 08's statements (printed by l08.py). -/
import Derived.Test.YthbcgfmoakokiaaJ12
import Derived.Test.YthbcgfmoakokiaaS08
import Derived.Test.YthbcgfmoakokiaaU08
import Derived.Test.YthbcgfmoakokiaaBS
import Derived.Test.YthbcgfmoakokiaaT
import Derived.Test.YthbcgfmoakokiaaM08
import Derived.Test.YthbcgfmoakokiaaB08
import Derived.Test.YthbcgfmoakokiaaO08
import Derived.Test.YthbcgfmoakokiaaPtr
import Derived.Test.YthbcgfmoakokiaaBA
import Derived.Test.YthbcgfmoakokiaaBB
import Derived.Test.YthbcgfmoakokiaaBC
import Derived.Test.YthbcgfmoakokiaaBD
import Derived.Test.YthbcgfmoakokiaaBE
import Derived.Test.YthbcgfmoakokiaaBF
import Derived.Test.YthbcgfmoakokiaaQ08
import Derived.Test.YthbcgfmoakokiaaP08
import Derived.Test.YthbcgfmoakokiaaBG
set_option linter.unusedVariables false
set_option linter.unusedSimpArgs false
namespace Go.Proofs.Ythbcgfmoakokiaa.K
open Go Go.RowKit Go.Proofs
attribute [local irreducible] Run1 OpG WL W AO Gives
set_option maxRecDepth 100000 in
theorem BuildTwice_calls (w : World) {n cp : Nat} {ad : Option Addr} {xs : List Int} (R : RowAt w 1 ad n (xs.map (.int .u8))) (hn : n = xs.length) (hx : isU8 xs) (hcp : n ≤ cp) (hcp2 : cp ≤ maxLen) {k i : Int} (k0 : 0 ≤ k) (k1 : k ≤ 255) (i0 : 0 ≤ i) (i1 : i ≤ 255) : Gives Try.prog 8 #[.slice ad n cp, .int .u8 k, .int .u8 i] w (.bool true) := by
 have G := Grow.rfl' w
 refine gives_of Try.func8 Try.ntmps8 Try.results8 rfl rfl ?_
 refine W_seq (W_region rfl ?_)
 refine stp (r_assign (v := .bool false) rfl ?_)
 refine WL_nil ?_
 refine W_seq ?_
 refine W_seq (W_region rfl ?_)
 refine stp (r_move_slice rfl ?_)
 refine stp (r_len rfl rfl rfl ?_)
 refine stp (r_gtr rfl rfl ?_)
 refine WL_nil ?_
 refine W_cond2 (b := (decide ((n : Int) > 150))) rfl (fun h1 => ?_) (fun h1 => ?_)
 ·-- true
  replace h1 := of_decide_eq_true h1
  refine W_seq (W_region rfl ?_)
  refine stp (r_gives (v := .bool true) rfl (known_calls _) ?_)
  intro w1 g2
  replace G := G.tr g2
  clear g2
  refine stp (r_assign (v := .bool true) rfl ?_)
  refine WL_nil ?_
  refine W_ret ?_
  refine ret1 (res_tmp (v := .bool true) rfl) ⟨?_, G⟩
  rfl
 ·-- false
  replace h1 := of_decide_eq_false h1
  obtain ⟨tr, htr⟩ : ∃ t, t = (treeP 9 xs).1 := ⟨_, rfl⟩
  have hr31 : tr.right 31 = true := htr ▸ treeP_right 9 xs 31 (by omega) hx
  have hnd := treeP_needs 9 xs hx
  rw [← htr] at hnd
  have hnn := Nd.needs_nn tr
  obtain ⟨sg, hbl, hsl, hsl2⟩ := twice_one (t := tr) 0 hr31 (by omega)
  obtain ⟨hl1, hl2, hp1, hpj⟩ := set1_part i (i + 1) hsl (by omega)
  have hsame : tr.beq tr = true := (Nd.beq_iff _ _).2 rfl
  have hdiff := wrapN_ne (n := i) (m := i + 1) (t := tr) (by omega)
  refine W_skip ?_
  refine W_seq (W_region rfl ?_)
  refine stp (r_move_slice rfl ?_)
  refine WL_some (og rfl ?_)
  have hcal := tree_calls _ _ (d := 9) R G hn hx hcp hcp2 (by omega) (Nat.le_refl _)
  rw [show ((9 : Nat) : Int) = 9 from rfl] at hcal
  refine r_call rfl hcal ?_
  rintro v_ w3 ⟨cells, adry, nry, cry, rfl, hT, -, -, -, -, g_⟩
  replace G := G.tr g_
  clear g_
  replace hT := hT.sees (Sees.seen _ _)
  rw [← htr] at hT
  clear hcal
  obtain ⟨y0, y1, ya, yn, yc, yd, ye, yf, yg, yh, yi, rfl⟩ := hT.cells
  refine stp (r_move (v := .tuple #[.agg #[.int .i64 y0, .int .i64 y1, .slice ya yn yc, .slice yd ye yf, .slice yg yh yi], .slice adry nry cry]) rfl ?_)
  refine stp (r_extract (v := .agg #[.int .i64 y0, .int .i64 y1, .slice ya yn yc, .slice yd ye yf, .slice yg yh yi]) rfl rfl ?_)
  refine stp (r_extract (v := .slice adry nry cry) rfl rfl ?_)
  refine stp (r_alloc ?_)
  intro b4 w5 hb6 hc7 g8
  refine stn (r_storeAll rfl rfl hc7 (by rfl) (by rfl) (by rfl) ?_)
  intro w9 hc10 u11
  have g12 := g8.upd u11 hb6
  have hge13 := Nat.le_trans G.size hb6
  replace hT := hT.grow g12
  replace G := G.tr g12
  clear u11 g8 hb6 hc7
  refine stp (r_assign_slice rfl ?_)
  refine WL_nil ?_
  refine W_seq (W_region rfl ?_)
  refine stp (r_move_slice rfl ?_)
  refine WL_some (og rfl ?_)
  have hcal := tree_calls _ _ (d := 9) R G hn hx hcp hcp2 (by omega) (Nat.le_refl _)
  rw [show ((9 : Nat) : Int) = 9 from rfl] at hcal
  refine r_call rfl hcal ?_
  rintro v_ w14 ⟨cells, adrz, nrz, crz, rfl, hU, -, -, -, -, g_⟩
  replace hT := hT.grow g_
  replace hc10 := g_.heap hc10
  replace G := G.tr g_
  clear g_
  replace hU := hU.sees (Sees.seen _ _)
  rw [← htr] at hU
  clear hcal
  obtain ⟨z0, z1, za, zn, zc, zd, ze, zf, zg, zh, zi, rfl⟩ := hU.cells
  refine stp (r_move (v := .tuple #[.agg #[.int .i64 z0, .int .i64 z1, .slice za zn zc, .slice zd ze zf, .slice zg zh zi], .slice adrz nrz crz]) rfl ?_)
  refine stp (r_extract (v := .agg #[.int .i64 z0, .int .i64 z1, .slice za zn zc, .slice zd ze zf, .slice zg zh zi]) rfl rfl ?_)
  refine stp (r_extract (v := .slice adrz nrz crz) rfl rfl ?_)
  refine stp (r_alloc ?_)
  intro b15 w16 hb17 hc18 g19
  refine stn (r_storeAll rfl rfl hc18 (by rfl) (by rfl) (by rfl) ?_)
  intro w20 hc21 u22
  have g23 := g19.upd u22 hb17
  have hge24 := Nat.le_trans G.size hb17
  have ne25 := Nat.ne_of_lt (Nat.lt_of_lt_of_le (lt_of_heap hc10) hb17)
  replace hT := hT.grow g23
  replace hc10 := g23.heap hc10
  replace hU := hU.grow g23
  replace G := G.tr g23
  clear u22 g19 hb17 hc18
  refine stp (r_assign_slice rfl ?_)
  refine WL_nil ?_
  refine W_seq (W_region rfl ?_)
  refine stp (r_move_int rfl ?_)
  refine stp (r_rem rfl rfl ?_ ?_ ?_); omega; omega
  refine stp (r_conv rfl ?_ ?_); constructor <;> omega
  refine stp (r_add rfl rfl ?_ ?_); constructor <;> omega
  refine stp (r_assign_int rfl ?_)
  refine WL_nil ?_
  refine W_seq (W_region rfl ?_)
  refine stp (r_loadAll rfl hc10 (by rfl) ?_)
  refine stp (r_move_int rfl ?_)
  refine WL_some (og rfl ?_)
  refine r_call rfl (Build_calls _ (t := tr) hT (2 + k % 60)) ?_
  rintro v_ w26 ⟨so_, segsa, rfl, hA_, g_⟩
  replace hT := hT.grow g_
  replace hc10 := g_.heap hc10
  replace hU := hU.grow g_
  replace hc21 := g_.heap hc21
  replace G := G.tr g_
  clear g_
  have hsma := Nd.build_sml tr (2 + k % 60)
  have heea := Nd.build_err tr (2 + k % 60)
  obtain ⟨Aa, hAa⟩ : ∃ A, A = (Nd.build tr (2 + k % 60)).1 := ⟨_, rfl⟩
  obtain ⟨ea, hea⟩ : ∃ e, e = (Nd.build tr (2 + k % 60)).2 := ⟨_, rfl⟩
  rw [← hAa] at hA_ hsma
  rw [← hea] at heea ⊢
  obtain ⟨ada, cca, saa, sca, rfl, -, -, ROa, hsfa⟩ := hA_.fn (by have := hsma.len; omega)
  replace hsfa := fun i hi => (hsfa i hi).1
  clear hA_
  have hlena := hsma.len
  refine stp (r_move (v := .tuple #[.slice ada Aa.length cca, .int .u16 ea]) rfl ?_)
  refine stp (r_extract (v := .slice ada Aa.length cca) rfl rfl ?_)
  refine stp (r_extract (v := .int .u16 ea) rfl rfl ?_)
  refine stp (r_assign_slice rfl ?_)
  refine stp (r_assign_int rfl ?_)
  refine WL_nil ?_
  refine W_seq (W_region rfl ?_)
  refine stp (r_loadAll rfl hc21 (by rfl) ?_)
  refine stp (r_move_int rfl ?_)
  refine WL_some (og rfl ?_)
  refine r_call rfl (Build_calls _ (t := tr) hU (2 + k % 60)) ?_
  rintro v_ w27 ⟨so_, segsb, rfl, hA_, g_⟩
  replace hT := hT.grow g_
  replace hc10 := g_.heap hc10
  replace hU := hU.grow g_
  replace hc21 := g_.heap hc21
  replace ROa := ROa.grow g_
  replace G := G.tr g_
  clear g_
  have hsmb := Nd.build_sml tr (2 + k % 60)
  have heeb := Nd.build_err tr (2 + k % 60)
  obtain ⟨Ab, hAb⟩ : ∃ A, A = (Nd.build tr (2 + k % 60)).1 := ⟨_, rfl⟩
  obtain ⟨eb, heb⟩ : ∃ e, e = (Nd.build tr (2 + k % 60)).2 := ⟨_, rfl⟩
  rw [← hAb] at hA_ hsmb
  rw [← heb] at heeb ⊢
  obtain ⟨adb, ccb, sab, scb, rfl, -, -, ROb, hsfb⟩ := hA_.fn (by have := hsmb.len; omega)
  replace hsfb := fun i hi => (hsfb i hi).1
  clear hA_
  have hlenb := hsmb.len
  refine stp (r_move (v := .tuple #[.slice adb Ab.length ccb, .int .u16 eb]) rfl ?_)
  refine stp (r_extract (v := .slice adb Ab.length ccb) rfl rfl ?_)
  refine stp (r_extract (v := .int .u16 eb) rfl rfl ?_)
  refine stp (r_assign_slice rfl ?_)
  refine stp (r_assign_int rfl ?_)
  refine WL_nil ?_
  refine W_seq (W_region rfl ?_)
  refine stp (r_move_int rfl ?_)
  refine stp (r_conv rfl ?_ ?_); constructor <;> omega
  refine stp (r_buildSlice (cs := #[.int .u64 i]) (el := 44) (fun w => by kernel_rfl) ?_)
  intro bs28 w29 hb30 hc31 g32
  have hge33 := Nat.le_trans G.size hb30
  have ne34 := Nat.ne_of_lt (Nat.lt_of_lt_of_le (lt_of_heap hc10) hb30)
  have ne35 := Nat.ne_of_lt (Nat.lt_of_lt_of_le (lt_of_heap hc21) hb30)
  replace hT := hT.grow g32
  replace hc10 := g32.heap hc10
  replace hU := hU.grow g32
  replace hc21 := g32.heap hc21
  replace ROa := ROa.grow g32
  replace ROb := ROb.grow g32
  replace G := G.tr g32
  clear g32
  refine stp (r_loadAll rfl hc10 (by rfl) ?_)
  refine stp (r_buildSlice (cs := #[.int .i64 y0, .int .i64 y1, .slice ya yn yc, .slice yd ye yf, .slice yg yh yi]) (el := 26) (fun w => by kernel_rfl) ?_)
  intro bs36 w37 hb38 hc39 g40
  have hge41 := Nat.le_trans G.size hb38
  have ne42 := Nat.ne_of_lt (Nat.lt_of_lt_of_le (lt_of_heap hc10) hb38)
  have ne43 := Nat.ne_of_lt (Nat.lt_of_lt_of_le (lt_of_heap hc21) hb38)
  replace hT := hT.grow g40
  replace hc10 := g40.heap hc10
  replace hU := hU.grow g40
  replace hc21 := g40.heap hc21
  replace ROa := ROa.grow g40
  replace ROb := ROb.grow g40
  replace hc31 := g40.heap hc31
  replace G := G.tr g40
  clear g40
  refine stp (r_build (v := .agg #[.int .i64 1, .int .i64 0, .slice (some ⟨bs28, 0, none⟩) 1 1, .slice none 0 0, .slice (some ⟨bs36, 0, none⟩) 1 1]) (fun w => by kernel_rfl) ?_)
  refine stp (r_alloc ?_)
  intro b44 w45 hb46 hc47 g48
  refine stn (r_storeAll rfl rfl hc47 (by rfl) (by rfl) (by rfl) ?_)
  intro w49 hc50 u51
  have g52 := g48.upd u51 hb46
  have hge53 := Nat.le_trans G.size hb46
  have ne54 := Nat.ne_of_lt (Nat.lt_of_lt_of_le (lt_of_heap hc10) hb46)
  have ne55 := Nat.ne_of_lt (Nat.lt_of_lt_of_le (lt_of_heap hc21) hb46)
  have ne56 := Nat.ne_of_lt (Nat.lt_of_lt_of_le (lt_of_heap hc31) hb46)
  have ne57 := Nat.ne_of_lt (Nat.lt_of_lt_of_le (lt_of_heap hc39) hb46)
  replace hT := hT.grow g52
  replace hc10 := g52.heap hc10
  replace hU := hU.grow g52
  replace hc21 := g52.heap hc21
  replace ROa := ROa.grow g52
  replace ROb := ROb.grow g52
  replace hc31 := g52.heap hc31
  replace hc39 := g52.heap hc39
  replace G := G.tr g52
  clear u51 g48 hb46 hc47
  refine WL_nil ?_
  refine W_seq (W_region rfl ?_)
  refine stp (r_move_int rfl ?_)
  refine stp (r_conv rfl ?_ ?_); constructor <;> omega
  refine stp (r_add rfl rfl ?_ ?_); constructor <;> omega
  refine stp (r_buildSlice (cs := #[.int .u64 (i + 1)]) (el := 44) (fun w => by kernel_rfl) ?_)
  intro bs58 w59 hb60 hc61 g62
  have hge63 := Nat.le_trans G.size hb60
  have ne64 := Nat.ne_of_lt (Nat.lt_of_lt_of_le (lt_of_heap hc10) hb60)
  have ne65 := Nat.ne_of_lt (Nat.lt_of_lt_of_le (lt_of_heap hc21) hb60)
  have ne66 := Nat.ne_of_lt (Nat.lt_of_lt_of_le (lt_of_heap hc50) hb60)
  replace hT := hT.grow g62
  replace hc10 := g62.heap hc10
  replace hU := hU.grow g62
  replace hc21 := g62.heap hc21
  replace ROa := ROa.grow g62
  replace ROb := ROb.grow g62
  replace hc31 := g62.heap hc31
  replace hc39 := g62.heap hc39
  replace hc50 := g62.heap hc50
  replace G := G.tr g62
  clear g62
  refine stp (r_loadAll rfl hc10 (by rfl) ?_)
  refine stp (r_buildSlice (cs := #[.int .i64 y0, .int .i64 y1, .slice ya yn yc, .slice yd ye yf, .slice yg yh yi]) (el := 26) (fun w => by kernel_rfl) ?_)
  intro bs67 w68 hb69 hc70 g71
  have hge72 := Nat.le_trans G.size hb69
  have ne73 := Nat.ne_of_lt (Nat.lt_of_lt_of_le (lt_of_heap hc10) hb69)
  have ne74 := Nat.ne_of_lt (Nat.lt_of_lt_of_le (lt_of_heap hc21) hb69)
  have ne75 := Nat.ne_of_lt (Nat.lt_of_lt_of_le (lt_of_heap hc50) hb69)
  replace hT := hT.grow g71
  replace hc10 := g71.heap hc10
  replace hU := hU.grow g71
  replace hc21 := g71.heap hc21
  replace ROa := ROa.grow g71
  replace ROb := ROb.grow g71
  replace hc31 := g71.heap hc31
  replace hc39 := g71.heap hc39
  replace hc50 := g71.heap hc50
  replace hc61 := g71.heap hc61
  replace G := G.tr g71
  clear g71
  refine stp (r_build (v := .agg #[.int .i64 1, .int .i64 0, .slice (some ⟨bs58, 0, none⟩) 1 1, .slice none 0 0, .slice (some ⟨bs67, 0, none⟩) 1 1]) (fun w => by kernel_rfl) ?_)
  refine stp (r_alloc ?_)
  intro b76 w77 hb78 hc79 g80
  refine stn (r_storeAll rfl rfl hc79 (by rfl) (by rfl) (by rfl) ?_)
  intro w81 hc82 u83
  have g84 := g80.upd u83 hb78
  have hge85 := Nat.le_trans G.size hb78
  have ne86 := Nat.ne_of_lt (Nat.lt_of_lt_of_le (lt_of_heap hc10) hb78)
  have ne87 := Nat.ne_of_lt (Nat.lt_of_lt_of_le (lt_of_heap hc21) hb78)
  have ne88 := Nat.ne_of_lt (Nat.lt_of_lt_of_le (lt_of_heap hc31) hb78)
  have ne89 := Nat.ne_of_lt (Nat.lt_of_lt_of_le (lt_of_heap hc39) hb78)
  have ne90 := Nat.ne_of_lt (Nat.lt_of_lt_of_le (lt_of_heap hc50) hb78)
  have ne91 := Nat.ne_of_lt (Nat.lt_of_lt_of_le (lt_of_heap hc61) hb78)
  have ne92 := Nat.ne_of_lt (Nat.lt_of_lt_of_le (lt_of_heap hc70) hb78)
  replace hT := hT.grow g84
  replace hc10 := g84.heap hc10
  replace hU := hU.grow g84
  replace hc21 := g84.heap hc21
  replace ROa := ROa.grow g84
  replace ROb := ROb.grow g84
  replace hc31 := g84.heap hc31
  replace hc39 := g84.heap hc39
  replace hc50 := g84.heap hc50
  replace hc61 := g84.heap hc61
  replace hc70 := g84.heap hc70
  replace G := G.tr g84
  clear u83 g80 hb78 hc79
  refine WL_nil ?_
  have hX : NodeR w81 [.int .i64 1, .int .i64 0, .slice (some ⟨bs28, 0, none⟩) 1 1, .slice none 0 0, .slice (some ⟨bs36, 0, none⟩) 1 1] (wrapN (i) tr) := .mk (by simp [inR]) (by simp [inR]) (Row.of_block (n := 1) hc31 rfl rfl (by decide)) (by intro x_ hx_; simp only [List.mem_singleton] at hx_; subst hx_; simp only [inR]; omega) (Row.nil _ _) (by simp) (Row.of_block (n := 1) (sz := 5) hc39 rfl rfl (by decide)) (by have h_ := KidsR.cons hT .nil; simpa using h_)
  have hY : NodeR w81 [.int .i64 1, .int .i64 0, .slice (some ⟨bs58, 0, none⟩) 1 1, .slice none 0 0, .slice (some ⟨bs67, 0, none⟩) 1 1] (wrapN (i + 1) tr) := .mk (by simp [inR]) (by simp [inR]) (Row.of_block (n := 1) hc61 rfl rfl (by decide)) (by intro x_ hx_; simp only [List.mem_singleton] at hx_; subst hx_; simp only [inR]; omega) (Row.nil _ _) (by simp) (Row.of_block (n := 1) (sz := 5) hc70 rfl rfl (by decide)) (by have h_ := KidsR.cons hT .nil; simpa using h_)
  refine W_seq (W_region rfl ?_)
  refine stp (r_loadAll rfl hc50 (by rfl) ?_)
  refine WL_some (og rfl ?_)
  refine r_call rfl (Build_calls _ (t := (wrapN (i) tr)) hX 4096) ?_
  rintro v_ w93 ⟨so_, segsc, rfl, hA_, g_⟩
  replace hT := hT.grow g_
  replace hc10 := g_.heap hc10
  replace hU := hU.grow g_
  replace hc21 := g_.heap hc21
  replace ROa := ROa.grow g_
  replace ROb := ROb.grow g_
  replace hc31 := g_.heap hc31
  replace hc39 := g_.heap hc39
  replace hc50 := g_.heap hc50
  replace hc61 := g_.heap hc61
  replace hc70 := g_.heap hc70
  replace hc82 := g_.heap hc82
  replace hX := hX.grow g_
  replace hY := hY.grow g_
  replace G := G.tr g_
  clear g_
  have hsmc := Nd.build_sml (wrapN (i) tr) 4096
  have heec := Nd.build_err (wrapN (i) tr) 4096
  obtain ⟨Ac, hAc⟩ : ∃ A, A = (Nd.build (wrapN (i) tr) 4096).1 := ⟨_, rfl⟩
  obtain ⟨ec, hec⟩ : ∃ e, e = (Nd.build (wrapN (i) tr) 4096).2 := ⟨_, rfl⟩
  rw [← hAc] at hA_ hsmc
  rw [← hec] at heec ⊢
  obtain ⟨adc, ccc, sac, scc, rfl, -, -, ROc, hsfc⟩ := hA_.fn (by have := hsmc.len; omega)
  have hrwc := fun i_ (hi_ : i_ < Ac.length) => (hsfc i_ hi_).2; replace hsfc := fun i_ hi_ => (hsfc i_ hi_).1
  clear hA_
  have hlenc := hsmc.len
  rw [hbl] at hAc hec
  dsimp only at hAc hec
  have halc : Ac.length = 1 := by rw [hAc]; rfl
  have hagc : Ac.getD 0 [] = sg.set 1 (i) := by rw [hAc]; rfl
  have hglc : len2 Ac 0 = sg.length := by simp only [len2]; rw [hagc]; exact List.length_set
  obtain ⟨_, _, hs_, -, -, RWc⟩ := own_row (hrwc 0 (by omega)) (by omega)
  simp only [Value.slice.injEq] at hs_
  obtain ⟨rfl, -, rfl⟩ := hs_
  rw [hagc] at RWc
  clear hrwc
  refine stp (r_move (v := .tuple #[.slice adc Ac.length ccc, .int .u16 ec]) rfl ?_)
  refine stp (r_extract (v := .slice adc Ac.length ccc) rfl rfl ?_)
  refine stp (r_extract (v := .int .u16 ec) rfl rfl ?_)
  refine stp (r_assign_slice rfl ?_)
  refine stp (r_assign_int rfl ?_)
  refine WL_nil ?_
  refine W_seq (W_region rfl ?_)
  refine stp (r_loadAll rfl hc82 (by rfl) ?_)
  refine WL_some (og rfl ?_)
  refine r_call rfl (Build_calls _ (t := (wrapN (i + 1) tr)) hY 4096) ?_
  rintro v_ w94 ⟨so_, segsd, rfl, hA_, g_⟩
  replace hT := hT.grow g_
  replace hc10 := g_.heap hc10
  replace hU := hU.grow g_
  replace hc21 := g_.heap hc21
  replace ROa := ROa.grow g_
  replace ROb := ROb.grow g_
  replace hc31 := g_.heap hc31
  replace hc39 := g_.heap hc39
  replace hc50 := g_.heap hc50
  replace hc61 := g_.heap hc61
  replace hc70 := g_.heap hc70
  replace hc82 := g_.heap hc82
  replace hX := hX.grow g_
  replace hY := hY.grow g_
  replace ROc := ROc.grow g_
  replace RWc := RWc.grow g_
  replace G := G.tr g_
  clear g_
  have hsmd := Nd.build_sml (wrapN (i + 1) tr) 4096
  have heed := Nd.build_err (wrapN (i + 1) tr) 4096
  obtain ⟨Ad, hAd⟩ : ∃ A, A = (Nd.build (wrapN (i + 1) tr) 4096).1 := ⟨_, rfl⟩
  obtain ⟨ed, hed⟩ : ∃ e, e = (Nd.build (wrapN (i + 1) tr) 4096).2 := ⟨_, rfl⟩
  rw [← hAd] at hA_ hsmd
  rw [← hed] at heed ⊢
  obtain ⟨add, ccd, sad, scd, rfl, -, -, ROd, hsfd⟩ := hA_.fn (by have := hsmd.len; omega)
  have hrwd := fun i_ (hi_ : i_ < Ad.length) => (hsfd i_ hi_).2; replace hsfd := fun i_ hi_ => (hsfd i_ hi_).1
  clear hA_
  have hlend := hsmd.len
  rw [hbl] at hAd hed
  dsimp only at hAd hed
  have hald : Ad.length = 1 := by rw [hAd]; rfl
  have hagd : Ad.getD 0 [] = sg.set 1 (i + 1) := by rw [hAd]; rfl
  have hgld : len2 Ad 0 = sg.length := by simp only [len2]; rw [hagd]; exact List.length_set
  obtain ⟨_, _, hs_, -, -, RWd⟩ := own_row (hrwd 0 (by omega)) (by omega)
  simp only [Value.slice.injEq] at hs_
  obtain ⟨rfl, -, rfl⟩ := hs_
  rw [hagd] at RWd
  clear hrwd
  refine stp (r_move (v := .tuple #[.slice add Ad.length ccd, .int .u16 ed]) rfl ?_)
  refine stp (r_extract (v := .slice add Ad.length ccd) rfl rfl ?_)
  refine stp (r_extract (v := .int .u16 ed) rfl rfl ?_)
  refine stp (r_assign_slice rfl ?_)
  refine stp (r_assign_int rfl ?_)
  refine WL_nil ?_
  have hab : Aa = Ab := hAa.trans hAb.symm
  have hablen : Aa.length = Ab.length := by rw [hab]
  have heab : ea = eb := hea.trans heb.symm
  refine W_seq ?_
  refine W_seq ?_
  refine W_any 34 [[], [0], [], [0], [3, 2, 1, 0], [4, 3, 2, 1, 0], [5, 4, 3, 2, 1, 0], [6, 5, 4, 3, 2, 1, 0], [7, 6, 5, 4, 3, 2, 1, 0], [8, 7, 6, 5, 4, 3, 2, 1, 0], [9, 8, 7, 6, 5, 4, 3, 2, 1, 0], [10, 9, 8, 7, 6, 5, 4, 3, 2, 1, 0], [11, 10, 9, 8, 7, 6, 5, 4, 3, 2, 1, 0], [12, 11, 10, 9, 8, 7, 6, 5, 4, 3, 2, 1, 0], [13, 12, 11, 10, 9, 8, 7, 6, 5, 4, 3, 2, 1, 0], [14, 13, 12, 11, 10, 9, 8, 7, 6, 5, 4, 3, 2, 1, 0], [15, 14, 13, 12, 11, 10, 9, 8, 7, 6, 5, 4, 3, 2, 1, 0], [16, 15, 14, 13, 12, 11, 10, 9, 8, 7, 6, 5, 4, 3, 2, 1, 0], [17, 16, 15, 14, 13, 12, 11, 10, 9, 8, 7, 6, 5, 4, 3, 2, 1, 0], [18, 17, 16, 15, 14, 13, 12, 11, 10, 9, 8, 7, 6, 5, 4, 3, 2, 1, 0], [19, 18, 17, 16, 15, 14, 13, 12, 11, 10, 9, 8, 7, 6, 5, 4, 3, 2, 1, 0], [20, 19, 18, 17, 16, 15, 14, 13, 12, 11, 10, 9, 8, 7, 6, 5, 4, 3, 2, 1, 0], [21, 20, 19, 18, 17, 16, 15, 14, 13, 12, 11, 10, 9, 8, 7, 6, 5, 4, 3, 2, 1, 0], [22, 21, 20, 19, 18, 17, 16, 15, 14, 13, 12, 11, 10, 9, 8, 7, 6, 5, 4, 3, 2, 1, 0], [23, 22, 21, 20, 19, 18, 17, 16, 15, 14, 13, 12, 11, 10, 9, 8, 7, 6, 5, 4, 3, 2, 1, 0], [24, 23, 22, 21, 20, 19, 18, 17, 16, 15, 14, 13, 12, 11, 10, 9, 8, 7, 6, 5, 4, 3, 2, 1, 0], [25, 24, 23, 22, 21, 20, 19, 18, 17, 16, 15, 14, 13, 12, 11, 10, 9, 8, 7, 6, 5, 4, 3, 2, 1, 0], [26, 25, 24, 23, 22, 21, 20, 19, 18, 17, 16, 15, 14, 13, 12, 11, 10, 9, 8, 7, 6, 5, 4, 3, 2, 1, 0], [27, 26, 25, 24, 23, 22, 21, 20, 19, 18, 17, 16, 15, 14, 13, 12, 11, 10, 9, 8, 7, 6, 5, 4], [28, 27, 26, 25, 24, 23, 22, 21, 20, 19, 18, 17, 16, 15, 14, 13, 12, 11, 10, 9, 8, 7, 6, 5, 0], [29, 28, 27, 26, 25, 24, 23, 22, 21, 20, 19, 18, 17, 16, 15, 14, 13, 12, 11, 10, 9, 8, 7, 6, 1, 0], [30, 29, 28, 27, 26, 25, 24, 23, 22, 21, 20, 19, 18, 17, 16, 15, 14, 13, 12, 11, 10, 9, 8, 7, 2, 1, 0], [31, 30, 29, 28, 27, 26, 25, 24, 23, 22, 21, 20, 19, 18, 17, 16, 15, 14, 13, 12, 11, 10, 9, 8, 7, 6, 5, 4, 3, 2, 1, 0], [32, 31, 30, 29, 28, 27, 26, 25, 24, 23, 22, 21, 20, 19, 18, 17, 16, 15, 14, 13, 12, 11, 10, 9, 8, 7, 6, 5, 4, 3, 2, 1, 0]] mixed (by kernel_rfl) (by kernel_rfl) (by kernel_rfl) ?_
  intro w95 g96
  replace hT := hT.grow g96
  replace hc10 := g96.heap hc10
  replace hU := hU.grow g96
  replace hc21 := g96.heap hc21
  replace ROa := ROa.grow g96
  replace ROb := ROb.grow g96
  replace hc31 := g96.heap hc31
  replace hc39 := g96.heap hc39
  replace hc50 := g96.heap hc50
  replace hc61 := g96.heap hc61
  replace hc70 := g96.heap hc70
  replace hc82 := g96.heap hc82
  replace hX := hX.grow g96
  replace hY := hY.grow g96
  replace ROc := ROc.grow g96
  replace RWc := RWc.grow g96
  replace ROd := ROd.grow g96
  replace RWd := RWd.grow g96
  replace G := G.tr g96
  clear g96
  apply AO_ex
  ·intro w_ g_; refine og rfl ?_; refine r_move_slice rfl ?_; exact ⟨Grow.rfl' _, rfl⟩
  apply AO_ex
  ·intro w_ g_; refine og rfl ?_; refine r_len rfl rfl rfl ?_; exact ⟨Grow.rfl' _, rfl⟩
  apply AO_ex
  ·intro w_ g_; refine og rfl ?_; refine r_move_slice rfl ?_; exact ⟨Grow.rfl' _, rfl⟩
  apply AO_ex
  ·intro w_ g_; refine og rfl ?_; refine r_len rfl rfl rfl ?_; exact ⟨Grow.rfl' _, rfl⟩
  apply AO_ex
  ·intro w_ g_; refine og rfl ?_; refine r_neq_f rfl rfl (by omega) ?_; exact ⟨Grow.rfl' _, rfl⟩
  apply AO_ex
  ·intro w_ g_; refine og rfl ?_; refine r_move (v := .bool false) rfl ?_; exact ⟨Grow.rfl' _, rfl⟩
  apply AO_ex
  ·intro w_ g_; refine og rfl ?_; refine r_move_int rfl ?_; exact ⟨Grow.rfl' _, rfl⟩
  apply AO_ex
  ·intro w_ g_; refine og rfl ?_; refine r_neq_f rfl rfl (by omega) ?_; exact ⟨Grow.rfl' _, rfl⟩
  apply AO_ex
  ·intro w_ g_; refine og rfl ?_; refine r_pick_f (v := .bool false) rfl rfl rfl ?_; exact ⟨Grow.rfl' _, rfl⟩
  apply AO_ex
  ·intro w_ g_; refine og rfl ?_; refine r_move (v := .bool false) rfl ?_; exact ⟨Grow.rfl' _, rfl⟩
  apply AO_ex
  ·intro w_ g_; refine og rfl ?_; refine r_move_int rfl ?_; exact ⟨Grow.rfl' _, rfl⟩
  apply AO_ex
  ·intro w_ g_; refine og rfl ?_; refine r_neq_f rfl rfl (by omega) ?_; exact ⟨Grow.rfl' _, rfl⟩
  apply AO_ex
  ·intro w_ g_; refine og rfl ?_; refine r_pick_f (v := .bool false) rfl rfl rfl ?_; exact ⟨Grow.rfl' _, rfl⟩
  apply AO_ex
  ·intro w_ g_; refine og rfl ?_; refine r_move (v := .bool false) rfl ?_; exact ⟨Grow.rfl' _, rfl⟩
  apply AO_ex
  ·intro w_ g_; refine og rfl ?_; refine r_move_slice rfl ?_; exact ⟨Grow.rfl' _, rfl⟩
  apply AO_ex
  ·intro w_ g_; refine og rfl ?_; refine r_len rfl rfl rfl ?_; exact ⟨Grow.rfl' _, rfl⟩
  apply AO_ex
  ·intro w_ g_; refine og rfl ?_; refine r_neq_f rfl rfl (by omega) ?_; exact ⟨Grow.rfl' _, rfl⟩
  apply AO_ex
  ·intro w_ g_; refine og rfl ?_; refine r_pick_f (v := .bool false) rfl rfl rfl ?_; exact ⟨Grow.rfl' _, rfl⟩
  apply AO_ex
  ·intro w_ g_; refine og rfl ?_; refine r_move (v := .bool false) rfl ?_; exact ⟨Grow.rfl' _, rfl⟩
  apply AO_ex
  ·intro w_ g_; refine og rfl ?_; refine r_move_slice rfl ?_; exact ⟨Grow.rfl' _, rfl⟩
  apply AO_ex
  ·intro w_ g_; refine og rfl ?_; refine r_len rfl rfl rfl ?_; exact ⟨Grow.rfl' _, rfl⟩
  apply AO_ex
  ·intro w_ g_; refine og rfl ?_; refine r_neq_f rfl rfl (by omega) ?_; exact ⟨Grow.rfl' _, rfl⟩
  apply AO_ex
  ·intro w_ g_; refine og rfl ?_; refine r_pick_f (v := .bool false) rfl rfl rfl ?_; exact ⟨Grow.rfl' _, rfl⟩
  apply AO_ex
  ·intro w_ g_; refine og rfl ?_; refine r_move (v := .bool false) rfl ?_; exact ⟨Grow.rfl' _, rfl⟩
  apply AO_ex
  ·intro w_ g_; refine og rfl ?_; refine r_move_slice rfl ?_; exact ⟨Grow.rfl' _, rfl⟩
  apply AO_ex
  ·intro w_ g_; refine og rfl ?_; refine r_indexR (ROc.grow g_) rfl rfl ?_ ?_ ?_; omega; omega; exact ⟨Grow.rfl' _, rfl⟩
  apply AO_ex
  ·intro w_ g_; refine og rfl ?_; refine r_loadR (v := .slice (sac 0) (len2 Ac 0) (scc 0)) (m := 0) (ROc.grow g_) rfl (by first | (rw [Nat.mul_one]; exact hsfc _ (by omega)) | exact hsfc 0 (by omega)) ?_; exact ⟨Grow.rfl' _, rfl⟩
  apply AO_ex
  ·intro w_ g_; refine og rfl ?_; refine r_len rfl rfl rfl ?_; exact ⟨Grow.rfl' _, rfl⟩
  apply AO_ex
  ·intro w_ g_; refine og rfl ?_; refine r_move_slice rfl ?_; exact ⟨Grow.rfl' _, rfl⟩
  apply AO_ex
  ·intro w_ g_; refine og rfl ?_; refine r_indexR (ROd.grow g_) rfl rfl ?_ ?_ ?_; omega; omega; exact ⟨Grow.rfl' _, rfl⟩
  apply AO_ex
  ·intro w_ g_; refine og rfl ?_; refine r_loadR (v := .slice (sad 0) (len2 Ad 0) (scd 0)) (m := 0) (ROd.grow g_) rfl (by first | (rw [Nat.mul_one]; exact hsfd _ (by omega)) | exact hsfd 0 (by omega)) ?_; exact ⟨Grow.rfl' _, rfl⟩
  apply AO_ex
  ·intro w_ g_; refine og rfl ?_; refine r_len rfl rfl rfl ?_; exact ⟨Grow.rfl' _, rfl⟩
  apply AO_ex
  ·intro w_ g_; refine og rfl ?_; refine r_neq_f rfl rfl (by omega) ?_; exact ⟨Grow.rfl' _, rfl⟩
  apply AO_ex
  ·intro w_ g_; refine og rfl ?_; refine r_pick_f (v := .bool false) rfl rfl rfl ?_; exact ⟨Grow.rfl' _, rfl⟩
  refine AO_nil ?_
  intro w97 g98
  replace hT := hT.grow g98
  replace hc10 := g98.heap hc10
  replace hU := hU.grow g98
  replace hc21 := g98.heap hc21
  replace ROa := ROa.grow g98
  replace ROb := ROb.grow g98
  replace hc31 := g98.heap hc31
  replace hc39 := g98.heap hc39
  replace hc50 := g98.heap hc50
  replace hc61 := g98.heap hc61
  replace hc70 := g98.heap hc70
  replace hc82 := g98.heap hc82
  replace hX := hX.grow g98
  replace hY := hY.grow g98
  replace ROc := ROc.grow g98
  replace RWc := RWc.grow g98
  replace ROd := ROd.grow g98
  replace RWd := RWd.grow g98
  replace G := G.tr g98
  clear g98
  refine WL_nil ?_
  refine W_false rfl ?_
  refine W_skip ?_
  refine W_seq (W_region rfl ?_)
  refine stp (r_assign_int rfl ?_)
  refine WL_nil ?_
  refine W_seq ?_
  refine W_seq (W_region rfl ?_)
  refine stp (r_assign_int rfl ?_)
  refine WL_nil ?_
  refine W_block ?_
  refine W_loop (fun m_ e_ w_ => ∃ (j : Nat) (q : Nat), m_ = sg.length - j ∧ Fr [(6, .bool false), (7, .pointer (some ⟨b4, 0, none⟩)), (9, .pointer (some ⟨b15, 0, none⟩)), (13, .int .u16 ea), (15, .int .u16 eb), (16, .pointer (some ⟨b44, 0, none⟩)), (17, .pointer (some ⟨b76, 0, none⟩)), (18, .slice adc Ac.length ccc), (20, .slice add Ad.length ccd), (23, .int .i64 (j : Int)), (22, .int .i64 (q : Int))] e_ ∧ (j ≤ sg.length) ∧ ((j ≤ 1 → q = 0) ∧ (1 < j → q = 1)) ∧ (NodeR w_ [.int .i64 y0, .int .i64 y1, .slice ya yn yc, .slice yd ye yf, .slice yg yh yi] tr) ∧ (w_.heap[b4]? = some (.cells #[.int .i64 y0, .int .i64 y1, .slice ya yn yc, .slice yd ye yf, .slice yg yh yi] 26 (0, 0))) ∧ (NodeR w_ [.int .i64 z0, .int .i64 z1, .slice za zn zc, .slice zd ze zf, .slice zg zh zi] tr) ∧ (w_.heap[b15]? = some (.cells #[.int .i64 z0, .int .i64 z1, .slice za zn zc, .slice zd ze zf, .slice zg zh zi] 26 (0, 0))) ∧ (RowAt w_ 1 ada Aa.length segsa) ∧ (RowAt w_ 1 adb Ab.length segsb) ∧ (w_.heap[bs28]? = some (.cells #[.int .u64 i] 44 (0, 0))) ∧ (w_.heap[bs36]? = some (.cells #[.int .i64 y0, .int .i64 y1, .slice ya yn yc, .slice yd ye yf, .slice yg yh yi] 26 (0, 0))) ∧ (w_.heap[b44]? = some (.cells #[.int .i64 1, .int .i64 0, .slice (some ⟨bs28, 0, none⟩) 1 1, .slice none 0 0, .slice (some ⟨bs36, 0, none⟩) 1 1] 26 (0, 0))) ∧ (w_.heap[bs58]? = some (.cells #[.int .u64 (i + 1)] 44 (0, 0))) ∧ (w_.heap[bs67]? = some (.cells #[.int .i64 y0, .int .i64 y1, .slice ya yn yc, .slice yd ye yf, .slice yg yh yi] 26 (0, 0))) ∧ (w_.heap[b76]? = some (.cells #[.int .i64 1, .int .i64 0, .slice (some ⟨bs58, 0, none⟩) 1 1, .slice none 0 0, .slice (some ⟨bs67, 0, none⟩) 1 1] 26 (0, 0))) ∧ (NodeR w_ [.int .i64 1, .int .i64 0, .slice (some ⟨bs28, 0, none⟩) 1 1, .slice none 0 0, .slice (some ⟨bs36, 0, none⟩) 1 1] (wrapN (i) tr)) ∧ (NodeR w_ [.int .i64 1, .int .i64 0, .slice (some ⟨bs58, 0, none⟩) 1 1, .slice none 0 0, .slice (some ⟨bs67, 0, none⟩) 1 1] (wrapN (i + 1) tr)) ∧ (RowAt w_ 1 adc Ac.length segsc) ∧ (RowAt w_ 1 (sac 0) (len2 Ac 0) ((sg.set 1 (i)).map (.int .u64))) ∧ (RowAt w_ 1 add Ad.length segsd) ∧ (RowAt w_ 1 (sad 0) (len2 Ad 0) ((sg.set 1 (i + 1)).map (.int .u64))) ∧ Grow w w_) _ ⟨0, 0, rfl, fr_of ⟨rfl, rfl, rfl, rfl, rfl, rfl, rfl, rfl, rfl, rfl, rfl, trivial⟩, by omega, by omega, hT, hc10, hU, hc21, ROa, ROb, hc31, hc39, hc50, hc61, hc70, hc82, hX, hY, ROc, RWc, ROd, RWd, G⟩ ?_
  clear hT hc10 hU hc21 ROa ROb hc31 hc39 hc50 hc61 hc70 hc82 hX hY ROc RWc ROd RWd
  clear G
  rintro m_ e_ w99 ⟨j, q, rfl, ⟨e100, rfl⟩, hj2, hqj, hT, hc10, hU, hc21, ROa, ROb, hc31, hc39, hc50, hc61, hc70, hc82, hX, hY, ROc, RWc, ROd, RWd, G⟩
  refine W_seq ?_
  refine W_seq (W_region rfl ?_)
  refine stp (r_move_int rfl ?_)
  refine stp (r_move_slice rfl ?_)
  refine stp (r_indexR ROc rfl rfl ?_ ?_ ?_); omega; omega
  refine stp (r_loadR (v := .slice (sac 0) (len2 Ac 0) (scc 0)) (m := 0) ROc rfl (by first | (rw [Nat.mul_one]; exact hsfc _ (by omega)) | exact hsfc 0 (by omega)) ?_)
  refine stp (r_len rfl rfl rfl ?_)
  refine stp (r_lss rfl rfl ?_)
  refine WL_nil ?_
  refine W_cond2 (b := (decide ((j : Int) < ((len2 Ac 0) : Int)))) rfl (fun hlt => ?_) (fun hlt => ?_)
  ·-- true
   replace hlt := of_decide_eq_true hlt
   have hj3 : j < sg.length := by omega
   refine W_skip ?_
   refine W_seq ?_
   refine W_block ?_
   refine W_seq ?_
   refine W_any 13 [[], [0], [1, 0], [], [3, 2, 1, 0], [4, 3, 2, 1, 0], [], [0], [1, 0], [], [3, 2, 1, 0], [4, 3, 2, 1, 0], [11, 10, 9, 8, 7, 6, 5, 4, 3, 2, 1, 0]] mixed (by kernel_rfl) (by kernel_rfl) (by kernel_rfl) ?_
   intro w101 g102
   replace hT := hT.grow g102
   replace hc10 := g102.heap hc10
   replace hU := hU.grow g102
   replace hc21 := g102.heap hc21
   replace ROa := ROa.grow g102
   replace ROb := ROb.grow g102
   replace hc31 := g102.heap hc31
   replace hc39 := g102.heap hc39
   replace hc50 := g102.heap hc50
   replace hc61 := g102.heap hc61
   replace hc70 := g102.heap hc70
   replace hc82 := g102.heap hc82
   replace hX := hX.grow g102
   replace hY := hY.grow g102
   replace ROc := ROc.grow g102
   replace RWc := RWc.grow g102
   replace ROd := ROd.grow g102
   replace RWd := RWd.grow g102
   replace G := G.tr g102
   clear g102
   apply AO_ex
   ·intro w_ g_; refine og rfl ?_; refine r_move_slice rfl ?_; exact ⟨Grow.rfl' _, rfl⟩
   apply AO_ex
   ·intro w_ g_; refine og rfl ?_; refine r_indexR (ROc.grow g_) rfl rfl ?_ ?_ ?_; omega; omega; exact ⟨Grow.rfl' _, rfl⟩
   apply AO_ex
   ·intro w_ g_; refine og rfl ?_; refine r_loadR (v := .slice (sac 0) (len2 Ac 0) (scc 0)) (m := 0) (ROc.grow g_) rfl (by first | (rw [Nat.mul_one]; exact hsfc _ (by omega)) | exact hsfc 0 (by omega)) ?_; exact ⟨Grow.rfl' _, rfl⟩
   apply AO_ex
   ·intro w_ g_; refine og rfl ?_; refine r_move_int rfl ?_; exact ⟨Grow.rfl' _, rfl⟩
   apply AO_ex
   ·intro w_ g_; refine og rfl ?_; refine r_indexN (RWc.grow g_) rfl rfl ?_ ?_; omega; exact ⟨Grow.rfl' _, rfl⟩
   apply AO_ex
   ·intro w_ g_; refine og rfl ?_; refine r_loadR (v := .int .u64 ((sg.set 1 (i)).getD j 0)) (m := 0) (RWc.grow g_) rfl (map_get1 0 (by omega)) ?_; exact ⟨Grow.rfl' _, rfl⟩
   apply AO_ex
   ·intro w_ g_; refine og rfl ?_; refine r_move_slice rfl ?_; exact ⟨Grow.rfl' _, rfl⟩
   apply AO_ex
   ·intro w_ g_; refine og rfl ?_; refine r_indexR (ROd.grow g_) rfl rfl ?_ ?_ ?_; omega; omega; exact ⟨Grow.rfl' _, rfl⟩
   apply AO_ex
   ·intro w_ g_; refine og rfl ?_; refine r_loadR (v := .slice (sad 0) (len2 Ad 0) (scd 0)) (m := 0) (ROd.grow g_) rfl (by first | (rw [Nat.mul_one]; exact hsfd _ (by omega)) | exact hsfd 0 (by omega)) ?_; exact ⟨Grow.rfl' _, rfl⟩
   apply AO_ex
   ·intro w_ g_; refine og rfl ?_; refine r_move_int rfl ?_; exact ⟨Grow.rfl' _, rfl⟩
   apply AO_ex
   ·intro w_ g_; refine og rfl ?_; refine r_indexN (RWd.grow g_) rfl rfl ?_ ?_; omega; exact ⟨Grow.rfl' _, rfl⟩
   apply AO_ex
   ·intro w_ g_; refine og rfl ?_; refine r_loadR (v := .int .u64 ((sg.set 1 (i + 1)).getD j 0)) (m := 0) (RWd.grow g_) rfl (map_get1 0 (by omega)) ?_; exact ⟨Grow.rfl' _, rfl⟩
   apply AO_ex
   ·intro w_ g_; refine og rfl ?_; refine r_neq rfl rfl ?_; exact ⟨Grow.rfl' _, rfl⟩
   refine AO_nil ?_
   intro w103 g104
   replace hT := hT.grow g104
   replace hc10 := g104.heap hc10
   replace hU := hU.grow g104
   replace hc21 := g104.heap hc21
   replace ROa := ROa.grow g104
   replace ROb := ROb.grow g104
   replace hc31 := g104.heap hc31
   replace hc39 := g104.heap hc39
   replace hc50 := g104.heap hc50
   replace hc61 := g104.heap hc61
   replace hc70 := g104.heap hc70
   replace hc82 := g104.heap hc82
   replace hX := hX.grow g104
   replace hY := hY.grow g104
   replace ROc := ROc.grow g104
   replace RWc := RWc.grow g104
   replace ROd := ROd.grow g104
   replace RWd := RWd.grow g104
   replace G := G.tr g104
   clear g104
   refine WL_nil ?_
   refine W_cond2 (b := (decide (((sg.set 1 (i)).getD j 0) ≠ ((sg.set 1 (i + 1)).getD j 0)))) rfl (fun hq => ?_) (fun hq => ?_)
   ·-- true
    replace hq := of_decide_eq_true hq
    have hj1 : j = 1 := Classical.byContradiction fun hj_ => hq (hpj j hj_)
    refine W_region rfl ?_
    refine stp (r_move_int rfl ?_)
    refine stp (r_add rfl rfl ?_ ?_); constructor <;> omega
    refine stp (r_assign_int rfl ?_)
    refine WL_nil ?_
    refine W_region rfl ?_
    refine stp (r_move_int rfl ?_)
    refine stp (r_add rfl rfl ?_ ?_); constructor <;> omega
    refine stp (r_assign_int rfl ?_)
    refine WL_nil ?_
    refine ⟨_, ?_, j + 1, q + 1, rfl, fr_of ⟨rfl, rfl, rfl, rfl, rfl, rfl, rfl, rfl, rfl, rfl, rfl, trivial⟩, by omega, by omega, hT, hc10, hU, hc21, ROa, ROb, hc31, hc39, hc50, hc61, hc70, hc82, hX, hY, ROc, RWc, ROd, RWd, G⟩
    omega
   ·-- false
    replace hq := of_decide_eq_false hq
    have hj1 : j ≠ 1 := fun hj_ => by subst hj_; exact hp1 (by omega)
    refine W_skip ?_
    refine W_region rfl ?_
    refine stp (r_move_int rfl ?_)
    refine stp (r_add rfl rfl ?_ ?_); constructor <;> omega
    refine stp (r_assign_int rfl ?_)
    refine WL_nil ?_
    refine ⟨_, ?_, j + 1, q, rfl, fr_of ⟨rfl, rfl, rfl, rfl, rfl, rfl, rfl, rfl, rfl, rfl, rfl, trivial⟩, by omega, by omega, hT, hc10, hU, hc21, ROa, ROb, hc31, hc39, hc50, hc61, hc70, hc82, hX, hY, ROc, RWc, ROd, RWd, G⟩
    omega
  ·-- false
   replace hlt := of_decide_eq_false hlt
   refine W_exit ?_
   refine W_seq (W_region rfl ?_)
   refine stp (r_gives (v := .bool true) rfl (known_calls _) ?_)
   intro w105 g106
   replace hT := hT.grow g106
   replace hc10 := g106.heap hc10
   replace hU := hU.grow g106
   replace hc21 := g106.heap hc21
   replace ROa := ROa.grow g106
   replace ROb := ROb.grow g106
   replace hc31 := g106.heap hc31
   replace hc39 := g106.heap hc39
   replace hc50 := g106.heap hc50
   replace hc61 := g106.heap hc61
   replace hc70 := g106.heap hc70
   replace hc82 := g106.heap hc82
   replace hX := hX.grow g106
   replace hY := hY.grow g106
   replace ROc := ROc.grow g106
   replace RWc := RWc.grow g106
   replace ROd := ROd.grow g106
   replace RWd := RWd.grow g106
   replace G := G.tr g106
   clear g106
   refine stp (r_move (v := .bool true) rfl ?_)
   refine stp (r_move_int rfl ?_)
   refine stp (r_move_int rfl ?_)
   refine stp (r_eql_t rfl rfl (by omega) ?_)
   refine stp (r_pick_t (v := .bool true) rfl rfl rfl ?_)
   refine stp (r_move (v := .bool true) rfl ?_)
   refine stp (r_loadAll rfl hc10 (by rfl) ?_)
   refine stp (r_loadAll rfl hc21 (by rfl) ?_)
   refine stp (r_gives (v := .bool true) rfl (gives_eq (same_calls _ _ hT hU (Nat.le_refl _)) (y := .bool true) (by rw [hsame])) ?_)
   intro w107 g108
   replace hT := hT.grow g108
   replace hc10 := g108.heap hc10
   replace hU := hU.grow g108
   replace hc21 := g108.heap hc21
   replace ROa := ROa.grow g108
   replace ROb := ROb.grow g108
   replace hc31 := g108.heap hc31
   replace hc39 := g108.heap hc39
   replace hc50 := g108.heap hc50
   replace hc61 := g108.heap hc61
   replace hc70 := g108.heap hc70
   replace hc82 := g108.heap hc82
   replace hX := hX.grow g108
   replace hY := hY.grow g108
   replace ROc := ROc.grow g108
   replace RWc := RWc.grow g108
   replace ROd := ROd.grow g108
   replace RWd := RWd.grow g108
   replace G := G.tr g108
   clear g108
   refine stp (r_pick_t (v := .bool true) rfl rfl rfl ?_)
   refine stp (r_move (v := .bool true) rfl ?_)
   refine stp (r_move_int rfl ?_)
   refine stp (r_eql_t rfl rfl (by omega) ?_)
   refine stp (r_pick_t (v := .bool true) rfl rfl rfl ?_)
   refine stp (r_move (v := .bool true) rfl ?_)
   refine stp (r_loadAll rfl hc50 (by rfl) ?_)
   refine stp (r_loadAll rfl hc82 (by rfl) ?_)
   refine stp (r_gives (v := .bool false) rfl (gives_eq (same_calls _ _ hX hY (Nat.le_refl _)) (y := .bool false) (by rw [hdiff])) ?_)
   intro w109 g110
   replace hT := hT.grow g110
   replace hc10 := g110.heap hc10
   replace hU := hU.grow g110
   replace hc21 := g110.heap hc21
   replace ROa := ROa.grow g110
   replace ROb := ROb.grow g110
   replace hc31 := g110.heap hc31
   replace hc39 := g110.heap hc39
   replace hc50 := g110.heap hc50
   replace hc61 := g110.heap hc61
   replace hc70 := g110.heap hc70
   replace hc82 := g110.heap hc82
   replace hX := hX.grow g110
   replace hY := hY.grow g110
   replace ROc := ROc.grow g110
   replace RWc := RWc.grow g110
   replace ROd := ROd.grow g110
   replace RWd := RWd.grow g110
   replace G := G.tr g110
   clear g110
   refine stp (r_not_t rfl rfl ?_)
   refine stp (r_pick_t (v := .bool true) rfl rfl rfl ?_)
   refine stp (r_assign (v := .bool true) rfl ?_)
   refine WL_nil ?_
   refine W_ret ?_
   refine ret1 (res_tmp (v := .bool true) rfl) ⟨?_, G⟩
   rfl
end Go.Proofs.Ythbcgfmoakokiaa.K
