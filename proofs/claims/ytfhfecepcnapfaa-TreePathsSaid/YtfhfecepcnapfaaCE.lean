/- scullerref08.Same, scullerlaw08.Tree (printed by e10.py). -/
import Derived.Test.YtfhfecepcnapfaaT
import Derived.Test.YtfhfecepcnapfaaM08
import Derived.Test.YtfhfecepcnapfaaB08
import Derived.Test.YtfhfecepcnapfaaJ12
import Derived.Test.YtfhfecepcnapfaaS08
import Derived.Test.YtfhfecepcnapfaaO08
import Derived.Test.YtfhfecepcnapfaaQ08
set_option linter.unusedVariables false
set_option linter.unusedSimpArgs false
namespace Go.Proofs.Ytfhfecepcnapfaa.K
open Go Go.RowKit Go.Proofs
attribute [local irreducible] Run1 OpG WL W AO Gives
set_option maxRecDepth 100000 in
theorem nsame_calls : ∀ (n_ : Nat) (w : World) {c : List Value} {t : Nd} (T : NodeR w c t) {d : List Value} {u : Nd} (U : NodeR w d u), t.sz ≤ n_ → Gives Try.prog 23 #[.agg c.toArray, .agg d.toArray] w (.bool (t.beq u)) := by
 intro n_
 induction n_ with
 | zero => intro w c t T d u U hm_; exact absurd hm_ (by have := t.sz_pos; omega)
 | succ n_ ih_ =>
 intro w c t T d u U hm_
 obtain @⟨kind, size, words, bytes, kids, ws, bs, ks, kc, hk, hs, hW, hwr, hB, hbr, hK, hKs⟩ := T
 obtain ⟨aw, cw, rfl, hcw, hcw2, RW⟩ := hW
 obtain ⟨ab, cb, rfl, hcb, hcb2, RB⟩ := hB
 obtain ⟨ak, ck, rfl, hck, hck2, RK⟩ := hK
 have lw := RW.lim
 have lb := RB.lim
 have lk := RK.lim
 simp only [inR] at hk hs
 obtain @⟨kind2, size2, words2, bytes2, kids2, ws2, bs2, ks2, kc2, hk2, hs2, hW2, hwr2, hB2, hbr2, hK2, hKs2⟩ := U
 obtain ⟨aw2, cw2, rfl, hcw2, hcw22, RW2⟩ := hW2
 obtain ⟨ab2, cb2, rfl, hcb2, hcb22, RB2⟩ := hB2
 obtain ⟨ak2, ck2, rfl, hck2, hck22, RK2⟩ := hK2
 have lw2 := RW2.lim
 have lb2 := RB2.lim
 have lk2 := RK2.lim
 simp only [inR] at hk2 hs2
 have G := Grow.rfl' w
 refine gives_of Try.func23 Try.ntmps23 Try.results23 rfl rfl ?_
 refine W_seq (W_region rfl ?_)
 refine WL_some (og rfl ?_)
 (first | refine r_box_agg rfl ?_ | refine r_box_int rfl ?_ | refine r_box_slice rfl ?_ | refine r_box rfl rfl ?_)
 intro b1 w2 hb3 hc4 g5
 have hge6 := Nat.le_trans G.size hb3
 replace G := G.tr g5
 clear g5 hb3
 refine WL_some (og rfl ?_)
 (first | refine r_box_agg rfl ?_ | refine r_box_int rfl ?_ | refine r_box_slice rfl ?_ | refine r_box rfl rfl ?_)
 intro b7 w8 hb9 hc10 g11
 have hge12 := Nat.le_trans G.size hb9
 replace hc4 := g11.heap hc4
 replace G := G.tr g11
 clear g11 hb9
 refine stp (r_assign (v := .bool false) rfl ?_)
 refine WL_nil ?_
 refine W_seq ?_
 refine W_seq (W_region rfl ?_)
 refine stp (r_fieldAddr rfl ?_)
 refine stp (r_load (v := .int .i64 kind) rfl hc4 rfl ?_)
 refine stp (r_fieldAddr rfl ?_)
 refine stp (r_load (v := .int .i64 kind2) rfl hc10 rfl ?_)
 refine stp (r_neq rfl rfl ?_)
 refine stp (r_move_bool rfl ?_)
 refine WL_some (og_if (s := .bool (decide (kind ≠ kind2))) (b := false) (v := .pointer (some ⟨b1, 1, none⟩)) rfl (wgb_f _) (fun hc13 => ?_) ?_)
 ·
  have hc13_ := hc13
  try simp only [Bool.and_eq_true, Bool.or_eq_true, Bool.not_eq_true', Bool.and_eq_false_iff, Bool.or_eq_false_iff, Bool.not_eq_false', decide_eq_true_eq, decide_eq_false_iff_not, Bool.not_true, Bool.not_false, Bool.not_eq_eq_eq_not, Bool.or_false, Bool.and_true, Bool.or_true, Bool.and_false, Bool.false_or, Bool.true_and, Bool.true_or, Bool.false_and, Bool.false_eq_true, Bool.true_eq_false] at hc13_
  refine r_fieldAddr rfl ?_
  exact ⟨rfl, rfl⟩
 refine WL_some (og_if (s := .bool (decide (kind ≠ kind2))) (b := false) (v := .int .i64 size) rfl (wgb_f _) (fun hc14 => ?_) ?_)
 ·
  have hc14_ := hc14
  try simp only [Bool.and_eq_true, Bool.or_eq_true, Bool.not_eq_true', Bool.and_eq_false_iff, Bool.or_eq_false_iff, Bool.not_eq_false', decide_eq_true_eq, decide_eq_false_iff_not, Bool.not_true, Bool.not_false, Bool.not_eq_eq_eq_not, Bool.or_false, Bool.and_true, Bool.or_true, Bool.and_false, Bool.false_or, Bool.true_and, Bool.true_or, Bool.false_and, Bool.false_eq_true, Bool.true_eq_false] at hc14_
  refine r_load (v := .int .i64 size) (gvt hc14) hc4 rfl ?_
  exact ⟨rfl, rfl⟩
 refine WL_some (og_if (s := .bool (decide (kind ≠ kind2))) (b := false) (v := .pointer (some ⟨b7, 1, none⟩)) rfl (wgb_f _) (fun hc15 => ?_) ?_)
 ·
  have hc15_ := hc15
  try simp only [Bool.and_eq_true, Bool.or_eq_true, Bool.not_eq_true', Bool.and_eq_false_iff, Bool.or_eq_false_iff, Bool.not_eq_false', decide_eq_true_eq, decide_eq_false_iff_not, Bool.not_true, Bool.not_false, Bool.not_eq_eq_eq_not, Bool.or_false, Bool.and_true, Bool.or_true, Bool.and_false, Bool.false_or, Bool.true_and, Bool.true_or, Bool.false_and, Bool.false_eq_true, Bool.true_eq_false] at hc15_
  refine r_fieldAddr rfl ?_
  exact ⟨rfl, rfl⟩
 refine WL_some (og_if (s := .bool (decide (kind ≠ kind2))) (b := false) (v := .int .i64 size2) rfl (wgb_f _) (fun hc16 => ?_) ?_)
 ·
  have hc16_ := hc16
  try simp only [Bool.and_eq_true, Bool.or_eq_true, Bool.not_eq_true', Bool.and_eq_false_iff, Bool.or_eq_false_iff, Bool.not_eq_false', decide_eq_true_eq, decide_eq_false_iff_not, Bool.not_true, Bool.not_false, Bool.not_eq_eq_eq_not, Bool.or_false, Bool.and_true, Bool.or_true, Bool.and_false, Bool.false_or, Bool.true_and, Bool.true_or, Bool.false_and, Bool.false_eq_true, Bool.true_eq_false] at hc16_
  refine r_load (v := .int .i64 size2) (gvt hc16) hc10 rfl ?_
  exact ⟨rfl, rfl⟩
 refine WL_some (og_if (s := .bool (decide (kind ≠ kind2))) (b := false) (v := .bool (decide (size ≠ size2))) rfl (wgb_f _) (fun hc17 => ?_) ?_)
 ·
  have hc17_ := hc17
  try simp only [Bool.and_eq_true, Bool.or_eq_true, Bool.not_eq_true', Bool.and_eq_false_iff, Bool.or_eq_false_iff, Bool.not_eq_false', decide_eq_true_eq, decide_eq_false_iff_not, Bool.not_true, Bool.not_false, Bool.not_eq_eq_eq_not, Bool.or_false, Bool.and_true, Bool.or_true, Bool.and_false, Bool.false_or, Bool.true_and, Bool.true_or, Bool.false_and, Bool.false_eq_true, Bool.true_eq_false] at hc17_
  refine r_neq (gvt hc17) (gvt hc17) ?_
  exact ⟨rfl, rfl⟩
 refine stp (r_or2 rfl rfl rfl ?_)
 refine stp (r_move_bool rfl ?_)
 refine WL_some (og_if (s := .bool ((decide (kind ≠ kind2)) || (decide (size ≠ size2)))) (b := false) (v := .pointer (some ⟨b1, 3, none⟩)) rfl (wgb_f _) (fun hc18 => ?_) ?_)
 ·
  have hc18_ := hc18
  try simp only [Bool.and_eq_true, Bool.or_eq_true, Bool.not_eq_true', Bool.and_eq_false_iff, Bool.or_eq_false_iff, Bool.not_eq_false', decide_eq_true_eq, decide_eq_false_iff_not, Bool.not_true, Bool.not_false, Bool.not_eq_eq_eq_not, Bool.or_false, Bool.and_true, Bool.or_true, Bool.and_false, Bool.false_or, Bool.true_and, Bool.true_or, Bool.false_and, Bool.false_eq_true, Bool.true_eq_false] at hc18_
  refine r_fieldAddr rfl ?_
  exact ⟨rfl, rfl⟩
 refine WL_some (og_if (s := .bool ((decide (kind ≠ kind2)) || (decide (size ≠ size2)))) (b := false) (v := .slice ab bytes.length cb) rfl (wgb_f _) (fun hc19 => ?_) ?_)
 ·
  have hc19_ := hc19
  try simp only [Bool.and_eq_true, Bool.or_eq_true, Bool.not_eq_true', Bool.and_eq_false_iff, Bool.or_eq_false_iff, Bool.not_eq_false', decide_eq_true_eq, decide_eq_false_iff_not, Bool.not_true, Bool.not_false, Bool.not_eq_eq_eq_not, Bool.or_false, Bool.and_true, Bool.or_true, Bool.and_false, Bool.false_or, Bool.true_and, Bool.true_or, Bool.false_and, Bool.false_eq_true, Bool.true_eq_false] at hc19_
  refine r_load (v := .slice ab bytes.length cb) (gvt hc19) hc4 rfl ?_
  exact ⟨rfl, rfl⟩
 refine WL_some (og_if (s := .bool ((decide (kind ≠ kind2)) || (decide (size ≠ size2)))) (b := false) (v := .string (strOfNums bytes)) rfl (wgb_f _) (fun hc20 => ?_) ?_)
 ·
  have hc20_ := hc20
  try simp only [Bool.and_eq_true, Bool.or_eq_true, Bool.not_eq_true', Bool.and_eq_false_iff, Bool.or_eq_false_iff, Bool.not_eq_false', decide_eq_true_eq, decide_eq_false_iff_not, Bool.not_true, Bool.not_false, Bool.not_eq_eq_eq_not, Bool.or_false, Bool.and_true, Bool.or_true, Bool.and_false, Bool.false_or, Bool.true_and, Bool.true_or, Bool.false_and, Bool.false_eq_true, Bool.true_eq_false] at hc20_
  refine r_bytesStr (xs := bytes) (RB.grow G) (gvt hc20) ?_
  exact ⟨rfl, rfl⟩
 refine WL_some (og_if (s := .bool ((decide (kind ≠ kind2)) || (decide (size ≠ size2)))) (b := false) (v := .pointer (some ⟨b7, 3, none⟩)) rfl (wgb_f _) (fun hc21 => ?_) ?_)
 ·
  have hc21_ := hc21
  try simp only [Bool.and_eq_true, Bool.or_eq_true, Bool.not_eq_true', Bool.and_eq_false_iff, Bool.or_eq_false_iff, Bool.not_eq_false', decide_eq_true_eq, decide_eq_false_iff_not, Bool.not_true, Bool.not_false, Bool.not_eq_eq_eq_not, Bool.or_false, Bool.and_true, Bool.or_true, Bool.and_false, Bool.false_or, Bool.true_and, Bool.true_or, Bool.false_and, Bool.false_eq_true, Bool.true_eq_false] at hc21_
  refine r_fieldAddr rfl ?_
  exact ⟨rfl, rfl⟩
 refine WL_some (og_if (s := .bool ((decide (kind ≠ kind2)) || (decide (size ≠ size2)))) (b := false) (v := .slice ab2 bytes2.length cb2) rfl (wgb_f _) (fun hc22 => ?_) ?_)
 ·
  have hc22_ := hc22
  try simp only [Bool.and_eq_true, Bool.or_eq_true, Bool.not_eq_true', Bool.and_eq_false_iff, Bool.or_eq_false_iff, Bool.not_eq_false', decide_eq_true_eq, decide_eq_false_iff_not, Bool.not_true, Bool.not_false, Bool.not_eq_eq_eq_not, Bool.or_false, Bool.and_true, Bool.or_true, Bool.and_false, Bool.false_or, Bool.true_and, Bool.true_or, Bool.false_and, Bool.false_eq_true, Bool.true_eq_false] at hc22_
  refine r_load (v := .slice ab2 bytes2.length cb2) (gvt hc22) hc10 rfl ?_
  exact ⟨rfl, rfl⟩
 refine WL_some (og_if (s := .bool ((decide (kind ≠ kind2)) || (decide (size ≠ size2)))) (b := false) (v := .string (strOfNums bytes2)) rfl (wgb_f _) (fun hc23 => ?_) ?_)
 ·
  have hc23_ := hc23
  try simp only [Bool.and_eq_true, Bool.or_eq_true, Bool.not_eq_true', Bool.and_eq_false_iff, Bool.or_eq_false_iff, Bool.not_eq_false', decide_eq_true_eq, decide_eq_false_iff_not, Bool.not_true, Bool.not_false, Bool.not_eq_eq_eq_not, Bool.or_false, Bool.and_true, Bool.or_true, Bool.and_false, Bool.false_or, Bool.true_and, Bool.true_or, Bool.false_and, Bool.false_eq_true, Bool.true_eq_false] at hc23_
  refine r_bytesStr (xs := bytes2) (RB2.grow G) (gvt hc23) ?_
  exact ⟨rfl, rfl⟩
 refine WL_some (og_if (s := .bool ((decide (kind ≠ kind2)) || (decide (size ≠ size2)))) (b := false) (v := .bool (!(decide (bytes = bytes2)))) rfl (wgb_f _) (fun hc24 => ?_) ?_)
 ·
  have hc24_ := hc24
  try simp only [Bool.and_eq_true, Bool.or_eq_true, Bool.not_eq_true', Bool.and_eq_false_iff, Bool.or_eq_false_iff, Bool.not_eq_false', decide_eq_true_eq, decide_eq_false_iff_not, Bool.not_true, Bool.not_false, Bool.not_eq_eq_eq_not, Bool.or_false, Bool.and_true, Bool.or_true, Bool.and_false, Bool.false_or, Bool.true_and, Bool.true_or, Bool.false_and, Bool.false_eq_true, Bool.true_eq_false] at hc24_
  refine r_neqStr (gvt hc24) (gvt hc24) ?_
  rw [strOf_eq hbr hbr2]
  exact ⟨rfl, rfl⟩
 refine stp (r_or2 rfl rfl rfl ?_)
 refine stp (r_move_bool rfl ?_)
 refine WL_some (og_if (s := .bool (((decide (kind ≠ kind2)) || (decide (size ≠ size2))) || (!(decide (bytes = bytes2))))) (b := false) (v := .pointer (some ⟨b1, 2, none⟩)) rfl (wgb_f _) (fun hc25 => ?_) ?_)
 ·
  have hc25_ := hc25
  try simp only [Bool.and_eq_true, Bool.or_eq_true, Bool.not_eq_true', Bool.and_eq_false_iff, Bool.or_eq_false_iff, Bool.not_eq_false', decide_eq_true_eq, decide_eq_false_iff_not, Bool.not_true, Bool.not_false, Bool.not_eq_eq_eq_not, Bool.or_false, Bool.and_true, Bool.or_true, Bool.and_false, Bool.false_or, Bool.true_and, Bool.true_or, Bool.false_and, Bool.false_eq_true, Bool.true_eq_false] at hc25_
  refine r_fieldAddr rfl ?_
  exact ⟨rfl, rfl⟩
 refine WL_some (og_if (s := .bool (((decide (kind ≠ kind2)) || (decide (size ≠ size2))) || (!(decide (bytes = bytes2))))) (b := false) (v := .slice aw words.length cw) rfl (wgb_f _) (fun hc26 => ?_) ?_)
 ·
  have hc26_ := hc26
  try simp only [Bool.and_eq_true, Bool.or_eq_true, Bool.not_eq_true', Bool.and_eq_false_iff, Bool.or_eq_false_iff, Bool.not_eq_false', decide_eq_true_eq, decide_eq_false_iff_not, Bool.not_true, Bool.not_false, Bool.not_eq_eq_eq_not, Bool.or_false, Bool.and_true, Bool.or_true, Bool.and_false, Bool.false_or, Bool.true_and, Bool.true_or, Bool.false_and, Bool.false_eq_true, Bool.true_eq_false] at hc26_
  refine r_load (v := .slice aw words.length cw) (gvt hc26) hc4 rfl ?_
  exact ⟨rfl, rfl⟩
 refine WL_some (og_if (s := .bool (((decide (kind ≠ kind2)) || (decide (size ≠ size2))) || (!(decide (bytes = bytes2))))) (b := false) (v := .int .i64 (words.length : Int)) rfl (wgb_f _) (fun hc27 => ?_) ?_)
 ·
  have hc27_ := hc27
  try simp only [Bool.and_eq_true, Bool.or_eq_true, Bool.not_eq_true', Bool.and_eq_false_iff, Bool.or_eq_false_iff, Bool.not_eq_false', decide_eq_true_eq, decide_eq_false_iff_not, Bool.not_true, Bool.not_false, Bool.not_eq_eq_eq_not, Bool.or_false, Bool.and_true, Bool.or_true, Bool.and_false, Bool.false_or, Bool.true_and, Bool.true_or, Bool.false_and, Bool.false_eq_true, Bool.true_eq_false] at hc27_
  refine r_len rfl rfl (gvt hc27) ?_
  exact ⟨rfl, rfl⟩
 refine WL_some (og_if (s := .bool (((decide (kind ≠ kind2)) || (decide (size ≠ size2))) || (!(decide (bytes = bytes2))))) (b := false) (v := .pointer (some ⟨b7, 2, none⟩)) rfl (wgb_f _) (fun hc28 => ?_) ?_)
 ·
  have hc28_ := hc28
  try simp only [Bool.and_eq_true, Bool.or_eq_true, Bool.not_eq_true', Bool.and_eq_false_iff, Bool.or_eq_false_iff, Bool.not_eq_false', decide_eq_true_eq, decide_eq_false_iff_not, Bool.not_true, Bool.not_false, Bool.not_eq_eq_eq_not, Bool.or_false, Bool.and_true, Bool.or_true, Bool.and_false, Bool.false_or, Bool.true_and, Bool.true_or, Bool.false_and, Bool.false_eq_true, Bool.true_eq_false] at hc28_
  refine r_fieldAddr rfl ?_
  exact ⟨rfl, rfl⟩
 refine WL_some (og_if (s := .bool (((decide (kind ≠ kind2)) || (decide (size ≠ size2))) || (!(decide (bytes = bytes2))))) (b := false) (v := .slice aw2 words2.length cw2) rfl (wgb_f _) (fun hc29 => ?_) ?_)
 ·
  have hc29_ := hc29
  try simp only [Bool.and_eq_true, Bool.or_eq_true, Bool.not_eq_true', Bool.and_eq_false_iff, Bool.or_eq_false_iff, Bool.not_eq_false', decide_eq_true_eq, decide_eq_false_iff_not, Bool.not_true, Bool.not_false, Bool.not_eq_eq_eq_not, Bool.or_false, Bool.and_true, Bool.or_true, Bool.and_false, Bool.false_or, Bool.true_and, Bool.true_or, Bool.false_and, Bool.false_eq_true, Bool.true_eq_false] at hc29_
  refine r_load (v := .slice aw2 words2.length cw2) (gvt hc29) hc10 rfl ?_
  exact ⟨rfl, rfl⟩
 refine WL_some (og_if (s := .bool (((decide (kind ≠ kind2)) || (decide (size ≠ size2))) || (!(decide (bytes = bytes2))))) (b := false) (v := .int .i64 (words2.length : Int)) rfl (wgb_f _) (fun hc30 => ?_) ?_)
 ·
  have hc30_ := hc30
  try simp only [Bool.and_eq_true, Bool.or_eq_true, Bool.not_eq_true', Bool.and_eq_false_iff, Bool.or_eq_false_iff, Bool.not_eq_false', decide_eq_true_eq, decide_eq_false_iff_not, Bool.not_true, Bool.not_false, Bool.not_eq_eq_eq_not, Bool.or_false, Bool.and_true, Bool.or_true, Bool.and_false, Bool.false_or, Bool.true_and, Bool.true_or, Bool.false_and, Bool.false_eq_true, Bool.true_eq_false] at hc30_
  refine r_len rfl rfl (gvt hc30) ?_
  exact ⟨rfl, rfl⟩
 refine WL_some (og_if (s := .bool (((decide (kind ≠ kind2)) || (decide (size ≠ size2))) || (!(decide (bytes = bytes2))))) (b := false) (v := .bool (decide ((words.length : Int) ≠ (words2.length : Int)))) rfl (wgb_f _) (fun hc31 => ?_) ?_)
 ·
  have hc31_ := hc31
  try simp only [Bool.and_eq_true, Bool.or_eq_true, Bool.not_eq_true', Bool.and_eq_false_iff, Bool.or_eq_false_iff, Bool.not_eq_false', decide_eq_true_eq, decide_eq_false_iff_not, Bool.not_true, Bool.not_false, Bool.not_eq_eq_eq_not, Bool.or_false, Bool.and_true, Bool.or_true, Bool.and_false, Bool.false_or, Bool.true_and, Bool.true_or, Bool.false_and, Bool.false_eq_true, Bool.true_eq_false] at hc31_
  refine r_neq (gvt hc31) (gvt hc31) ?_
  exact ⟨rfl, rfl⟩
 refine stp (r_or2 rfl rfl rfl ?_)
 refine stp (r_move_bool rfl ?_)
 refine WL_some (og_if (s := .bool ((((decide (kind ≠ kind2)) || (decide (size ≠ size2))) || (!(decide (bytes = bytes2)))) || (decide ((words.length : Int) ≠ (words2.length : Int))))) (b := false) (v := .pointer (some ⟨b1, 4, none⟩)) rfl (wgb_f _) (fun hc32 => ?_) ?_)
 ·
  have hc32_ := hc32
  try simp only [Bool.and_eq_true, Bool.or_eq_true, Bool.not_eq_true', Bool.and_eq_false_iff, Bool.or_eq_false_iff, Bool.not_eq_false', decide_eq_true_eq, decide_eq_false_iff_not, Bool.not_true, Bool.not_false, Bool.not_eq_eq_eq_not, Bool.or_false, Bool.and_true, Bool.or_true, Bool.and_false, Bool.false_or, Bool.true_and, Bool.true_or, Bool.false_and, Bool.false_eq_true, Bool.true_eq_false] at hc32_
  refine r_fieldAddr rfl ?_
  exact ⟨rfl, rfl⟩
 refine WL_some (og_if (s := .bool ((((decide (kind ≠ kind2)) || (decide (size ≠ size2))) || (!(decide (bytes = bytes2)))) || (decide ((words.length : Int) ≠ (words2.length : Int))))) (b := false) (v := .slice ak kids.length ck) rfl (wgb_f _) (fun hc33 => ?_) ?_)
 ·
  have hc33_ := hc33
  try simp only [Bool.and_eq_true, Bool.or_eq_true, Bool.not_eq_true', Bool.and_eq_false_iff, Bool.or_eq_false_iff, Bool.not_eq_false', decide_eq_true_eq, decide_eq_false_iff_not, Bool.not_true, Bool.not_false, Bool.not_eq_eq_eq_not, Bool.or_false, Bool.and_true, Bool.or_true, Bool.and_false, Bool.false_or, Bool.true_and, Bool.true_or, Bool.false_and, Bool.false_eq_true, Bool.true_eq_false] at hc33_
  refine r_load (v := .slice ak kids.length ck) (gvt hc33) hc4 rfl ?_
  exact ⟨rfl, rfl⟩
 refine WL_some (og_if (s := .bool ((((decide (kind ≠ kind2)) || (decide (size ≠ size2))) || (!(decide (bytes = bytes2)))) || (decide ((words.length : Int) ≠ (words2.length : Int))))) (b := false) (v := .int .i64 (kids.length : Int)) rfl (wgb_f _) (fun hc34 => ?_) ?_)
 ·
  have hc34_ := hc34
  try simp only [Bool.and_eq_true, Bool.or_eq_true, Bool.not_eq_true', Bool.and_eq_false_iff, Bool.or_eq_false_iff, Bool.not_eq_false', decide_eq_true_eq, decide_eq_false_iff_not, Bool.not_true, Bool.not_false, Bool.not_eq_eq_eq_not, Bool.or_false, Bool.and_true, Bool.or_true, Bool.and_false, Bool.false_or, Bool.true_and, Bool.true_or, Bool.false_and, Bool.false_eq_true, Bool.true_eq_false] at hc34_
  refine r_len rfl rfl (gvt hc34) ?_
  exact ⟨rfl, rfl⟩
 refine WL_some (og_if (s := .bool ((((decide (kind ≠ kind2)) || (decide (size ≠ size2))) || (!(decide (bytes = bytes2)))) || (decide ((words.length : Int) ≠ (words2.length : Int))))) (b := false) (v := .pointer (some ⟨b7, 4, none⟩)) rfl (wgb_f _) (fun hc35 => ?_) ?_)
 ·
  have hc35_ := hc35
  try simp only [Bool.and_eq_true, Bool.or_eq_true, Bool.not_eq_true', Bool.and_eq_false_iff, Bool.or_eq_false_iff, Bool.not_eq_false', decide_eq_true_eq, decide_eq_false_iff_not, Bool.not_true, Bool.not_false, Bool.not_eq_eq_eq_not, Bool.or_false, Bool.and_true, Bool.or_true, Bool.and_false, Bool.false_or, Bool.true_and, Bool.true_or, Bool.false_and, Bool.false_eq_true, Bool.true_eq_false] at hc35_
  refine r_fieldAddr rfl ?_
  exact ⟨rfl, rfl⟩
 refine WL_some (og_if (s := .bool ((((decide (kind ≠ kind2)) || (decide (size ≠ size2))) || (!(decide (bytes = bytes2)))) || (decide ((words.length : Int) ≠ (words2.length : Int))))) (b := false) (v := .slice ak2 kids2.length ck2) rfl (wgb_f _) (fun hc36 => ?_) ?_)
 ·
  have hc36_ := hc36
  try simp only [Bool.and_eq_true, Bool.or_eq_true, Bool.not_eq_true', Bool.and_eq_false_iff, Bool.or_eq_false_iff, Bool.not_eq_false', decide_eq_true_eq, decide_eq_false_iff_not, Bool.not_true, Bool.not_false, Bool.not_eq_eq_eq_not, Bool.or_false, Bool.and_true, Bool.or_true, Bool.and_false, Bool.false_or, Bool.true_and, Bool.true_or, Bool.false_and, Bool.false_eq_true, Bool.true_eq_false] at hc36_
  refine r_load (v := .slice ak2 kids2.length ck2) (gvt hc36) hc10 rfl ?_
  exact ⟨rfl, rfl⟩
 refine WL_some (og_if (s := .bool ((((decide (kind ≠ kind2)) || (decide (size ≠ size2))) || (!(decide (bytes = bytes2)))) || (decide ((words.length : Int) ≠ (words2.length : Int))))) (b := false) (v := .int .i64 (kids2.length : Int)) rfl (wgb_f _) (fun hc37 => ?_) ?_)
 ·
  have hc37_ := hc37
  try simp only [Bool.and_eq_true, Bool.or_eq_true, Bool.not_eq_true', Bool.and_eq_false_iff, Bool.or_eq_false_iff, Bool.not_eq_false', decide_eq_true_eq, decide_eq_false_iff_not, Bool.not_true, Bool.not_false, Bool.not_eq_eq_eq_not, Bool.or_false, Bool.and_true, Bool.or_true, Bool.and_false, Bool.false_or, Bool.true_and, Bool.true_or, Bool.false_and, Bool.false_eq_true, Bool.true_eq_false] at hc37_
  refine r_len rfl rfl (gvt hc37) ?_
  exact ⟨rfl, rfl⟩
 refine WL_some (og_if (s := .bool ((((decide (kind ≠ kind2)) || (decide (size ≠ size2))) || (!(decide (bytes = bytes2)))) || (decide ((words.length : Int) ≠ (words2.length : Int))))) (b := false) (v := .bool (decide ((kids.length : Int) ≠ (kids2.length : Int)))) rfl (wgb_f _) (fun hc38 => ?_) ?_)
 ·
  have hc38_ := hc38
  try simp only [Bool.and_eq_true, Bool.or_eq_true, Bool.not_eq_true', Bool.and_eq_false_iff, Bool.or_eq_false_iff, Bool.not_eq_false', decide_eq_true_eq, decide_eq_false_iff_not, Bool.not_true, Bool.not_false, Bool.not_eq_eq_eq_not, Bool.or_false, Bool.and_true, Bool.or_true, Bool.and_false, Bool.false_or, Bool.true_and, Bool.true_or, Bool.false_and, Bool.false_eq_true, Bool.true_eq_false] at hc38_
  refine r_neq (gvt hc38) (gvt hc38) ?_
  exact ⟨rfl, rfl⟩
 refine stp (r_or2 rfl rfl rfl ?_)
 refine WL_nil ?_
 refine W_cond2 (b := (((((decide (kind ≠ kind2)) || (decide (size ≠ size2))) || (!(decide (bytes = bytes2)))) || (decide ((words.length : Int) ≠ (words2.length : Int)))) || (decide ((kids.length : Int) ≠ (kids2.length : Int))))) rfl (fun h1 => ?_) (fun h1 => ?_)
 ·-- true
  simp only [Bool.and_eq_true, Bool.or_eq_true, Bool.not_eq_true', Bool.and_eq_false_iff, Bool.or_eq_false_iff, Bool.not_eq_false', decide_eq_true_eq, decide_eq_false_iff_not, Bool.not_true, Bool.not_false, Bool.not_eq_eq_eq_not, Bool.or_false, Bool.and_true, Bool.or_true, Bool.and_false, Bool.false_or, Bool.true_and, Bool.true_or, Bool.false_and, Bool.false_eq_true, Bool.true_eq_false] at h1
  refine W_seq (W_region rfl ?_)
  refine stp (r_assign (v := .bool false) rfl ?_)
  refine WL_nil ?_
  refine W_ret ?_
  have h9 : (Nd.mk kind size words bytes kids).beq (.mk kind2 size2 words2 bytes2 kids2) = false := by cases hb_ : ((Nd.mk kind size words bytes kids).beq (.mk kind2 size2 words2 bytes2 kids2)) with | false => rfl | true => (exfalso; have h_ := (Nd.beq_iff _ _).1 hb_; simp only [Nd.mk.injEq] at h_; obtain ⟨rfl, rfl, rfl, rfl, rfl⟩ := h_; simp at h1)
  refine ret1 (res_tmp (v := .bool false) rfl) ⟨?_, G⟩
  rw [h9]
 ·-- false
  simp only [Bool.and_eq_true, Bool.or_eq_true, Bool.not_eq_true', Bool.and_eq_false_iff, Bool.or_eq_false_iff, Bool.not_eq_false', decide_eq_true_eq, decide_eq_false_iff_not, Bool.not_true, Bool.not_false, Bool.not_eq_eq_eq_not, Bool.or_false, Bool.and_true, Bool.or_true, Bool.and_false, Bool.false_or, Bool.true_and, Bool.true_or, Bool.false_and, Bool.false_eq_true, Bool.true_eq_false] at h1
  obtain ⟨e1, e2, e3, e4, e5⟩ : kind = kind2 ∧ size = size2 ∧ bytes = bytes2 ∧ words.length = words2.length ∧ kids.length = kids2.length := by simp at h1; refine ⟨by omega, by omega, by simp_all, by omega, by omega⟩
  refine W_skip ?_
  refine W_seq ?_
  refine W_seq (W_region rfl ?_)
  refine stp (r_assign_int rfl ?_)
  refine WL_nil ?_
  refine W_block ?_
  refine W_loop (fun m_ e_ w_ => ∃ (k : Nat), m_ = words.length - k ∧ Fr [(2, .pointer (some ⟨b1, 0, none⟩)), (3, .pointer (some ⟨b7, 0, none⟩)), (5, .int .i64 (k : Int))] e_ ∧ (k ≤ words.length) ∧ (∀ j, j < k → words.getD j 0 = words2.getD j 0) ∧ (w_.heap[b1]? = some (.cells #[.int .i64 kind, .int .i64 size, .slice aw words.length cw, .slice ab bytes.length cb, .slice ak kids.length ck] 37 (0, 0))) ∧ (w_.heap[b7]? = some (.cells #[.int .i64 kind2, .int .i64 size2, .slice aw2 words2.length cw2, .slice ab2 bytes2.length cb2, .slice ak2 kids2.length ck2] 37 (0, 0))) ∧ Grow w w_) _ ⟨0, rfl, fr_of ⟨rfl, rfl, rfl, trivial⟩, by omega, fun j hj => by omega, hc4, hc10, G⟩ ?_
  clear hc4 hc10
  clear G
  rintro m_ e_ w39 ⟨k, rfl, ⟨e40, rfl⟩, hk2, hk_, hc4, hc10, G⟩
  refine W_seq ?_
  refine W_seq (W_region rfl ?_)
  refine stp (r_move_int rfl ?_)
  refine stp (r_fieldAddr rfl ?_)
  refine stp (r_load (v := .slice aw words.length cw) rfl hc4 rfl ?_)
  refine stp (r_len rfl rfl rfl ?_)
  refine stp (r_lss rfl rfl ?_)
  refine WL_nil ?_
  refine W_cond2 (b := (decide ((k : Int) < (words.length : Int)))) rfl (fun hlt => ?_) (fun hlt => ?_)
  ·-- true
   replace hlt := of_decide_eq_true hlt
   have hk3 : k < words2.length := by omega
   refine W_skip ?_
   refine W_seq ?_
   refine W_block ?_
   refine W_seq ?_
   refine W_any 11 [[], [0], [], [2, 1, 0], [3, 2, 1, 0], [], [0], [], [2, 1, 0], [3, 2, 1, 0], [9, 8, 7, 6, 5, 4, 3, 2, 1, 0]] mixed (by kernel_rfl) (by kernel_rfl) (by kernel_rfl) ?_
   intro w41 g42
   replace hc4 := g42.heap hc4
   replace hc10 := g42.heap hc10
   replace G := G.tr g42
   clear g42
   apply AO_ex
   ·intro w_ g_; refine og rfl ?_; refine r_fieldAddr rfl ?_; exact ⟨Grow.rfl' _, rfl⟩
   apply AO_ex
   ·intro w_ g_; refine og rfl ?_; refine r_load (v := .slice aw words.length cw) rfl (g_.heap hc4) rfl ?_; exact ⟨Grow.rfl' _, rfl⟩
   apply AO_ex
   ·intro w_ g_; refine og rfl ?_; refine r_move_int rfl ?_; exact ⟨Grow.rfl' _, rfl⟩
   apply AO_ex
   ·intro w_ g_; refine og rfl ?_; refine r_indexN (RW.grow (G.tr g_)) rfl rfl ?_ ?_; omega; exact ⟨Grow.rfl' _, rfl⟩
   apply AO_ex
   ·intro w_ g_; refine og rfl ?_; refine r_loadR (v := .int .u64 (words.getD k 0)) (m := 0) (RW.grow (G.tr g_)) rfl (map_get1 0 (by omega)) ?_; exact ⟨Grow.rfl' _, rfl⟩
   apply AO_ex
   ·intro w_ g_; refine og rfl ?_; refine r_fieldAddr rfl ?_; exact ⟨Grow.rfl' _, rfl⟩
   apply AO_ex
   ·intro w_ g_; refine og rfl ?_; refine r_load (v := .slice aw2 words2.length cw2) rfl (g_.heap hc10) rfl ?_; exact ⟨Grow.rfl' _, rfl⟩
   apply AO_ex
   ·intro w_ g_; refine og rfl ?_; refine r_move_int rfl ?_; exact ⟨Grow.rfl' _, rfl⟩
   apply AO_ex
   ·intro w_ g_; refine og rfl ?_; refine r_indexN (RW2.grow (G.tr g_)) rfl rfl ?_ ?_; omega; exact ⟨Grow.rfl' _, rfl⟩
   apply AO_ex
   ·intro w_ g_; refine og rfl ?_; refine r_loadR (v := .int .u64 (words2.getD k 0)) (m := 0) (RW2.grow (G.tr g_)) rfl (map_get1 0 (by omega)) ?_; exact ⟨Grow.rfl' _, rfl⟩
   apply AO_ex
   ·intro w_ g_; refine og rfl ?_; refine r_neq rfl rfl ?_; exact ⟨Grow.rfl' _, rfl⟩
   refine AO_nil ?_
   intro w43 g44
   replace hc4 := g44.heap hc4
   replace hc10 := g44.heap hc10
   replace G := G.tr g44
   clear g44
   refine WL_nil ?_
   refine W_cond2 (b := (decide ((words.getD k 0) ≠ (words2.getD k 0)))) rfl (fun h3 => ?_) (fun h3 => ?_)
   ·-- true
    replace h3 := of_decide_eq_true h3
    refine W_seq (W_region rfl ?_)
    refine stp (r_assign (v := .bool false) rfl ?_)
    refine WL_nil ?_
    refine W_ret ?_
    have h9 : (Nd.mk kind size words bytes kids).beq (.mk kind2 size2 words2 bytes2 kids2) = false := by cases hb_ : ((Nd.mk kind size words bytes kids).beq (.mk kind2 size2 words2 bytes2 kids2)) with | false => rfl | true => (exfalso; have h_ := (Nd.beq_iff _ _).1 hb_; simp only [Nd.mk.injEq] at h_; obtain ⟨-, -, h_, -, -⟩ := h_; rw [h_] at h3; exact h3 rfl)
    refine ret1 (res_tmp (v := .bool false) rfl) ⟨?_, G⟩
    rw [h9]
   ·-- false
    replace h3 := of_decide_eq_false h3
    refine W_skip ?_
    refine W_region rfl ?_
    refine stp (r_move_int rfl ?_)
    refine stp (r_add rfl rfl ?_ ?_); constructor <;> omega
    refine stp (r_assign_int rfl ?_)
    refine WL_nil ?_
    refine ⟨_, ?_, k + 1, rfl, fr_of ⟨rfl, rfl, rfl, trivial⟩, by omega, fun j hj => by rcases Nat.lt_succ_iff_lt_or_eq.1 hj with h_ | h_; exact hk_ j h_; subst h_; omega, hc4, hc10, G⟩
    omega
  ·-- false
   replace hlt := of_decide_eq_false hlt
   have hk3 : k = words.length := by omega
   have e6 : words = words2 := lists_eq e4 (fun j hj => hk_ j (by omega))
   refine W_exit ?_
   refine W_seq ?_
   refine W_seq (W_region rfl ?_)
   refine stp (r_assign_int rfl ?_)
   refine WL_nil ?_
   refine W_block ?_
   refine W_loop (fun m_ e_ w_ => ∃ (j : Nat), m_ = kids.length - j ∧ Fr [(2, .pointer (some ⟨b1, 0, none⟩)), (3, .pointer (some ⟨b7, 0, none⟩)), (6, .int .i64 (j : Int))] e_ ∧ (j ≤ kids.length) ∧ (∀ i, i < j → (h : i < kids.length) → kids[i] = kids2[i]) ∧ (w_.heap[b1]? = some (.cells #[.int .i64 kind, .int .i64 size, .slice aw words.length cw, .slice ab bytes.length cb, .slice ak kids.length ck] 37 (0, 0))) ∧ (w_.heap[b7]? = some (.cells #[.int .i64 kind2, .int .i64 size2, .slice aw2 words2.length cw2, .slice ab2 bytes2.length cb2, .slice ak2 kids2.length ck2] 37 (0, 0))) ∧ Grow w w_) _ ⟨0, rfl, fr_of ⟨rfl, rfl, rfl, trivial⟩, by omega, fun i hi => by omega, hc4, hc10, G⟩ ?_
   clear hc4 hc10
   clear G
   rintro m_ e_ w45 ⟨j, rfl, ⟨e46, rfl⟩, hj2, hj_, hc4, hc10, G⟩
   refine W_seq ?_
   refine W_seq (W_region rfl ?_)
   refine stp (r_move_int rfl ?_)
   refine stp (r_fieldAddr rfl ?_)
   refine stp (r_load (v := .slice ak kids.length ck) rfl hc4 rfl ?_)
   refine stp (r_len rfl rfl rfl ?_)
   refine stp (r_lss rfl rfl ?_)
   refine WL_nil ?_
   refine W_cond2 (b := (decide ((j : Int) < (kids.length : Int)))) rfl (fun hlt2 => ?_) (fun hlt2 => ?_)
   ·-- true
    replace hlt2 := of_decide_eq_true hlt2
    have hj3 : j < kids.length := by omega
    have hj4 : j < kids2.length := by omega
    have hat := KidsR.at_ j kids[j] hKs (by simp [hj3])
    have hat2 := KidsR.at_ j kids2[j] hKs2 (by simp [hj4])
    have hsz := Nd.szs_at kids j kids[j] (by simp [hj3])
    simp only [Nd.sz] at hm_
    refine W_skip ?_
    refine W_seq ?_
    refine W_block ?_
    refine W_seq ?_
    refine W_any 12 [[], [0], [], [2, 1, 0], [3, 2, 1, 0], [], [0], [], [2, 1, 0], [3, 2, 1, 0], [9, 8, 7, 6, 5, 4, 3, 2, 1, 0], [10, 9, 8, 7, 6, 5, 4, 3, 2, 1, 0]] mixed (by kernel_rfl) (by kernel_rfl) (by kernel_rfl) ?_
    intro w47 g48
    replace hc4 := g48.heap hc4
    replace hc10 := g48.heap hc10
    replace G := G.tr g48
    clear g48
    apply AO_ex
    ·intro w_ g_; refine og rfl ?_; refine r_fieldAddr rfl ?_; exact ⟨Grow.rfl' _, rfl⟩
    apply AO_ex
    ·intro w_ g_; refine og rfl ?_; refine r_load (v := .slice ak kids.length ck) rfl (g_.heap hc4) rfl ?_; exact ⟨Grow.rfl' _, rfl⟩
    apply AO_ex
    ·intro w_ g_; refine og rfl ?_; refine r_move_int rfl ?_; exact ⟨Grow.rfl' _, rfl⟩
    apply AO_ex
    ·intro w_ g_; refine og rfl ?_; refine r_indexN (RK.grow (G.tr g_)) rfl rfl ?_ ?_; omega; exact ⟨Grow.rfl' _, rfl⟩
    apply AO_ex
    ·intro w_ g_; refine og rfl ?_; refine r_loadNR (RK.grow (G.tr g_)) rfl (by decide) (by rw [RK.len]; omega) rfl ?_; exact ⟨Grow.rfl' _, rfl⟩
    apply AO_ex
    ·intro w_ g_; refine og rfl ?_; refine r_fieldAddr rfl ?_; exact ⟨Grow.rfl' _, rfl⟩
    apply AO_ex
    ·intro w_ g_; refine og rfl ?_; refine r_load (v := .slice ak2 kids2.length ck2) rfl (g_.heap hc10) rfl ?_; exact ⟨Grow.rfl' _, rfl⟩
    apply AO_ex
    ·intro w_ g_; refine og rfl ?_; refine r_move_int rfl ?_; exact ⟨Grow.rfl' _, rfl⟩
    apply AO_ex
    ·intro w_ g_; refine og rfl ?_; refine r_indexN (RK2.grow (G.tr g_)) rfl rfl ?_ ?_; omega; exact ⟨Grow.rfl' _, rfl⟩
    apply AO_ex
    ·intro w_ g_; refine og rfl ?_; refine r_loadNR (RK2.grow (G.tr g_)) rfl (by decide) (by rw [RK2.len]; omega) rfl ?_; exact ⟨Grow.rfl' _, rfl⟩
    apply AO_ex
    ·intro w_ g_; refine og rfl ?_; exact r_gives (v := .bool (kids[j].beq kids2[j])) rfl (ih_ _ (hat.grow (G.tr g_)) (hat2.grow (G.tr g_)) (by omega)) (fun w2_ g2_ => ⟨g2_, rfl⟩)
    apply AO_ex
    ·intro w_ g_; refine og rfl ?_; refine r_not rfl ?_; exact ⟨Grow.rfl' _, rfl⟩
    refine AO_nil ?_
    intro w49 g50
    replace hc4 := g50.heap hc4
    replace hc10 := g50.heap hc10
    replace G := G.tr g50
    clear g50
    refine WL_nil ?_
    refine W_cond2 (b := (!(kids[j].beq kids2[j]))) rfl (fun h5 => ?_) (fun h5 => ?_)
    ·-- true
     simp only [Bool.and_eq_true, Bool.or_eq_true, Bool.not_eq_true', Bool.and_eq_false_iff, Bool.or_eq_false_iff, Bool.not_eq_false', decide_eq_true_eq, decide_eq_false_iff_not, Bool.not_true, Bool.not_false, Bool.not_eq_eq_eq_not, Bool.or_false, Bool.and_true, Bool.or_true, Bool.and_false, Bool.false_or, Bool.true_and, Bool.true_or, Bool.false_and, Bool.false_eq_true, Bool.true_eq_false] at h5
     refine W_seq (W_region rfl ?_)
     refine stp (r_assign (v := .bool false) rfl ?_)
     refine WL_nil ?_
     refine W_ret ?_
     have h9 : (Nd.mk kind size words bytes kids).beq (.mk kind2 size2 words2 bytes2 kids2) = false := by cases hb_ : ((Nd.mk kind size words bytes kids).beq (.mk kind2 size2 words2 bytes2 kids2)) with | false => rfl | true => (exfalso; have h_ := (Nd.beq_iff _ _).1 hb_; simp only [Nd.mk.injEq] at h_; obtain ⟨-, -, -, -, rfl⟩ := h_; rw [(Nd.beq_iff _ _).2 rfl] at h5; simp at h5)
     refine ret1 (res_tmp (v := .bool false) rfl) ⟨?_, G⟩
     rw [h9]
    ·-- false
     simp only [Bool.and_eq_true, Bool.or_eq_true, Bool.not_eq_true', Bool.and_eq_false_iff, Bool.or_eq_false_iff, Bool.not_eq_false', decide_eq_true_eq, decide_eq_false_iff_not, Bool.not_true, Bool.not_false, Bool.not_eq_eq_eq_not, Bool.or_false, Bool.and_true, Bool.or_true, Bool.and_false, Bool.false_or, Bool.true_and, Bool.true_or, Bool.false_and, Bool.false_eq_true, Bool.true_eq_false] at h5
     refine W_skip ?_
     refine W_region rfl ?_
     refine stp (r_move_int rfl ?_)
     refine stp (r_add rfl rfl ?_ ?_); constructor <;> omega
     refine stp (r_assign_int rfl ?_)
     refine WL_nil ?_
     refine ⟨_, ?_, j + 1, rfl, fr_of ⟨rfl, rfl, rfl, trivial⟩, by omega, fun i hi hi2 => by rcases Nat.lt_succ_iff_lt_or_eq.1 hi with h_ | h_; exact hj_ i h_ hi2; subst h_; exact (Nd.beq_iff _ _).1 (by simpa using h5), hc4, hc10, G⟩
     omega
   ·-- false
    replace hlt2 := of_decide_eq_false hlt2
    have hj3 : j = kids.length := by omega
    have e7 : kids = kids2 := List.ext_getElem e5 (fun i h1_ h2_ => hj_ i (by omega) h1_)
    refine W_exit ?_
    refine W_seq (W_region rfl ?_)
    refine stp (r_assign (v := .bool true) rfl ?_)
    refine WL_nil ?_
    refine W_ret ?_
    have h9 : (Nd.mk kind size words bytes kids).beq (.mk kind2 size2 words2 bytes2 kids2) = true := by rw [Nd.beq_iff, e1, e2, e3, e6, e7]
    refine ret1 (res_tmp (v := .bool true) rfl) ⟨?_, G⟩
    rw [h9]

set_option maxRecDepth 100000 in
theorem tree_calls : ∀ (n_ : Nat) (w : World) {w0 : World} {d n cp : Nat} {ad : Option Addr} {xs : List Int} (R : RowAt w0 1 ad n (xs.map (.int .u8))) (g0 : Grow w0 w) (hn : n = xs.length) (hx : ∀ x ∈ xs, inR .u8 x) (hcp : n ≤ cp) (hcp2 : cp ≤ maxLen) (hd : d ≤ 100), d + 1 ≤ n_ → Calls Try.prog 15 #[.slice ad n cp, .int .i64 (d : Int)] w (Ret fun v w' => ∃ cells ad' n' c', v = .tuple #[.agg cells.toArray, .slice ad' n' c'] ∧ NodeR (hide w.heap.size w') cells (treeP d xs).1 ∧ n' = (treeP d xs).2.length ∧ n' ≤ c' ∧ c' ≤ maxLen ∧ RowAt w0 1 ad' n' ((treeP d xs).2.map (.int .u8)) ∧ Grow w w') := by
 intro n_
 induction n_ with
 | zero => intro w w0 d n cp ad xs R g0 hn hx hcp hcp2 hd hm_; exact absurd hm_ (by have := Nat.succ_pos d; omega)
 | succ n_ ih_ =>
 intro w w0 d n cp ad xs R g0 hn hx hcp hcp2 hd hm_
 have G := Grow.rfl' w
 refine calls_ret Try.func15 Try.ntmps15 Try.results15 rfl rfl ?_
 refine W_seq (W_region rfl ?_)
 refine stp (r_alloc ?_)
 intro b1 w2 hb3 hc4 g5
 refine stp (r_assign_slice rfl ?_)
 refine WL_nil ?_
 refine W_seq ?_
 refine W_seq (W_region rfl ?_)
 refine stp (r_move_slice rfl ?_)
 refine stp (r_len rfl rfl rfl ?_)
 refine stp (r_eql rfl rfl ?_)
 refine stp (r_move_bool rfl ?_)
 refine WL_some (og_if (s := .bool (decide ((n : Int) = 0))) (b := false) (v := .int .i64 (d : Int)) rfl (wgb_f _) (fun hc6 => ?_) ?_)
 ·
  have hc6_ := hc6
  try simp only [Bool.and_eq_true, Bool.or_eq_true, Bool.not_eq_true', Bool.and_eq_false_iff, Bool.or_eq_false_iff, Bool.not_eq_false', decide_eq_true_eq, decide_eq_false_iff_not, Bool.not_true, Bool.not_false, Bool.not_eq_eq_eq_not, Bool.or_false, Bool.and_true, Bool.or_true, Bool.and_false, Bool.false_or, Bool.true_and, Bool.true_or, Bool.false_and, Bool.false_eq_true, Bool.true_eq_false] at hc6_
  refine r_move_int rfl ?_
  exact ⟨rfl, rfl⟩
 refine WL_some (og_if (s := .bool (decide ((n : Int) = 0))) (b := false) (v := .bool (decide ((d : Int) = 0))) rfl (wgb_f _) (fun hc7 => ?_) ?_)
 ·
  have hc7_ := hc7
  try simp only [Bool.and_eq_true, Bool.or_eq_true, Bool.not_eq_true', Bool.and_eq_false_iff, Bool.or_eq_false_iff, Bool.not_eq_false', decide_eq_true_eq, decide_eq_false_iff_not, Bool.not_true, Bool.not_false, Bool.not_eq_eq_eq_not, Bool.or_false, Bool.and_true, Bool.or_true, Bool.and_false, Bool.false_or, Bool.true_and, Bool.true_or, Bool.false_and, Bool.false_eq_true, Bool.true_eq_false] at hc7_
  refine r_eql (gvt hc7) rfl ?_
  exact ⟨rfl, rfl⟩
 refine stp (r_or2 rfl rfl rfl ?_)
 refine WL_nil ?_
 have hge8 := Nat.le_trans G.size hb3
 replace G := G.tr g5
 clear g5 hb3
 refine W_cond2 (b := ((decide ((n : Int) = 0)) || (decide ((d : Int) = 0)))) rfl (fun h1 => ?_) (fun h1 => ?_)
 ·-- true
  simp only [Bool.and_eq_true, Bool.or_eq_true, Bool.not_eq_true', Bool.and_eq_false_iff, Bool.or_eq_false_iff, Bool.not_eq_false', decide_eq_true_eq, decide_eq_false_iff_not, Bool.not_true, Bool.not_false, Bool.not_eq_eq_eq_not, Bool.or_false, Bool.and_true, Bool.or_true, Bool.and_false, Bool.false_or, Bool.true_and, Bool.true_or, Bool.false_and, Bool.false_eq_true, Bool.true_eq_false] at h1
  have hst : treeP d xs = (.nil, xs) := treeP_stop (by rcases h1 with h | h; exact .inl (List.eq_nil_of_length_eq_zero (by omega)); exact .inr (by omega))
  refine W_seq (W_region rfl ?_)
  refine stp (r_build (v := .agg #[.int .i64 0, .int .i64 0, .slice none 0 0, .slice none 0 0, .slice none 0 0]) (fun w => by kernel_rfl) ?_)
  refine stp (r_move_slice rfl ?_)
  refine stn (r_storeAll rfl rfl hc4 (by rfl) (by rfl) (by rfl) ?_)
  intro w9 hc10 u11
  replace G := G.upd u11 hge8
  clear u11 hc4
  refine stp (r_assign_slice rfl ?_)
  refine WL_nil ?_
  refine W_ret ?_
  rw [hst]
  refine ret2 (res_all rfl hc10 (by rfl)) (res_tmp (v := .slice ad n cp) rfl) ⟨[_, _, _, _, _], _, _, _, rfl, NodeR.zero _, hn, hcp, hcp2, R, G⟩
 ·-- false
  simp only [Bool.and_eq_true, Bool.or_eq_true, Bool.not_eq_true', Bool.and_eq_false_iff, Bool.or_eq_false_iff, Bool.not_eq_false', decide_eq_true_eq, decide_eq_false_iff_not, Bool.not_true, Bool.not_false, Bool.not_eq_eq_eq_not, Bool.or_false, Bool.and_true, Bool.or_true, Bool.and_false, Bool.false_or, Bool.true_and, Bool.true_or, Bool.false_and, Bool.false_eq_true, Bool.true_eq_false] at h1
  obtain ⟨h1a, h1b⟩ := h1
  obtain ⟨d, rfl⟩ : ∃ e, d = e + 1 := ⟨d - 1, by omega⟩
  obtain ⟨k, c, rfl⟩ : ∃ k c, xs = k :: c := by cases xs with | nil => simp at hn; omega | cons k c => exact ⟨_, _, rfl⟩
  have hk := hx k (by simp)
  simp only [inR] at hk
  simp only [List.length_cons] at hn
  have hxc : ∀ x ∈ c, inR .u8 x := fun x h_ => hx x (by simp [h_])
  have hlim := R.lim
  have hnc : n - 1 = c.length := by omega
  refine W_skip ?_
  refine W_seq (W_region rfl ?_)
  refine stp (r_move_slice rfl ?_)
  refine stp (r_indexR ((R.grow g0).grow G) rfl rfl ?_ ?_ ?_); omega; omega
  refine stp (r_loadR (v := .int .u8 k) (m := 0) ((R.grow g0).grow G) rfl rfl ?_)
  refine stp (r_assign_int rfl ?_)
  refine WL_nil ?_
  refine W_seq (W_region rfl ?_)
  refine stp (r_move_slice rfl ?_)
  refine stp (r_sliceL rfl rfl (by omega) (by omega) ?_)
  have R1 := R.sliceLH (l := 1) (m := n - 1) hcp (by omega) (by omega)
  rw [show ((1 : Int).toNat) = 1 from rfl]
  generalize (if cp = 1 then ad else ad.map (·.add (1 * 1))) = ad1 at R1 ⊢
  have R2 : RowAt w0 1 ad1 (n - 1) (c.map (.int .u8)) := by
   have e_ : (List.take ((n - 1) * 1) (List.drop (1 * 1) (List.map (Value.int .u8) (k :: c)))) = c.map (.int .u8) := by simp only [Nat.mul_one, List.map_cons, List.drop_succ_cons, List.drop_zero]; rw [List.take_of_length_le (by rw [List.length_map]; omega)]
   rw [e_] at R1; exact R1
  clear R1
  refine stp (r_assign_slice rfl ?_)
  refine WL_nil ?_
  refine W_seq (W_region rfl ?_)
  refine stp (r_build (v := .agg #[.int .i64 0, .int .i64 0, .slice none 0 0, .slice none 0 0, .slice none 0 0]) (fun w => by kernel_rfl) ?_)
  refine stp (r_alloc ?_)
  intro b12 w13 hb14 hc15 g16
  refine stn (r_storeAll rfl rfl hc15 (by rfl) (by rfl) (by rfl) ?_)
  intro w17 hc18 u19
  have g20 := g16.upd u19 hb14
  have hge21 := Nat.le_trans G.size hb14
  have ne22 := Nat.ne_of_lt (Nat.lt_of_lt_of_le (lt_of_heap hc4) hb14)
  replace hc4 := g20.heap hc4
  replace G := G.tr g20
  clear u19 g16 hb14 hc15
  refine WL_nil ?_
  refine W_seq (W_region rfl ?_)
  refine stp (r_move_int rfl ?_)
  refine stp (r_quo rfl rfl ?_ ?_ ?_ ?_); omega; omega; (constructor <;> omega)
  refine stp (r_rem rfl rfl ?_ ?_ ?_); omega; omega
  refine stp (r_conv rfl ?_ ?_); constructor <;> omega
  refine stp (r_assign_int rfl ?_)
  refine WL_nil ?_
  refine W_seq ?_
  refine W_seq (W_region rfl ?_)
  refine stp (r_move_int rfl ?_)
  refine stp (r_rem rfl rfl ?_ ?_ ?_); omega; omega
  refine WL_nil ?_
  refine W_block ?_
  refine W_seq (W_region rfl ?_)
  refine stp (r_eql rfl rfl ?_)
  refine stp (r_assign_bool rfl ?_)
  refine WL_nil ?_
  refine W_cond2 (b := (decide ((k % 8) = 0))) rfl (fun h2 => ?_) (fun h2 => ?_)
  ·-- true
   replace h2 := of_decide_eq_true h2
   have ht : treeP (d + 1) (k :: c) = (.nil, c) := by simp only [treeP]; rw [if_pos h2]
   refine W_seq (W_region rfl ?_)
   refine stp (r_loadAll rfl hc18 (by rfl) ?_)
   refine stp (r_move_slice rfl ?_)
   refine stn (r_storeAll rfl rfl hc4 (by rfl) (by rfl) (by rfl) ?_)
   intro w23 hc24 u25
   replace hc18 := u25.heap hc18 ne22.symm
   replace G := G.upd u25 hge8
   clear u25 hc4
   refine stp (r_assign_slice rfl ?_)
   refine WL_nil ?_
   refine W_ret ?_
   rw [ht]
   refine ret2 (res_all rfl hc24 (by rfl)) (res_tmp (v := .slice ad1 (n - 1) (cp - 1)) rfl) ⟨[_, _, _, _, _], _, _, _, rfl, NodeR.zero _, hnc, by omega, by omega, R2, G⟩
  ·-- false
   replace h2 := of_decide_eq_false h2
   refine W_seq ?_
   refine W_seq (W_region rfl ?_)
   refine stp (r_eql rfl rfl ?_)
   refine stp (r_assign_bool rfl ?_)
   refine WL_nil ?_
   refine W_cond2 (b := (decide ((k % 8) = 1))) rfl (fun h3 => ?_) (fun h3 => ?_)
   ·-- true
    replace h3 := of_decide_eq_true h3
    refine W_skip ?_
    refine W_true (show _ = Value.bool true from congrArg Value.bool (decide_eq_true h3)) ?_
    refine W_seq (W_region rfl ?_)
    refine stp (r_fieldAddr rfl ?_)
    refine stn (r_store1 (v := .int .i64 2) rfl rfl (by rfl) hc18 (by rfl) (by rfl) ?_)
    intro w26 hc27 u28
    replace hc4 := u28.heap hc4 ne22
    replace G := G.upd u28 hge21
    clear u28 hc18
    refine WL_nil ?_
    refine W_seq (W_region rfl ?_)
    refine stp (r_fieldAddr rfl ?_)
    refine stn (r_store1 (v := .int .i64 2) rfl rfl (by rfl) hc27 (by rfl) (by rfl) ?_)
    intro w29 hc30 u31
    replace hc4 := u31.heap hc4 ne22
    replace G := G.upd u31 hge21
    clear u31 hc27
    refine WL_nil ?_
    refine W_seq (W_region rfl ?_)
    refine stp (r_assign_int rfl ?_)
    refine WL_nil ?_
    refine W_block ?_
    refine W_loop (fun m_ e_ w_ => ∃ (m : Nat) (ad3 : Option Addr) (n3 : Nat) (c3 : Nat), m_ = ((3 * (k / 8 % 5) + k % 2)).toNat - m ∧ Fr [(0, .slice ad1 (n - 1) (cp - 1)), (4, .pointer (some ⟨b1, 0, none⟩)), (5, .slice none 0 0), (6, .int .u8 k), (7, .pointer (some ⟨b12, 0, none⟩)), (8, .int .i64 ((k / 8) % 5)), (9, .int .i64 (m : Int))] e_ ∧ ((m : Int) ≤ (3 * (k / 8 % 5) + k % 2)) ∧ (w_.heap[b1]? = some (.cells #[.int .i64 0, .int .i64 0, .slice none 0 0, .slice none 0 0, .slice none 0 0] 37 (0, 0))) ∧ (w_.heap[b12]? = some (.cells #[.int .i64 2, .int .i64 2, .slice none 0 0, .slice ad3 n3 c3, .slice none 0 0] 37 (0, 0))) ∧ (w_.ownsRow w.heap.size 5 1 (.slice ad3 n3 c3) m ((List.range m).map fun i => .int .u8 (bTree k i))) ∧ Grow w w_) _ ⟨0, none, 0, 0, rfl, fr_of ⟨rfl, rfl, rfl, rfl, rfl, rfl, rfl, trivial⟩, by omega, hc4, hc30, World.ownsRow_nil _ _ _ _, G⟩ ?_
    clear hc4 hc30
    clear G
    rintro m_ e_ w32 ⟨m, ad3, n3, c3, rfl, ⟨e33, rfl⟩, hm, hc4, hc30, own, G⟩
    refine W_seq ?_
    refine W_seq (W_region rfl ?_)
    refine stp (r_move_int rfl ?_)
    refine stp (r_move_int rfl ?_)
    refine stp (r_mul rfl rfl ?_ ?_); constructor <;> omega
    refine stp (r_move_int rfl ?_)
    refine stp (r_rem rfl rfl ?_ ?_ ?_); omega; omega
    refine stp (r_conv rfl ?_ ?_); constructor <;> omega
    refine stp (r_add rfl rfl ?_ ?_); constructor <;> omega
    refine stp (r_lss rfl rfl ?_)
    refine WL_nil ?_
    refine W_cond2 (b := (decide ((m : Int) < ((3 * ((k / 8) % 5)) + (k % 2))))) rfl (fun hlt => ?_) (fun hlt => ?_)
    ·-- true
     replace hlt := of_decide_eq_true hlt
     refine W_skip ?_
     refine W_seq ?_
     refine W_block ?_
     refine W_region rfl ?_
     refine stp (r_fieldAddr rfl ?_)
     refine stp (r_load (v := .slice ad3 n3 c3) rfl hc30 rfl ?_)
     refine stp (r_move_int rfl ?_)
     refine stp (r_move_int rfl ?_)
     refine stp (r_conv rfl ?_ ?_); constructor <;> omega
     refine stp (r_addw rfl rfl ?_)
     refine stp (r_buildSlice (cs := #[.int .u8 (bTree k m)]) (el := 5) (fun w => by kernel_rfl) ?_)
     intro bs34 w35 hb36 hc37 g38
     have hge39 := Nat.le_trans G.size hb36
     have ne40 := Nat.ne_of_lt (Nat.lt_of_lt_of_le (lt_of_heap hc4) hb36)
     have ne41 := Nat.ne_of_lt (Nat.lt_of_lt_of_le (lt_of_heap hc30) hb36)
     replace hc4 := g38.heap hc4
     replace hc30 := g38.heap hc30
     replace own := own_grow own g38
     replace G := G.tr g38
     clear g38
     refine stp (r_append rfl rfl rfl rfl own (Row.of_block (n := 1) hc37 rfl rfl (by omega)) (fun q_ hq_ => by simp at hq_; subst hq_; rfl) (by simp only [maxLen]; omega) (by omega) G.size ?_)
     intro v42 w43 own6 gr6
     replace G := G.grown gr6 (own_ge own)
     replace hc4 := gr_heap gr6 hc4 (own_ne own hc4 (by decide))
     replace hc30 := gr_heap gr6 hc30 (own_ne own hc30 (by decide))
     clear own gr6
     obtain ⟨ad4, n4, c4, rfl⟩ := own_slice own6
     refine stp (r_fieldAddr rfl ?_)
     refine stn (r_store1 (v := .slice ad4 n4 c4) rfl rfl (by rfl) hc30 (by rfl) (by rfl) ?_)
     intro w44 hc45 u46
     replace hc4 := u46.heap hc4 ne22
     replace own6 := own_upd own6 u46 (own_ne own6 hc30 (by decide))
     replace G := G.upd u46 hge21
     clear u46 hc30
     refine WL_nil ?_
     refine W_region rfl ?_
     refine stp (r_move_int rfl ?_)
     refine stp (r_add rfl rfl ?_ ?_); constructor <;> omega
     refine stp (r_assign_int rfl ?_)
     refine WL_nil ?_
     refine ⟨_, ?_, m + 1, ad4, n4, c4, rfl, fr_of ⟨rfl, rfl, rfl, rfl, rfl, rfl, congrArg (Value.int .i64) (by omega), trivial⟩, by omega, hc4, hc45, (by rw [List.range_succ, List.map_append]; exact own6), G⟩
     omega
    ·-- false
     replace hlt := of_decide_eq_false hlt
     have hm2 : m = (3 * (k / 8 % 5) + k % 2).toNat := by omega
     have ht : treeP (d + 1) (k :: c) = (.mk 2 2 [] ((List.range (3 * (k / 8 % 5) + k % 2).toNat).map (bTree k)) [], c) := by simp only [treeP]; rw [if_neg h2, if_pos (by omega)]
     refine W_exit ?_
     refine W_seq (W_region rfl ?_)
     refine stp (r_loadAll rfl hc30 (by rfl) ?_)
     refine stp (r_move_slice rfl ?_)
     refine stn (r_storeAll rfl rfl hc4 (by rfl) (by rfl) (by rfl) ?_)
     intro w47 hc48 u49
     replace hc30 := u49.heap hc30 ne22.symm
     replace own := own_upd own u49 (own_ne own hc4 (by decide))
     replace G := G.upd u49 hge8
     clear u49 hc4
     refine stp (r_assign_slice rfl ?_)
     refine WL_nil ?_
     refine W_ret ?_
     rw [ht]
     refine ret2 (res_all rfl hc48 (by rfl)) (res_tmp (v := .slice ad1 (n - 1) (cp - 1)) rfl) ⟨[_, _, _, _, _], _, _, _, rfl, .mk (by simp [inR]) (by simp [inR]) (Row.nil _ _) (by simp) (own_hide_ints own hm2 (by omega)) (fun x hx_ => by obtain ⟨i, _, rfl⟩ := List.mem_map.1 hx_; exact wrap_u8R _) (Row.nil _ _) .nil, hnc, (by omega), (by omega), R2, G⟩
   ·-- false
    replace h3 := of_decide_eq_false h3
    refine W_region rfl ?_
    refine stp (r_eql rfl rfl ?_)
    refine stp (r_assign_bool rfl ?_)
    refine WL_nil ?_
    refine W_cond2 (b := (decide ((k % 8) = 2))) rfl (fun h4 => ?_) (fun h4 => ?_)
    ·-- true
     replace h4 := of_decide_eq_true h4
     refine W_seq (W_region rfl ?_)
     refine stp (r_fieldAddr rfl ?_)
     refine stn (r_store1 (v := .int .i64 2) rfl rfl (by rfl) hc18 (by rfl) (by rfl) ?_)
     intro w50 hc51 u52
     replace hc4 := u52.heap hc4 ne22
     replace G := G.upd u52 hge21
     clear u52 hc18
     refine WL_nil ?_
     refine W_seq (W_region rfl ?_)
     refine stp (r_fieldAddr rfl ?_)
     refine stn (r_store1 (v := .int .i64 2) rfl rfl (by rfl) hc51 (by rfl) (by rfl) ?_)
     intro w53 hc54 u55
     replace hc4 := u55.heap hc4 ne22
     replace G := G.upd u55 hge21
     clear u55 hc51
     refine WL_nil ?_
     refine W_seq (W_region rfl ?_)
     refine stp (r_assign_int rfl ?_)
     refine WL_nil ?_
     refine W_block ?_
     refine W_loop (fun m_ e_ w_ => ∃ (m : Nat) (ad3 : Option Addr) (n3 : Nat) (c3 : Nat), m_ = ((3 * (k / 8 % 5) + k % 2)).toNat - m ∧ Fr [(0, .slice ad1 (n - 1) (cp - 1)), (4, .pointer (some ⟨b1, 0, none⟩)), (5, .slice none 0 0), (6, .int .u8 k), (7, .pointer (some ⟨b12, 0, none⟩)), (8, .int .i64 ((k / 8) % 5)), (9, .int .i64 (m : Int))] e_ ∧ ((m : Int) ≤ (3 * (k / 8 % 5) + k % 2)) ∧ (w_.heap[b1]? = some (.cells #[.int .i64 0, .int .i64 0, .slice none 0 0, .slice none 0 0, .slice none 0 0] 37 (0, 0))) ∧ (w_.heap[b12]? = some (.cells #[.int .i64 2, .int .i64 2, .slice none 0 0, .slice ad3 n3 c3, .slice none 0 0] 37 (0, 0))) ∧ (w_.ownsRow w.heap.size 5 1 (.slice ad3 n3 c3) m ((List.range m).map fun i => .int .u8 (bTree k i))) ∧ Grow w w_) _ ⟨0, none, 0, 0, rfl, fr_of ⟨rfl, rfl, rfl, rfl, rfl, rfl, rfl, trivial⟩, by omega, hc4, hc54, World.ownsRow_nil _ _ _ _, G⟩ ?_
     clear hc4 hc54
     clear G
     rintro m_ e_ w56 ⟨m, ad3, n3, c3, rfl, ⟨e57, rfl⟩, hm, hc4, hc54, own, G⟩
     refine W_seq ?_
     refine W_seq (W_region rfl ?_)
     refine stp (r_move_int rfl ?_)
     refine stp (r_move_int rfl ?_)
     refine stp (r_mul rfl rfl ?_ ?_); constructor <;> omega
     refine stp (r_move_int rfl ?_)
     refine stp (r_rem rfl rfl ?_ ?_ ?_); omega; omega
     refine stp (r_conv rfl ?_ ?_); constructor <;> omega
     refine stp (r_add rfl rfl ?_ ?_); constructor <;> omega
     refine stp (r_lss rfl rfl ?_)
     refine WL_nil ?_
     refine W_cond2 (b := (decide ((m : Int) < ((3 * ((k / 8) % 5)) + (k % 2))))) rfl (fun hlt => ?_) (fun hlt => ?_)
     ·-- true
      replace hlt := of_decide_eq_true hlt
      refine W_skip ?_
      refine W_seq ?_
      refine W_block ?_
      refine W_region rfl ?_
      refine stp (r_fieldAddr rfl ?_)
      refine stp (r_load (v := .slice ad3 n3 c3) rfl hc54 rfl ?_)
      refine stp (r_move_int rfl ?_)
      refine stp (r_move_int rfl ?_)
      refine stp (r_conv rfl ?_ ?_); constructor <;> omega
      refine stp (r_addw rfl rfl ?_)
      refine stp (r_buildSlice (cs := #[.int .u8 (bTree k m)]) (el := 5) (fun w => by kernel_rfl) ?_)
      intro bs58 w59 hb60 hc61 g62
      have hge63 := Nat.le_trans G.size hb60
      have ne64 := Nat.ne_of_lt (Nat.lt_of_lt_of_le (lt_of_heap hc4) hb60)
      have ne65 := Nat.ne_of_lt (Nat.lt_of_lt_of_le (lt_of_heap hc54) hb60)
      replace hc4 := g62.heap hc4
      replace hc54 := g62.heap hc54
      replace own := own_grow own g62
      replace G := G.tr g62
      clear g62
      refine stp (r_append rfl rfl rfl rfl own (Row.of_block (n := 1) hc61 rfl rfl (by omega)) (fun q_ hq_ => by simp at hq_; subst hq_; rfl) (by simp only [maxLen]; omega) (by omega) G.size ?_)
      intro v66 w67 own6 gr6
      replace G := G.grown gr6 (own_ge own)
      replace hc4 := gr_heap gr6 hc4 (own_ne own hc4 (by decide))
      replace hc54 := gr_heap gr6 hc54 (own_ne own hc54 (by decide))
      clear own gr6
      obtain ⟨ad4, n4, c4, rfl⟩ := own_slice own6
      refine stp (r_fieldAddr rfl ?_)
      refine stn (r_store1 (v := .slice ad4 n4 c4) rfl rfl (by rfl) hc54 (by rfl) (by rfl) ?_)
      intro w68 hc69 u70
      replace hc4 := u70.heap hc4 ne22
      replace own6 := own_upd own6 u70 (own_ne own6 hc54 (by decide))
      replace G := G.upd u70 hge21
      clear u70 hc54
      refine WL_nil ?_
      refine W_region rfl ?_
      refine stp (r_move_int rfl ?_)
      refine stp (r_add rfl rfl ?_ ?_); constructor <;> omega
      refine stp (r_assign_int rfl ?_)
      refine WL_nil ?_
      refine ⟨_, ?_, m + 1, ad4, n4, c4, rfl, fr_of ⟨rfl, rfl, rfl, rfl, rfl, rfl, congrArg (Value.int .i64) (by omega), trivial⟩, by omega, hc4, hc69, (by rw [List.range_succ, List.map_append]; exact own6), G⟩
      omega
     ·-- false
      replace hlt := of_decide_eq_false hlt
      have hm2 : m = (3 * (k / 8 % 5) + k % 2).toNat := by omega
      have ht : treeP (d + 1) (k :: c) = (.mk 2 2 [] ((List.range (3 * (k / 8 % 5) + k % 2).toNat).map (bTree k)) [], c) := by simp only [treeP]; rw [if_neg h2, if_pos (by omega)]
      refine W_exit ?_
      refine W_seq (W_region rfl ?_)
      refine stp (r_loadAll rfl hc54 (by rfl) ?_)
      refine stp (r_move_slice rfl ?_)
      refine stn (r_storeAll rfl rfl hc4 (by rfl) (by rfl) (by rfl) ?_)
      intro w71 hc72 u73
      replace hc54 := u73.heap hc54 ne22.symm
      replace own := own_upd own u73 (own_ne own hc4 (by decide))
      replace G := G.upd u73 hge8
      clear u73 hc4
      refine stp (r_assign_slice rfl ?_)
      refine WL_nil ?_
      refine W_ret ?_
      rw [ht]
      refine ret2 (res_all rfl hc72 (by rfl)) (res_tmp (v := .slice ad1 (n - 1) (cp - 1)) rfl) ⟨[_, _, _, _, _], _, _, _, rfl, .mk (by simp [inR]) (by simp [inR]) (Row.nil _ _) (by simp) (own_hide_ints own hm2 (by omega)) (fun x hx_ => by obtain ⟨i, _, rfl⟩ := List.mem_map.1 hx_; exact wrap_u8R _) (Row.nil _ _) .nil, hnc, (by omega), (by omega), R2, G⟩
    ·-- false
     replace h4 := of_decide_eq_false h4
     refine W_seq (W_region rfl ?_)
     refine stp (r_eql rfl rfl ?_)
     refine stp (r_assign_bool rfl ?_)
     refine WL_nil ?_
     refine W_cond2 (b := (decide ((k % 8) = 3))) rfl (fun h5 => ?_) (fun h5 => ?_)
     ·-- true
      replace h5 := of_decide_eq_true h5
      refine W_seq (W_region rfl ?_)
      refine stp (r_fieldAddr rfl ?_)
      refine stn (r_store1 (v := .int .i64 2) rfl rfl (by rfl) hc18 (by rfl) (by rfl) ?_)
      intro w74 hc75 u76
      replace hc4 := u76.heap hc4 ne22
      replace G := G.upd u76 hge21
      clear u76 hc18
      refine WL_nil ?_
      refine W_seq (W_region rfl ?_)
      refine stp (r_fieldAddr rfl ?_)
      refine stn (r_store1 (v := .int .i64 5) rfl rfl (by rfl) hc75 (by rfl) (by rfl) ?_)
      intro w77 hc78 u79
      replace hc4 := u79.heap hc4 ne22
      replace G := G.upd u79 hge21
      clear u79 hc75
      refine WL_nil ?_
      refine W_seq (W_region rfl ?_)
      refine stp (r_assign_int rfl ?_)
      refine WL_nil ?_
      refine W_block ?_
      refine W_loop (fun m_ e_ w_ => ∃ (m : Nat) (ad3 : Option Addr) (n3 : Nat) (c3 : Nat), m_ = ((k / 8 % 5)).toNat - m ∧ Fr [(0, .slice ad1 (n - 1) (cp - 1)), (4, .pointer (some ⟨b1, 0, none⟩)), (5, .slice none 0 0), (6, .int .u8 k), (7, .pointer (some ⟨b12, 0, none⟩)), (8, .int .i64 ((k / 8) % 5)), (10, .int .i64 (m : Int))] e_ ∧ ((m : Int) ≤ (k / 8 % 5)) ∧ (w_.heap[b1]? = some (.cells #[.int .i64 0, .int .i64 0, .slice none 0 0, .slice none 0 0, .slice none 0 0] 37 (0, 0))) ∧ (w_.heap[b12]? = some (.cells #[.int .i64 2, .int .i64 5, .slice ad3 n3 c3, .slice none 0 0, .slice none 0 0] 37 (0, 0))) ∧ (w_.ownsRow w.heap.size 55 1 (.slice ad3 n3 c3) m ((List.range m).map fun i => .int .u64 (w3Tree k i))) ∧ Grow w w_) _ ⟨0, none, 0, 0, rfl, fr_of ⟨rfl, rfl, rfl, rfl, rfl, rfl, rfl, trivial⟩, by omega, hc4, hc78, World.ownsRow_nil _ _ _ _, G⟩ ?_
      clear hc4 hc78
      clear G
      rintro m_ e_ w80 ⟨m, ad3, n3, c3, rfl, ⟨e81, rfl⟩, hm, hc4, hc78, own, G⟩
      refine W_seq ?_
      refine W_seq (W_region rfl ?_)
      refine stp (r_move_int rfl ?_)
      refine stp (r_move_int rfl ?_)
      refine stp (r_lss rfl rfl ?_)
      refine WL_nil ?_
      refine W_cond2 (b := (decide ((m : Int) < ((k / 8) % 5)))) rfl (fun hlt => ?_) (fun hlt => ?_)
      ·-- true
       replace hlt := of_decide_eq_true hlt
       refine W_skip ?_
       refine W_seq ?_
       refine W_block ?_
       refine W_region rfl ?_
       refine stp (r_fieldAddr rfl ?_)
       refine stp (r_load (v := .slice ad3 n3 c3) rfl hc78 rfl ?_)
       refine stp (r_move_int rfl ?_)
       refine stp (r_conv rfl ?_ ?_); constructor <;> omega
       refine stp (r_mulw rfl rfl ?_)
       refine stp (r_move_int rfl ?_)
       refine stp (r_conv rfl ?_ ?_); constructor <;> omega
       refine stp (r_addw rfl rfl ?_)
       refine stp (r_buildSlice (cs := #[.int .u64 (w3Tree k m)]) (el := 55) (fun w => by kernel_rfl) ?_)
       intro bs82 w83 hb84 hc85 g86
       have hge87 := Nat.le_trans G.size hb84
       have ne88 := Nat.ne_of_lt (Nat.lt_of_lt_of_le (lt_of_heap hc4) hb84)
       have ne89 := Nat.ne_of_lt (Nat.lt_of_lt_of_le (lt_of_heap hc78) hb84)
       replace hc4 := g86.heap hc4
       replace hc78 := g86.heap hc78
       replace own := own_grow own g86
       replace G := G.tr g86
       clear g86
       refine stp (r_append rfl rfl rfl rfl own (Row.of_block (n := 1) hc85 rfl rfl (by omega)) (fun q_ hq_ => by simp at hq_; subst hq_; rfl) (by simp only [maxLen]; omega) (by omega) G.size ?_)
       intro v90 w91 own6 gr6
       replace G := G.grown gr6 (own_ge own)
       replace hc4 := gr_heap gr6 hc4 (own_ne own hc4 (by decide))
       replace hc78 := gr_heap gr6 hc78 (own_ne own hc78 (by decide))
       clear own gr6
       obtain ⟨ad4, n4, c4, rfl⟩ := own_slice own6
       refine stp (r_fieldAddr rfl ?_)
       refine stn (r_store1 (v := .slice ad4 n4 c4) rfl rfl (by rfl) hc78 (by rfl) (by rfl) ?_)
       intro w92 hc93 u94
       replace hc4 := u94.heap hc4 ne22
       replace own6 := own_upd own6 u94 (own_ne own6 hc78 (by decide))
       replace G := G.upd u94 hge21
       clear u94 hc78
       refine WL_nil ?_
       refine W_region rfl ?_
       refine stp (r_move_int rfl ?_)
       refine stp (r_add rfl rfl ?_ ?_); constructor <;> omega
       refine stp (r_assign_int rfl ?_)
       refine WL_nil ?_
       refine ⟨_, ?_, m + 1, ad4, n4, c4, rfl, fr_of ⟨rfl, rfl, rfl, rfl, rfl, rfl, congrArg (Value.int .i64) (by omega), trivial⟩, by omega, hc4, hc93, (by rw [List.range_succ, List.map_append]; exact own6), G⟩
       omega
      ·-- false
       replace hlt := of_decide_eq_false hlt
       have hm2 : m = (k / 8 % 5).toNat := by omega
       have ht : treeP (d + 1) (k :: c) = (.mk 2 5 ((List.range (k / 8 % 5).toNat).map (w3Tree k)) [] [], c) := by simp only [treeP]; rw [if_neg h2, if_neg (by omega), if_pos h5]
       refine W_exit ?_
       refine W_seq (W_region rfl ?_)
       refine stp (r_loadAll rfl hc78 (by rfl) ?_)
       refine stp (r_move_slice rfl ?_)
       refine stn (r_storeAll rfl rfl hc4 (by rfl) (by rfl) (by rfl) ?_)
       intro w95 hc96 u97
       replace hc78 := u97.heap hc78 ne22.symm
       replace own := own_upd own u97 (own_ne own hc4 (by decide))
       replace G := G.upd u97 hge8
       clear u97 hc4
       refine stp (r_assign_slice rfl ?_)
       refine WL_nil ?_
       refine W_ret ?_
       rw [ht]
       refine ret2 (res_all rfl hc96 (by rfl)) (res_tmp (v := .slice ad1 (n - 1) (cp - 1)) rfl) ⟨[_, _, _, _, _], _, _, _, rfl, .mk (by simp [inR]) (by simp [inR]) (own_hide_ints own hm2 (by omega)) (fun x hx_ => by obtain ⟨i, _, rfl⟩ := List.mem_map.1 hx_; exact wrap_u64R _) (Row.nil _ _) (by simp) (Row.nil _ _) .nil, hnc, (by omega), (by omega), R2, G⟩
     ·-- false
      replace h5 := of_decide_eq_false h5
      refine W_seq (W_region rfl ?_)
      refine stp (r_fieldAddr rfl ?_)
      refine stn (r_store1 (v := .int .i64 1) rfl rfl (by rfl) hc18 (by rfl) (by rfl) ?_)
      intro w98 hc99 u100
      replace hc4 := u100.heap hc4 ne22
      replace G := G.upd u100 hge21
      clear u100 hc18
      refine WL_nil ?_
      refine W_seq ?_
      refine W_seq (W_region rfl ?_)
      refine stp (r_move_int rfl ?_)
      refine stp (r_rem rfl rfl ?_ ?_ ?_); omega; omega
      refine stp (r_gtr rfl rfl ?_)
      refine WL_nil ?_
      refine W_cond2 (b := (decide ((k % 8) > 6))) rfl (fun h6 => ?_) (fun h6 => ?_)
      ·-- true
       replace h6 := of_decide_eq_true h6
       refine W_seq (W_region rfl ?_)
       refine stp (r_fieldAddr rfl ?_)
       refine stn (r_store1 (v := .int .i64 2) rfl rfl (by rfl) hc99 (by rfl) (by rfl) ?_)
       intro w101 hc102 u103
       replace hc4 := u103.heap hc4 ne22
       replace G := G.upd u103 hge21
       clear u103 hc99
       refine WL_nil ?_
       refine W_region rfl ?_
       refine stp (r_fieldAddr rfl ?_)
       refine stn (r_store1 (v := .int .i64 6) rfl rfl (by rfl) hc102 (by rfl) (by rfl) ?_)
       intro w104 hc105 u106
       replace hc4 := u106.heap hc4 ne22
       replace G := G.upd u106 hge21
       clear u106 hc102
       refine WL_nil ?_
       refine W_seq ?_
       refine W_seq (W_region rfl ?_)
       refine stp (r_assign_int rfl ?_)
       refine WL_nil ?_
       refine W_block ?_
       refine W_loop (fun m_ e_ w_ => m_ = 0 ∧ Fr [(0, .slice ad1 (n - 1) (cp - 1)), (1, .int .i64 ((d + 1 : Nat) : Int)), (4, .pointer (some ⟨b1, 0, none⟩)), (5, .slice none 0 0), (6, .int .u8 k), (7, .pointer (some ⟨b12, 0, none⟩)), (8, .int .i64 ((k / 8) % 5)), (11, .int .i64 0)] e_ ∧ (w_.heap[b1]? = some (.cells #[.int .i64 0, .int .i64 0, .slice none 0 0, .slice none 0 0, .slice none 0 0] 37 (0, 0))) ∧ (w_.heap[b12]? = some (.cells #[.int .i64 2, .int .i64 6, .slice none 0 0, .slice none 0 0, .slice none 0 0] 37 (0, 0))) ∧ Grow w w_) _ ⟨rfl, fr_of ⟨rfl, rfl, rfl, rfl, rfl, rfl, rfl, rfl, trivial⟩, hc4, hc105, G⟩ ?_
       clear hc4 hc105
       clear G
       rintro m_ e_ w107 ⟨rfl, ⟨e108, rfl⟩, hc4, hc105, G⟩
       refine W_seq ?_
       refine W_seq (W_region rfl ?_)
       refine stp (r_move_int rfl ?_)
       refine stp (r_move_int rfl ?_)
       refine stp (r_quo rfl rfl ?_ ?_ ?_ ?_); omega; omega; (constructor <;> omega)
       refine stp (r_conv rfl ?_ ?_); constructor <;> omega
       refine stp (r_lss rfl rfl ?_)
       refine stp (r_move_bool rfl ?_)
       refine WL_some (og_if (s := .bool (decide (0 < (k / 64)))) (b := true) (v := .pointer (some ⟨b12, 0, none⟩)) rfl (wgb_t _) (fun hc109 => ?_) ?_)
       ·
        have hc109_ := of_decide_eq_true hc109
        refine r_fieldAddr rfl ?_
        exact ⟨rfl, rfl⟩
       refine WL_some (og_if (s := .bool (decide (0 < (k / 64)))) (b := true) (v := .int .i64 2) rfl (wgb_t _) (fun hc110 => ?_) ?_)
       ·
        have hc110_ := of_decide_eq_true hc110
        refine r_load (v := .int .i64 2) (gvt hc110) hc105 rfl ?_
        exact ⟨rfl, rfl⟩
       refine WL_some (og_if (s := .bool (decide (0 < (k / 64)))) (b := true) (v := .bool false) rfl (wgb_t _) (fun hc111 => ?_) ?_)
       ·
        have hc111_ := of_decide_eq_true hc111
        refine r_eql_f (gvt hc111) rfl (by decide) ?_
        exact ⟨rfl, rfl⟩
       refine stp (r_and2 rfl rfl rfl ?_)
       refine WL_nil ?_
       refine W_false (show _ = Value.bool false from congrArg Value.bool (by simp)) ?_
       refine W_exit ?_
       refine W_seq (W_region rfl ?_)
       refine stp (r_assign_int rfl ?_)
       refine WL_nil ?_
       refine W_block ?_
       obtain ⟨B, hB⟩ : ∃ B, B = w107.heap.size := ⟨_, rfl⟩
       have hB7 : b12 < B := by rw [hB]; exact lt_of_heap hc105
       have hwB : w.heap.size ≤ B := by rw [hB]; exact G.size
       have hBw : B ≤ w107.heap.size := by rw [hB]; exact Nat.le_refl _
       have hB4 : b1 < B := by rw [hB]; exact lt_of_heap hc4
       clear hB
       have hc1 : (treesP (treeP d) 0 c).2 = c := rfl
       refine W_loop (fun m_ e_ w_ => ∃ (j : Nat) (ad5 : Option Addr) (n5 : Nat) (c5 : Nat) (ad6 : Option Addr) (n6 : Nat) (c6 : Nat) (kc : List Value) (V : Nat → Prop), m_ = (k / 8 % 5).toNat - j ∧ Fr [(1, .int .i64 ((d + 1 : Nat) : Int)), (4, .pointer (some ⟨b1, 0, none⟩)), (5, .slice none 0 0), (7, .pointer (some ⟨b12, 0, none⟩)), (8, .int .i64 ((k / 8) % 5)), (12, .int .i64 (j : Int)), (0, .slice ad5 n5 c5)] e_ ∧ ((j : Int) ≤ (k / 8 % 5)) ∧ (n5 = (treesP (treeP d) j c).2.length) ∧ (n5 ≤ c5) ∧ (c5 ≤ maxLen) ∧ (RowAt w0 1 ad5 n5 ((treesP (treeP d) j c).2.map (.int .u8))) ∧ (∀ x, (Value.slice ad6 n6 c6).ownBlock = some x → ¬ V x) ∧ (w_.heap[b1]? = some (.cells #[.int .i64 0, .int .i64 0, .slice none 0 0, .slice none 0 0, .slice none 0 0] 37 (0, 0))) ∧ (w_.heap[b12]? = some (.cells #[.int .i64 2, .int .i64 6, .slice none 0 0, .slice none 0 0, .slice ad6 n6 c6] 37 (0, 0))) ∧ (B ≤ w_.heap.size) ∧ (w_.ownsRow B 37 5 (.slice ad6 n6 c6) j kc) ∧ (∀ x, V x → B ≤ x ∧ x < w_.heap.size) ∧ (KidsR (see V w_) kc (treesP (treeP d) j c).1) ∧ Grow w w_) _ ⟨0, ad1, n - 1, cp - 1, none, 0, 0, [], fun _ => False, rfl, fr_of ⟨rfl, rfl, rfl, rfl, rfl, rfl, rfl, trivial⟩, by omega, hnc, by omega, by omega, R2, fun x _ h_ => h_, hc4, hc105, hBw, World.ownsRow_nil _ _ _ _, fun x h_ => h_.elim, .nil, G⟩ ?_
       clear hc4 hc105
       clear G
       rintro m_ e_ w112 ⟨j, ad5, n5, c5, ad6, n6, c6, kc, V, rfl, ⟨e113, rfl⟩, hj, hn5, hc5, hc52, hR5, hVo, hc4, hc105, hBw, ownk, hV, hK, G⟩
       refine W_seq ?_
       refine W_seq (W_region rfl ?_)
       refine stp (r_move_int rfl ?_)
       refine stp (r_move_int rfl ?_)
       refine stp (r_lss rfl rfl ?_)
       refine WL_nil ?_
       refine W_cond2 (b := (decide ((j : Int) < ((k / 8) % 5)))) rfl (fun hlt => ?_) (fun hlt => ?_)
       ·-- true
        replace hlt := of_decide_eq_true hlt
        refine W_skip ?_
        refine W_seq ?_
        refine W_block ?_
        refine W_seq (W_region rfl ?_)
        refine stp (r_move_slice rfl ?_)
        refine stp (r_move_int rfl ?_)
        refine stp (r_sub rfl rfl ?_ ?_); constructor <;> omega
        refine WL_some (og rfl ?_)
        have hBw0 := hBw
        have hol := fun x hx_ => (ownk.lt x hx_).2
        have hcal := ih_ _ (d := d) hR5 (g0.tr G) hn5 (treesP_rest d j c hxc) hc5 hc52 (by omega) (by omega)
        rw [show ((d : Nat) : Int) = ((d + 1 : Nat) : Int) - 1 from by omega] at hcal
        refine r_call rfl hcal ?_
        rintro v_ w114 ⟨cells, ad9, n9, c9, rfl, hT9, hn9, hc9, hc92, hR9, g_⟩
        have hsz9 := lt_of_heap hc105
        replace hc4 := g_.heap hc4
        replace hc105 := g_.heap hc105
        replace hBw := Nat.le_trans hBw g_.size
        replace ownk := own_grow ownk g_
        replace hV := vlt hV g_.size
        replace hK := hK.sees (Sees.grow g_)
        replace G := G.tr g_
        clear g_
        obtain ⟨y0, y1, ya, yn, yc, za, zn, zc, ua, un, uc, rfl⟩ := hT9.cells
        have hT8 := hT9.sees (Sees.more (V' := fun x => V x ∨ (w112.heap.size ≤ x ∧ x < w114.heap.size)) w114 (fun x h1_ h2_ => .inr ⟨h2_, h1_⟩))
        clear hT9
        replace hK := hK.sees (Sees.more (V' := fun x => V x ∨ (w112.heap.size ≤ x ∧ x < w114.heap.size)) w114 (fun x _ h2_ => .inl h2_))
        have hV9 : ∀ x, (V x ∨ (w112.heap.size ≤ x ∧ x < w114.heap.size)) → B ≤ x ∧ x < w114.heap.size := fun x hx_ => hx_.elim (fun h_ => hV x h_) (fun h_ => ⟨Nat.le_trans hBw0 h_.1, h_.2⟩)
        have hVo9 : ∀ x, (Value.slice ad6 n6 c6).ownBlock = some x → ¬ (V x ∨ (w112.heap.size ≤ x ∧ x < w114.heap.size)) := fun x hx_ hv_ => hv_.elim (hVo x hx_) (fun h_ => by have := (hol x hx_); omega)
        clear hV hVo
        obtain ⟨V9, hV9e⟩ : ∃ V9 : Nat → Prop, V9 = fun x => V x ∨ (w112.heap.size ≤ x ∧ x < w114.heap.size) := ⟨_, rfl⟩
        rw [← hV9e] at hT8 hK
        have hV : ∀ x, V9 x → B ≤ x ∧ x < w114.heap.size := by rw [hV9e]; exact hV9
        have hVo : ∀ x, (Value.slice ad6 n6 c6).ownBlock = some x → ¬ V9 x := by rw [hV9e]; exact hVo9
        clear hV9 hVo9 hV9e hBw0 hol
        refine stp (r_move (v := .tuple #[.agg #[.int .i64 y0, .int .i64 y1, .slice ya yn yc, .slice za zn zc, .slice ua un uc], .slice ad9 n9 c9]) rfl ?_)
        refine stp (r_extract (v := .agg #[.int .i64 y0, .int .i64 y1, .slice ya yn yc, .slice za zn zc, .slice ua un uc]) rfl rfl ?_)
        refine stp (r_extract (v := .slice ad9 n9 c9) rfl rfl ?_)
        refine stp (r_alloc ?_)
        intro b115 w116 hb117 hc118 g119
        refine stn (r_storeAll rfl rfl hc118 (by rfl) (by rfl) (by rfl) ?_)
        intro w120 hc121 u122
        have g123 := g119.upd u122 hb117
        have hge124 := Nat.le_trans G.size hb117
        have ne125 := Nat.ne_of_lt (Nat.lt_of_lt_of_le (lt_of_heap hc4) hb117)
        have ne126 := Nat.ne_of_lt (Nat.lt_of_lt_of_le (lt_of_heap hc105) hb117)
        replace hc4 := g123.heap hc4
        replace hc105 := g123.heap hc105
        replace hBw := Nat.le_trans hBw g123.size
        replace ownk := own_grow ownk g123
        replace hK := hK.sees (Sees.grow g123)
        replace hT8 := hT8.sees (Sees.grow g123)
        replace hV := vlt hV g123.size
        replace G := G.tr g123
        clear u122 g119 hb117 hc118
        refine stp (r_assign_slice rfl ?_)
        refine WL_nil ?_
        refine W_seq (W_region rfl ?_)
        refine stp (r_move_slice rfl ?_)
        refine stp (r_assign_slice rfl ?_)
        refine WL_nil ?_
        refine W_region rfl ?_
        refine stp (r_fieldAddr rfl ?_)
        refine stp (r_load (v := .slice ad6 n6 c6) rfl hc105 rfl ?_)
        refine stp (r_loadAll rfl hc121 (by rfl) ?_)
        refine stp (r_buildSlice (cs := #[.int .i64 y0, .int .i64 y1, .slice ya yn yc, .slice za zn zc, .slice ua un uc]) (el := 37) (fun w => by kernel_rfl) ?_)
        intro bs127 w128 hb129 hc130 g131
        have hge132 := Nat.le_trans G.size hb129
        have ne133 := Nat.ne_of_lt (Nat.lt_of_lt_of_le (lt_of_heap hc4) hb129)
        have ne134 := Nat.ne_of_lt (Nat.lt_of_lt_of_le (lt_of_heap hc105) hb129)
        have ne135 := Nat.ne_of_lt (Nat.lt_of_lt_of_le (lt_of_heap hc121) hb129)
        replace hc4 := g131.heap hc4
        replace hc105 := g131.heap hc105
        replace hBw := Nat.le_trans hBw g131.size
        replace ownk := own_grow ownk g131
        replace hK := hK.sees (Sees.grow g131)
        replace hT8 := hT8.sees (Sees.grow g131)
        replace hV := vlt hV g131.size
        replace hc121 := g131.heap hc121
        replace G := G.tr g131
        clear g131
        refine stp (r_appendB rfl rfl rfl rfl ownk (Row.of_block (n := 1) hc130 rfl rfl (by omega)) (fun q_ hq_ => by simp at hq_; rcases hq_ with rfl | rfl | rfl | rfl | rfl <;> rfl) (by simp only [maxLen]; omega) (by omega) hBw ?_)
        intro v136 w137 own6 gr6 hbk6
        have k6_ : Kp (Value.slice ad6 n6 c6).ownBlock.toList w128 w137 := Kp.of_grownBy gr6 (fun k_ hk_ => by rw [Option.mem_toList]; exact hk_)
        have hF6 : ∀ x ∈ (Value.slice ad6 n6 c6).ownBlock.toList, B ≤ x := fun x hx_ => own_ge ownk x (Option.mem_toList.1 hx_)
        have hF7 : ∀ x ∈ (Value.slice ad6 n6 c6).ownBlock.toList, ¬ V9 x := fun x hx_ => hVo x (Option.mem_toList.1 hx_)
        replace hT8 := hT8.sees (Sees.kp k6_ hF7)
        replace hK := hK.sees (Sees.kp k6_ hF7)
        have hVo6 : ∀ x, v136.ownBlock = some x → ¬ V9 x := fun x hx_ hv_ => hbk6.elim (fun h_ => hVo x (h_ ▸ hx_) hv_) (fun h_ => by rw [h_] at hx_; simp only [Option.some.injEq] at hx_; have := (hV x hv_).2; omega)
        replace hV := fun x hx_ => (⟨(hV x hx_).1, Nat.lt_of_lt_of_le (hV x hx_).2 k6_.size⟩ : B ≤ x ∧ x < w137.heap.size)
        replace G := G.trK k6_ (fun x hx_ => Nat.le_trans hwB (hF6 x hx_))
        clear hc121
        replace hc4 := k6_.heap hc4 (fun hm_ => by have h1_ := hF6 _ hm_; have := hB4; omega)
        replace hc105 := k6_.heap hc105 (fun hm_ => by have h1_ := hF6 _ hm_; omega)
        replace hBw := Nat.le_trans hBw k6_.size
        clear ownk gr6 hVo k6_ hF6 hF7 hbk6
        obtain ⟨ad7, n7, c7, rfl⟩ := own_slice own6
        refine stp (r_fieldAddr rfl ?_)
        refine stn (r_store1 (v := .slice ad7 n7 c7) rfl rfl (by rfl) hc105 (by rfl) (by rfl) ?_)
        intro w138 hc139 u140
        replace hc4 := u140.heap hc4 ne22
        replace own6 := own_upd own6 u140 (fun he_ => by have := own_ge own6 _ he_; omega)
        replace hT8 := hT8.sees (Sees.upd u140 (fun h_ => by have := (hV _ h_).1; omega))
        replace hK := hK.sees (Sees.upd u140 (fun h_ => by have := (hV _ h_).1; omega))
        replace hV := fun x hx_ => (⟨(hV x hx_).1, Nat.lt_of_lt_of_le (hV x hx_).2 (Nat.le_of_eq u140.size.symm)⟩ : B ≤ x ∧ x < w138.heap.size)
        replace hBw : B ≤ w138.heap.size := by rw [u140.size]; exact hBw
        replace G := G.upd u140 hge21
        clear hc105
        refine WL_nil ?_
        refine W_region rfl ?_
        refine stp (r_move_int rfl ?_)
        refine stp (r_add rfl rfl ?_ ?_); constructor <;> omega
        refine stp (r_assign_int rfl ?_)
        refine WL_nil ?_
        refine ⟨_, ?_, j + 1, ad9, n9, c9, ad7, n7, c7, _, V9, rfl, fr_of ⟨rfl, rfl, rfl, rfl, rfl, congrArg (Value.int .i64) (by omega), rfl, trivial⟩, by omega, hn9, hc9, hc92, hR9, hVo6, hc4, hc139, hBw, own6, hV, (KidsR.append hK (by have := KidsR.cons hT8 .nil; simpa using this)), G⟩
        omega
       ·-- false
        replace hlt := of_decide_eq_false hlt
        have hj2 : j = (k / 8 % 5).toNat := by omega
        have hlk := treesP_count (treeP d) j c
        have hrk : Row (hide B w112) 5 (.slice ad6 n6 c6) (treesP (treeP d) j c).1.length kc := by rw [hlk]; exact own_hide ownk (by omega)
        have hK9 := hK.sees (Sees.more (V' := fun x => B ≤ x) _ (fun x _ hx_ => (hV x hx_).1))
        clear hK hV
        have ht : treeP (d + 1) (k :: c) = (.mk 2 6 [] [] (treesP (treeP d) j c).1, (treesP (treeP d) j c).2) := by simp only [treeP]; rw [if_neg h2, if_neg (by omega), if_neg h5, if_pos h6, ← hj2]
        refine W_exit ?_
        refine W_seq (W_region rfl ?_)
        refine stp (r_loadAll rfl hc105 (by rfl) ?_)
        refine stp (r_move_slice rfl ?_)
        refine stn (r_storeAll rfl rfl hc4 (by rfl) (by rfl) (by rfl) ?_)
        intro w141 hc142 u143
        replace hc105 := u143.heap hc105 ne22.symm
        replace hrk := hrk.sees (Sees.upd u143 (fun h_ => by omega))
        replace hK9 := hK9.sees (Sees.upd u143 (fun h_ => by omega))
        replace G := G.upd u143 hge8
        clear u143 hc4
        refine stp (r_assign_slice rfl ?_)
        refine WL_nil ?_
        refine W_ret ?_
        rw [ht]
        refine ret2 (res_all rfl hc142 (by rfl)) (res_tmp (v := .slice ad5 n5 c5) rfl) ⟨[_, _, _, _, _], _, _, _, rfl, .mk (by simp [inR]) (by simp [inR]) (Row.nil _ _) (by simp) (Row.nil _ _) (by simp) (hrk.sees (Sees.low hwB _)) (hK9.sees (Sees.low hwB _)), hn5, hc5, hc52, hR5, G⟩
      ·-- false
       replace h6 := of_decide_eq_false h6
       have hkd6 : ¬ k % 8 > 6 := h6
       refine W_skip ?_
       refine W_seq ?_
       refine W_seq (W_region rfl ?_)
       refine stp (r_assign_int rfl ?_)
       refine WL_nil ?_
       refine W_block ?_
       refine W_loop (fun m_ e_ w_ => ∃ (m : Nat) (ad3 : Option Addr) (n3 : Nat) (c3 : Nat), m_ = ((k / 64)).toNat - m ∧ Fr [(0, .slice ad1 (n - 1) (cp - 1)), (1, .int .i64 ((d + 1 : Nat) : Int)), (4, .pointer (some ⟨b1, 0, none⟩)), (5, .slice none 0 0), (6, .int .u8 k), (7, .pointer (some ⟨b12, 0, none⟩)), (8, .int .i64 ((k / 8) % 5)), (11, .int .i64 (m : Int))] e_ ∧ ((m : Int) ≤ (k / 64)) ∧ (w_.heap[b1]? = some (.cells #[.int .i64 0, .int .i64 0, .slice none 0 0, .slice none 0 0, .slice none 0 0] 37 (0, 0))) ∧ (w_.heap[b12]? = some (.cells #[.int .i64 1, .int .i64 0, .slice ad3 n3 c3, .slice none 0 0, .slice none 0 0] 37 (0, 0))) ∧ (w_.ownsRow w.heap.size 55 1 (.slice ad3 n3 c3) m ((List.range m).map fun i => .int .u64 (w4Tree k i))) ∧ Grow w w_) _ ⟨0, none, 0, 0, rfl, fr_of ⟨rfl, rfl, rfl, rfl, rfl, rfl, rfl, rfl, trivial⟩, by omega, hc4, hc99, World.ownsRow_nil _ _ _ _, G⟩ ?_
       clear hc4 hc99
       clear G
       rintro m_ e_ w144 ⟨m, ad3, n3, c3, rfl, ⟨e145, rfl⟩, hm, hc4, hc99, own, G⟩
       refine W_seq ?_
       refine W_seq (W_region rfl ?_)
       refine stp (r_move_int rfl ?_)
       refine stp (r_move_int rfl ?_)
       refine stp (r_quo rfl rfl ?_ ?_ ?_ ?_); omega; omega; (constructor <;> omega)
       refine stp (r_conv rfl ?_ ?_); constructor <;> omega
       refine stp (r_lss rfl rfl ?_)
       refine stp (r_move_bool rfl ?_)
       refine WL_some (og_if (s := .bool (decide ((m : Int) < (k / 64)))) (b := true) (v := .pointer (some ⟨b12, 0, none⟩)) rfl (wgb_t _) (fun hc146 => ?_) ?_)
       ·
        have hc146_ := of_decide_eq_true hc146
        refine r_fieldAddr rfl ?_
        exact ⟨rfl, rfl⟩
       refine WL_some (og_if (s := .bool (decide ((m : Int) < (k / 64)))) (b := true) (v := .int .i64 1) rfl (wgb_t _) (fun hc147 => ?_) ?_)
       ·
        have hc147_ := of_decide_eq_true hc147
        refine r_load (v := .int .i64 1) (gvt hc147) hc99 rfl ?_
        exact ⟨rfl, rfl⟩
       refine WL_some (og_if (s := .bool (decide ((m : Int) < (k / 64)))) (b := true) (v := .bool true) rfl (wgb_t _) (fun hc148 => ?_) ?_)
       ·
        have hc148_ := of_decide_eq_true hc148
        refine r_eql_t (gvt hc148) rfl (by decide) ?_
        exact ⟨rfl, rfl⟩
       refine stp (r_and2 rfl rfl rfl ?_)
       refine WL_nil ?_
       refine W_cond2 (b := ((decide ((m : Int) < (k / 64))) && true)) rfl (fun hlt => ?_) (fun hlt => ?_)
       ·-- true
        simp only [Bool.and_eq_true, Bool.or_eq_true, Bool.not_eq_true', Bool.and_eq_false_iff, Bool.or_eq_false_iff, Bool.not_eq_false', decide_eq_true_eq, decide_eq_false_iff_not, Bool.not_true, Bool.not_false, Bool.not_eq_eq_eq_not, Bool.or_false, Bool.and_true, Bool.or_true, Bool.and_false, Bool.false_or, Bool.true_and, Bool.true_or, Bool.false_and, Bool.false_eq_true, Bool.true_eq_false] at hlt
        refine W_skip ?_
        refine W_seq ?_
        refine W_block ?_
        refine W_region rfl ?_
        refine stp (r_fieldAddr rfl ?_)
        refine stp (r_load (v := .slice ad3 n3 c3) rfl hc99 rfl ?_)
        refine stp (r_move_int rfl ?_)
        refine stp (r_conv rfl ?_ ?_); constructor <;> omega
        refine stp (r_move_int rfl ?_)
        refine stp (r_mul rfl rfl ?_ ?_); constructor <;> omega
        refine stp (r_conv rfl ?_ ?_); constructor <;> omega
        refine stp (r_shl rfl rfl ?_ ?_); omega
        refine stp (r_move_int rfl ?_)
        refine stp (r_conv rfl ?_ ?_); constructor <;> omega
        refine stp (r_addw rfl rfl ?_)
        refine stp (r_buildSlice (cs := #[.int .u64 (w4Tree k m)]) (el := 55) (fun w => by kernel_rfl) ?_)
        intro bs149 w150 hb151 hc152 g153
        have hge154 := Nat.le_trans G.size hb151
        have ne155 := Nat.ne_of_lt (Nat.lt_of_lt_of_le (lt_of_heap hc4) hb151)
        have ne156 := Nat.ne_of_lt (Nat.lt_of_lt_of_le (lt_of_heap hc99) hb151)
        replace hc4 := g153.heap hc4
        replace hc99 := g153.heap hc99
        replace own := own_grow own g153
        replace G := G.tr g153
        clear g153
        refine stp (r_append rfl rfl rfl rfl own (Row.of_block (n := 1) hc152 rfl rfl (by omega)) (fun q_ hq_ => by simp at hq_; subst hq_; rfl) (by simp only [maxLen]; omega) (by omega) G.size ?_)
        intro v157 w158 own6 gr6
        replace G := G.grown gr6 (own_ge own)
        replace hc4 := gr_heap gr6 hc4 (own_ne own hc4 (by decide))
        replace hc99 := gr_heap gr6 hc99 (own_ne own hc99 (by decide))
        clear own gr6
        obtain ⟨ad4, n4, c4, rfl⟩ := own_slice own6
        refine stp (r_fieldAddr rfl ?_)
        refine stn (r_store1 (v := .slice ad4 n4 c4) rfl rfl (by rfl) hc99 (by rfl) (by rfl) ?_)
        intro w159 hc160 u161
        replace hc4 := u161.heap hc4 ne22
        replace own6 := own_upd own6 u161 (own_ne own6 hc99 (by decide))
        replace G := G.upd u161 hge21
        clear u161 hc99
        refine WL_nil ?_
        refine W_region rfl ?_
        refine stp (r_move_int rfl ?_)
        refine stp (r_add rfl rfl ?_ ?_); constructor <;> omega
        refine stp (r_assign_int rfl ?_)
        refine WL_nil ?_
        refine ⟨_, ?_, m + 1, ad4, n4, c4, rfl, fr_of ⟨rfl, rfl, rfl, rfl, rfl, rfl, rfl, congrArg (Value.int .i64) (by omega), trivial⟩, by omega, hc4, hc160, (by rw [List.range_succ, List.map_append]; exact own6), G⟩
        omega
       ·-- false
        simp only [Bool.and_eq_true, Bool.or_eq_true, Bool.not_eq_true', Bool.and_eq_false_iff, Bool.or_eq_false_iff, Bool.not_eq_false', decide_eq_true_eq, decide_eq_false_iff_not, Bool.not_true, Bool.not_false, Bool.not_eq_eq_eq_not, Bool.or_false, Bool.and_true, Bool.or_true, Bool.and_false, Bool.false_or, Bool.true_and, Bool.true_or, Bool.false_and, Bool.false_eq_true, Bool.true_eq_false] at hlt
        have hm2 : m = (k / 64).toNat := by omega
        refine W_exit ?_
        refine W_seq (W_region rfl ?_)
        refine stp (r_assign_int rfl ?_)
        refine WL_nil ?_
        refine W_block ?_
        obtain ⟨B, hB⟩ : ∃ B, B = w144.heap.size := ⟨_, rfl⟩
        have hB7 : b12 < B := by rw [hB]; exact lt_of_heap hc99
        have hwB : w.heap.size ≤ B := by rw [hB]; exact G.size
        have hBw : B ≤ w144.heap.size := by rw [hB]; exact Nat.le_refl _
        have hB4 : b1 < B := by rw [hB]; exact lt_of_heap hc4
        clear hB
        have hc1 : (treesP (treeP d) 0 c).2 = c := rfl
        refine W_loop (fun m_ e_ w_ => ∃ (j : Nat) (ad5 : Option Addr) (n5 : Nat) (c5 : Nat) (ad6 : Option Addr) (n6 : Nat) (c6 : Nat) (kc : List Value) (V : Nat → Prop), m_ = (k / 8 % 5).toNat - j ∧ Fr [(1, .int .i64 ((d + 1 : Nat) : Int)), (4, .pointer (some ⟨b1, 0, none⟩)), (5, .slice none 0 0), (7, .pointer (some ⟨b12, 0, none⟩)), (8, .int .i64 ((k / 8) % 5)), (12, .int .i64 (j : Int)), (0, .slice ad5 n5 c5)] e_ ∧ ((j : Int) ≤ (k / 8 % 5)) ∧ (n5 = (treesP (treeP d) j c).2.length) ∧ (n5 ≤ c5) ∧ (c5 ≤ maxLen) ∧ (RowAt w0 1 ad5 n5 ((treesP (treeP d) j c).2.map (.int .u8))) ∧ (∀ x, (Value.slice ad6 n6 c6).ownBlock = some x → ¬ V x) ∧ (w_.heap[b1]? = some (.cells #[.int .i64 0, .int .i64 0, .slice none 0 0, .slice none 0 0, .slice none 0 0] 37 (0, 0))) ∧ (w_.ownsRow w.heap.size 55 1 (.slice ad3 n3 c3) m ((List.range m).map fun i => .int .u64 (w4Tree k i))) ∧ (w_.heap[b12]? = some (.cells #[.int .i64 1, .int .i64 0, .slice ad3 n3 c3, .slice none 0 0, .slice ad6 n6 c6] 37 (0, 0))) ∧ (B ≤ w_.heap.size) ∧ (w_.ownsRow B 37 5 (.slice ad6 n6 c6) j kc) ∧ (∀ x, V x → B ≤ x ∧ x < w_.heap.size) ∧ (KidsR (see V w_) kc (treesP (treeP d) j c).1) ∧ Grow w w_) _ ⟨0, ad1, n - 1, cp - 1, none, 0, 0, [], fun _ => False, rfl, fr_of ⟨rfl, rfl, rfl, rfl, rfl, rfl, rfl, trivial⟩, by omega, hnc, by omega, by omega, R2, fun x _ h_ => h_, hc4, own, hc99, hBw, World.ownsRow_nil _ _ _ _, fun x h_ => h_.elim, .nil, G⟩ ?_
        clear hc4 hc99 own
        clear G
        rintro m_ e_ w162 ⟨j, ad5, n5, c5, ad6, n6, c6, kc, V, rfl, ⟨e163, rfl⟩, hj, hn5, hc5, hc52, hR5, hVo, hc4, own, hc99, hBw, ownk, hV, hK, G⟩
        refine W_seq ?_
        refine W_seq (W_region rfl ?_)
        refine stp (r_move_int rfl ?_)
        refine stp (r_move_int rfl ?_)
        refine stp (r_lss rfl rfl ?_)
        refine WL_nil ?_
        refine W_cond2 (b := (decide ((j : Int) < ((k / 8) % 5)))) rfl (fun hlt => ?_) (fun hlt => ?_)
        ·-- true
         replace hlt := of_decide_eq_true hlt
         refine W_skip ?_
         refine W_seq ?_
         refine W_block ?_
         refine W_seq (W_region rfl ?_)
         refine stp (r_move_slice rfl ?_)
         refine stp (r_move_int rfl ?_)
         refine stp (r_sub rfl rfl ?_ ?_); constructor <;> omega
         refine WL_some (og rfl ?_)
         have hBw0 := hBw
         have hol := fun x hx_ => (ownk.lt x hx_).2
         have hcal := ih_ _ (d := d) hR5 (g0.tr G) hn5 (treesP_rest d j c hxc) hc5 hc52 (by omega) (by omega)
         rw [show ((d : Nat) : Int) = ((d + 1 : Nat) : Int) - 1 from by omega] at hcal
         refine r_call rfl hcal ?_
         rintro v_ w164 ⟨cells, ad9, n9, c9, rfl, hT9, hn9, hc9, hc92, hR9, g_⟩
         have hsz9 := lt_of_heap hc99
         replace hc4 := g_.heap hc4
         replace own := own_grow own g_
         replace hc99 := g_.heap hc99
         replace hBw := Nat.le_trans hBw g_.size
         replace ownk := own_grow ownk g_
         replace hV := vlt hV g_.size
         replace hK := hK.sees (Sees.grow g_)
         replace G := G.tr g_
         clear g_
         obtain ⟨y0, y1, ya, yn, yc, za, zn, zc, ua, un, uc, rfl⟩ := hT9.cells
         have hT8 := hT9.sees (Sees.more (V' := fun x => V x ∨ (w162.heap.size ≤ x ∧ x < w164.heap.size)) w164 (fun x h1_ h2_ => .inr ⟨h2_, h1_⟩))
         clear hT9
         replace hK := hK.sees (Sees.more (V' := fun x => V x ∨ (w162.heap.size ≤ x ∧ x < w164.heap.size)) w164 (fun x _ h2_ => .inl h2_))
         have hV9 : ∀ x, (V x ∨ (w162.heap.size ≤ x ∧ x < w164.heap.size)) → B ≤ x ∧ x < w164.heap.size := fun x hx_ => hx_.elim (fun h_ => hV x h_) (fun h_ => ⟨Nat.le_trans hBw0 h_.1, h_.2⟩)
         have hVo9 : ∀ x, (Value.slice ad6 n6 c6).ownBlock = some x → ¬ (V x ∨ (w162.heap.size ≤ x ∧ x < w164.heap.size)) := fun x hx_ hv_ => hv_.elim (hVo x hx_) (fun h_ => by have := (hol x hx_); omega)
         clear hV hVo
         obtain ⟨V9, hV9e⟩ : ∃ V9 : Nat → Prop, V9 = fun x => V x ∨ (w162.heap.size ≤ x ∧ x < w164.heap.size) := ⟨_, rfl⟩
         rw [← hV9e] at hT8 hK
         have hV : ∀ x, V9 x → B ≤ x ∧ x < w164.heap.size := by rw [hV9e]; exact hV9
         have hVo : ∀ x, (Value.slice ad6 n6 c6).ownBlock = some x → ¬ V9 x := by rw [hV9e]; exact hVo9
         clear hV9 hVo9 hV9e hBw0 hol
         refine stp (r_move (v := .tuple #[.agg #[.int .i64 y0, .int .i64 y1, .slice ya yn yc, .slice za zn zc, .slice ua un uc], .slice ad9 n9 c9]) rfl ?_)
         refine stp (r_extract (v := .agg #[.int .i64 y0, .int .i64 y1, .slice ya yn yc, .slice za zn zc, .slice ua un uc]) rfl rfl ?_)
         refine stp (r_extract (v := .slice ad9 n9 c9) rfl rfl ?_)
         refine stp (r_alloc ?_)
         intro b165 w166 hb167 hc168 g169
         refine stn (r_storeAll rfl rfl hc168 (by rfl) (by rfl) (by rfl) ?_)
         intro w170 hc171 u172
         have g173 := g169.upd u172 hb167
         have hge174 := Nat.le_trans G.size hb167
         have ne175 := Nat.ne_of_lt (Nat.lt_of_lt_of_le (lt_of_heap hc4) hb167)
         have ne176 := Nat.ne_of_lt (Nat.lt_of_lt_of_le (lt_of_heap hc99) hb167)
         replace hc4 := g173.heap hc4
         replace own := own_grow own g173
         replace hc99 := g173.heap hc99
         replace hBw := Nat.le_trans hBw g173.size
         replace ownk := own_grow ownk g173
         replace hK := hK.sees (Sees.grow g173)
         replace hT8 := hT8.sees (Sees.grow g173)
         replace hV := vlt hV g173.size
         replace G := G.tr g173
         clear u172 g169 hb167 hc168
         refine stp (r_assign_slice rfl ?_)
         refine WL_nil ?_
         refine W_seq (W_region rfl ?_)
         refine stp (r_move_slice rfl ?_)
         refine stp (r_assign_slice rfl ?_)
         refine WL_nil ?_
         refine W_region rfl ?_
         refine stp (r_fieldAddr rfl ?_)
         refine stp (r_load (v := .slice ad6 n6 c6) rfl hc99 rfl ?_)
         refine stp (r_loadAll rfl hc171 (by rfl) ?_)
         refine stp (r_buildSlice (cs := #[.int .i64 y0, .int .i64 y1, .slice ya yn yc, .slice za zn zc, .slice ua un uc]) (el := 37) (fun w => by kernel_rfl) ?_)
         intro bs177 w178 hb179 hc180 g181
         have hge182 := Nat.le_trans G.size hb179
         have ne183 := Nat.ne_of_lt (Nat.lt_of_lt_of_le (lt_of_heap hc4) hb179)
         have ne184 := Nat.ne_of_lt (Nat.lt_of_lt_of_le (lt_of_heap hc99) hb179)
         have ne185 := Nat.ne_of_lt (Nat.lt_of_lt_of_le (lt_of_heap hc171) hb179)
         replace hc4 := g181.heap hc4
         replace own := own_grow own g181
         replace hc99 := g181.heap hc99
         replace hBw := Nat.le_trans hBw g181.size
         replace ownk := own_grow ownk g181
         replace hK := hK.sees (Sees.grow g181)
         replace hT8 := hT8.sees (Sees.grow g181)
         replace hV := vlt hV g181.size
         replace hc171 := g181.heap hc171
         replace G := G.tr g181
         clear g181
         refine stp (r_appendB rfl rfl rfl rfl ownk (Row.of_block (n := 1) hc180 rfl rfl (by omega)) (fun q_ hq_ => by simp at hq_; rcases hq_ with rfl | rfl | rfl | rfl | rfl <;> rfl) (by simp only [maxLen]; omega) (by omega) hBw ?_)
         intro v186 w187 own6 gr6 hbk6
         have k6_ : Kp (Value.slice ad6 n6 c6).ownBlock.toList w178 w187 := Kp.of_grownBy gr6 (fun k_ hk_ => by rw [Option.mem_toList]; exact hk_)
         have hF6 : ∀ x ∈ (Value.slice ad6 n6 c6).ownBlock.toList, B ≤ x := fun x hx_ => own_ge ownk x (Option.mem_toList.1 hx_)
         have hF7 : ∀ x ∈ (Value.slice ad6 n6 c6).ownBlock.toList, ¬ V9 x := fun x hx_ => hVo x (Option.mem_toList.1 hx_)
         replace hT8 := hT8.sees (Sees.kp k6_ hF7)
         replace hK := hK.sees (Sees.kp k6_ hF7)
         have hVo6 : ∀ x, v186.ownBlock = some x → ¬ V9 x := fun x hx_ hv_ => hbk6.elim (fun h_ => hVo x (h_ ▸ hx_) hv_) (fun h_ => by rw [h_] at hx_; simp only [Option.some.injEq] at hx_; have := (hV x hv_).2; omega)
         replace hV := fun x hx_ => (⟨(hV x hx_).1, Nat.lt_of_lt_of_le (hV x hx_).2 k6_.size⟩ : B ≤ x ∧ x < w187.heap.size)
         replace G := G.trK k6_ (fun x hx_ => Nat.le_trans hwB (hF6 x hx_))
         replace own := own_gr own ownk (by decide) gr6
         clear hc171
         replace hc4 := k6_.heap hc4 (fun hm_ => by have h1_ := hF6 _ hm_; have := hB4; omega)
         replace hc99 := k6_.heap hc99 (fun hm_ => by have h1_ := hF6 _ hm_; omega)
         replace hBw := Nat.le_trans hBw k6_.size
         clear ownk gr6 hVo k6_ hF6 hF7 hbk6
         obtain ⟨ad7, n7, c7, rfl⟩ := own_slice own6
         refine stp (r_fieldAddr rfl ?_)
         refine stn (r_store1 (v := .slice ad7 n7 c7) rfl rfl (by rfl) hc99 (by rfl) (by rfl) ?_)
         intro w188 hc189 u190
         replace hc4 := u190.heap hc4 ne22
         replace own := own_upd own u190 (own_ne own hc99 (by decide))
         replace own6 := own_upd own6 u190 (fun he_ => by have := own_ge own6 _ he_; omega)
         replace hT8 := hT8.sees (Sees.upd u190 (fun h_ => by have := (hV _ h_).1; omega))
         replace hK := hK.sees (Sees.upd u190 (fun h_ => by have := (hV _ h_).1; omega))
         replace hV := fun x hx_ => (⟨(hV x hx_).1, Nat.lt_of_lt_of_le (hV x hx_).2 (Nat.le_of_eq u190.size.symm)⟩ : B ≤ x ∧ x < w188.heap.size)
         replace hBw : B ≤ w188.heap.size := by rw [u190.size]; exact hBw
         replace G := G.upd u190 hge21
         clear hc99
         refine WL_nil ?_
         refine W_region rfl ?_
         refine stp (r_move_int rfl ?_)
         refine stp (r_add rfl rfl ?_ ?_); constructor <;> omega
         refine stp (r_assign_int rfl ?_)
         refine WL_nil ?_
         refine ⟨_, ?_, j + 1, ad9, n9, c9, ad7, n7, c7, _, V9, rfl, fr_of ⟨rfl, rfl, rfl, rfl, rfl, congrArg (Value.int .i64) (by omega), rfl, trivial⟩, by omega, hn9, hc9, hc92, hR9, hVo6, hc4, own, hc189, hBw, own6, hV, (KidsR.append hK (by have := KidsR.cons hT8 .nil; simpa using this)), G⟩
         omega
        ·-- false
         replace hlt := of_decide_eq_false hlt
         have hj2 : j = (k / 8 % 5).toNat := by omega
         have hlk := treesP_count (treeP d) j c
         have hrk : Row (hide B w162) 5 (.slice ad6 n6 c6) (treesP (treeP d) j c).1.length kc := by rw [hlk]; exact own_hide ownk (by omega)
         have hK9 := hK.sees (Sees.more (V' := fun x => B ≤ x) _ (fun x _ hx_ => (hV x hx_).1))
         clear hK hV
         have ht : treeP (d + 1) (k :: c) = (.mk 1 0 ((List.range (k / 64).toNat).map (w4Tree k)) [] (treesP (treeP d) j c).1, (treesP (treeP d) j c).2) := by simp only [treeP]; rw [if_neg h2, if_neg (by omega), if_neg h5, if_neg h6, ← hj2]
         refine W_exit ?_
         refine W_seq (W_region rfl ?_)
         refine stp (r_loadAll rfl hc99 (by rfl) ?_)
         refine stp (r_move_slice rfl ?_)
         refine stn (r_storeAll rfl rfl hc4 (by rfl) (by rfl) (by rfl) ?_)
         intro w191 hc192 u193
         replace own := own_upd own u193 (own_ne own hc4 (by decide))
         replace hc99 := u193.heap hc99 ne22.symm
         replace hrk := hrk.sees (Sees.upd u193 (fun h_ => by omega))
         replace hK9 := hK9.sees (Sees.upd u193 (fun h_ => by omega))
         replace G := G.upd u193 hge8
         clear u193 hc4
         refine stp (r_assign_slice rfl ?_)
         refine WL_nil ?_
         refine W_ret ?_
         rw [ht]
         refine ret2 (res_all rfl hc192 (by rfl)) (res_tmp (v := .slice ad5 n5 c5) rfl) ⟨[_, _, _, _, _], _, _, _, rfl, .mk (by simp [inR]) (by simp [inR]) (own_hide_ints own hm2 (by omega)) (fun x hx_ => by obtain ⟨i, _, rfl⟩ := List.mem_map.1 hx_; exact wrap_u64R _) (Row.nil _ _) (by simp) (hrk.sees (Sees.low hwB _)) (hK9.sees (Sees.low hwB _)), hn5, hc5, hc52, hR5, G⟩
end Go.Proofs.Ytfhfecepcnapfaa.K
