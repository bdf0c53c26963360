/- Plain laws, rules and walks of this claim's functions, laid together. -/
import Derived.Test.YtkkbbhpbcfcplaaGreatX3
import Derived.Shelf.SlSortCmp.InsertionK
import Derived.Shelf.SlSortCmp.NoneTotal
set_option linter.unusedVariables false
set_option linter.unusedSimpArgs false
set_option maxRecDepth 100000
namespace Go.Proofs.YtkkbbhpbcfcplaaGreat.K
open Go Go.RowKit Go.Proofs
attribute [local irreducible] Run1 OpG WL W AO zB6
theorem zT3 (w : World) {u : Value} {A : List (List Int)} (hA : zF3 w u A) (hn : A.length ≤ 8796093022208) (hx : ∀ q ∈ A, ∀ x ∈ q, inR .u64 x) : Calls Tryz.prog 36 #[u] w (Ret fun v w' => ∃ cells, v = .tuple #[.agg cells.toArray, .int .u16 (decV A).2] ∧ NodeR (hide w.heap.size w') cells (decV A).1 ∧ Grow w w') := by
 have G := Grow.rfl' w
 refine zB8 Tryz.func36 Tryz.ntmps36 Tryz.results36 rfl rfl ?_
 refine qZ 2 ?_
 refine stp (zA8 ?_)
 intro b1 w2 hb3 hc4 g5
 refine qZ 2 ?_
 have hge6 := Nat.le_trans G.size hb3
 replace G := G.tr g5
 clear g5 hb3
 refine qZ 2 ?_
 refine stp (zG8 (v := u) rfl ?_)
 refine stp ?_
 obtain ⟨B, hB⟩ : ∃ B, B = w2.heap.size := ⟨_, rfl⟩
 have hwB : w.heap.size ≤ B := by rw [hB]; exact G.size
 have hlt_b1 : b1 < B := by rw [hB]; exact zC2 hc4
 refine zD2 rfl (qM8 _ (hA.grow G) hn hx) ?_
 rintro v_ w7 ⟨cells_, rfl, hU_, g_⟩
 rw [← hB] at hU_
 have hU := hU_
 clear hU_
 replace hc4 := g_.heap hc4
 replace G := G.tr g_
 clear g_
 obtain ⟨y08, y19, ya10, yn11, yc12, za13, zn14, zc15, ua16, un17, uc18, rfl⟩ := hU.cells
 refine qZ 3 ?_
 refine stp (zA8 ?_)
 intro b19 w20 hb21 hc22 g23
 refine stn (qS hc22 ?_)
 intro w24 hc25 u26
 have g27 := g23.upd u26 hb21
 have hge28 := Nat.le_trans G.size hb21
 have ne29 := qN hc4 hb21
 replace hc4 := g27.heap hc4
 replace hU := hU.sees (Sees.grow g27)
 replace G := G.tr g27
 clear u26 g23 hb21 hc22
 refine qZ 7 ?_
 refine stp (zI1 rfl rfl ?_)
 refine qZ 2 ?_
 refine zA2 (b := (decide (((decT A).2) ≠ 0))) rfl (fun h1 => ?_) (fun h1 => ?_)
 ·
  replace h1 := qT h1
  refine qZ 2 ?_
  refine stp (zB0 (v := .agg #[.int .i64 0, .int .i64 0, .slice none 0 0, .slice none 0 0, .slice none 0 0]) (fun w => by kernel_rfl) ?_)
  refine qZ 1 ?_
  refine stn (qS hc4 ?_)
  intro w30 hc31 u32
  replace hU := hU.sees (Sees.upd u32 (fun h_ => by omega))
  replace hc25 := u32.heap hc25 ne29.symm
  replace G := G.upd u32 hge6
  clear u32 hc4
  refine qZ 3 ?_
  have h9 : decV A = (.nil, (decT A).2) := by unfold decV; rw [if_pos h1]
  rw [h9]
  refine ret2 (zA5 rfl hc31 (by rfl)) (zA1 (v := .int .u16 ((decT A).2)) rfl) ⟨[_, _, _, _, _], rfl, NodeR.zero _, G⟩
 ·
  replace h1 := qF h1
  refine qZ 3 ?_
  refine stp (zA4 (v := .bool ((decT A).1.right 32)) rfl (qV3 _ (hU.sees (Sees.seen _ _))) ?_)
  intro w33 g34
  replace hc4 := g34.heap hc4
  replace hU := hU.sees (Sees.grow g34)
  replace hc25 := g34.heap hc25
  replace G := G.tr g34
  clear g34
  refine stp (zQ6 rfl ?_)
  refine qZ 2 ?_
  refine zA2 (b := (!((decT A).1.right 32))) rfl (fun h2 => ?_) (fun h2 => ?_)
  ·
   simp only [sb] at h2
   refine qZ 2 ?_
   refine stp (zB0 (v := .agg #[.int .i64 0, .int .i64 0, .slice none 0 0, .slice none 0 0, .slice none 0 0]) (fun w => by kernel_rfl) ?_)
   refine stn (qS hc4 ?_)
   intro w35 hc36 u37
   replace hU := hU.sees (Sees.upd u37 (fun h_ => by omega))
   replace hc25 := u37.heap hc25 ne29.symm
   replace G := G.upd u37 hge6
   clear u37 hc4
   refine qZ 3 ?_
   have h9 : decV A = (.nil, 23) := by unfold decV; rw [if_neg h1, if_pos (by simpa using h2)]
   rw [h9]
   refine ret2 (zA5 rfl hc36 (by rfl)) (zA1 (v := .int .u16 23) rfl) ⟨[_, _, _, _, _], rfl, NodeR.zero _, G⟩
  ·
   simp only [sb] at h2
   refine qZ 4 ?_
   refine stn (qS hc4 ?_)
   intro w38 hc39 u40
   replace hU := hU.sees (Sees.upd u40 (fun h_ => by omega))
   replace hc25 := u40.heap hc25 ne29.symm
   replace G := G.upd u40 hge6
   clear u40 hc4
   refine qZ 3 ?_
   have h9 : decV A = ((decT A).1, 0) := by unfold decV; rw [if_neg h1, if_neg (by simpa using h2)]
   rw [h9]
   refine ret2 (zA5 rfl hc39 (by rfl)) (zA1 (v := .int .u16 0) rfl) ⟨[_, _, _, _, _], rfl, hU.sees (Sees.low hwB _), G⟩
theorem zI9 (w : World) {u : Value} {A : List (List Int)} (hA : zF3 w u A) (hn : A.length ≤ 8796093022208) (hx : ∀ q ∈ A, ∀ x ∈ q, inR .u64 x) : zB6 Tryz.prog 16 #[u] w (.int .u16 ((decV A).2)) := by
 have G := Grow.rfl' w
 refine zA7 Tryz.func16 Tryz.ntmps16 Tryz.results16 rfl rfl ?_
 refine qZ 6 ?_
 refine stp (zG8 (v := u) rfl ?_)
 refine stp ?_
 refine zD2 rfl (zT3 _ (hA.grow G) hn hx) ?_
 rintro v_ w1 ⟨cells_, rfl, hU_, g_⟩
 have hU := hU_.sees (Sees.seen _ _)
 clear hU_
 replace G := G.tr g_
 clear g_
 obtain ⟨y02, y13, ya4, yn5, yc6, za7, zn8, zc9, ua10, un11, uc12, rfl⟩ := hU.cells
 refine qZ 3 ?_
 refine stp (zA8 ?_)
 intro b13 w14 hb15 hc16 g17
 refine stn (qS hc16 ?_)
 intro w18 hc19 u20
 have g21 := g17.upd u20 hb15
 have hge22 := Nat.le_trans G.size hb15
 replace hU := hU.grow g21
 replace G := G.tr g21
 clear u20 g17 hb15 hc16
 refine qZ 8 ?_
 refine ret1 (zA1 (v := .int .u16 ((decV A).2)) rfl) ⟨?_, G⟩
 rfl
theorem qX3 (w : World) {u : Value} {A : List (List Int)} (hA : zF3 w u A) (hn : A.length ≤ 8796093022208) (hx : ∀ q ∈ A, ∀ x ∈ q, inR .u64 x) {v : Value} {B : List (List Int)} (hB : zF3 w v B) (hnB : B.length ≤ 8796093022208) (hxB : ∀ q ∈ B, ∀ x ∈ q, inR .u64 x) : zB6 Tryz.prog 27 #[u, v] w (.bool (eqT A B)) := by
 have G := Grow.rfl' w
 refine zA7 Tryz.func27 Tryz.ntmps27 Tryz.results27 rfl rfl ?_
 refine qZ 6 ?_
 refine stp (zG8 (v := u) rfl ?_)
 refine stp ?_
 refine zD2 rfl (zT3 _ (hA.grow G) hn hx) ?_
 rintro v_ w1 ⟨cells_, rfl, hU_, g_⟩
 have hU := hU_.sees (Sees.seen _ _)
 clear hU_
 replace G := G.tr g_
 clear g_
 obtain ⟨y02, y13, ya4, yn5, yc6, za7, zn8, zc9, ua10, un11, uc12, rfl⟩ := hU.cells
 refine qZ 3 ?_
 refine stp (zA8 ?_)
 intro b13 w14 hb15 hc16 g17
 refine stn (qS hc16 ?_)
 intro w18 hc19 u20
 have g21 := g17.upd u20 hb15
 have hge22 := Nat.le_trans G.size hb15
 replace hU := hU.grow g21
 replace G := G.tr g21
 clear u20 g17 hb15 hc16
 refine qZ 4 ?_
 refine stp (zG8 (v := v) rfl ?_)
 refine stp ?_
 refine zD2 rfl (zT3 _ (hB.grow G) hnB hxB) ?_
 rintro v_ w23 ⟨cells_, rfl, hU_, g_⟩
 have hV := hU_.sees (Sees.seen _ _)
 clear hU_
 replace hU := hU.grow g_
 replace hc19 := g_.heap hc19
 replace G := G.tr g_
 clear g_
 obtain ⟨y024, y125, ya26, yn27, yc28, za29, zn30, zc31, ua32, un33, uc34, rfl⟩ := hV.cells
 refine qZ 3 ?_
 refine stp (zA8 ?_)
 intro b35 w36 hb37 hc38 g39
 refine stn (qS hc38 ?_)
 intro w40 hc41 u42
 have g43 := g39.upd u42 hb37
 have hge44 := Nat.le_trans G.size hb37
 have ne45 := qN hc19 hb37
 replace hU := hU.grow g43
 replace hc19 := g43.heap hc19
 replace hV := hV.grow g43
 replace G := G.tr g43
 clear u42 g39 hb37 hc38
 refine qZ 5 ?_
 refine stp (zD5 rfl rfl ?_)
 refine qZ 1 ?_
 refine qG 1 ?_
 refine zA3 (zB3 (s := .bool _) (v := .bool (decide (((decV B).2) = 0))) rfl (zF0 _) (fun hc47 => ?_) ?_)
 ·
  have hc47_ := qT hc47
  refine zD5 (gvt hc47) rfl ?_
  exact ⟨rfl, rfl⟩
 refine stp (zH4 rfl rfl rfl ?_)
 refine qZ 1 ?_
 refine zA3 (zB3 (s := .bool _) (v := .agg #[.int .i64 y02, .int .i64 y13, .slice ya4 yn5 yc6, .slice za7 zn8 zc9, .slice ua10 un11 uc12]) rfl (zF0 _) (fun hc48 => ?_) ?_)
 ·
  obtain ⟨hc48a, hc48b⟩ := and_t hc48
  have hc48a_ := qT hc48a
  have hc48b_ := qT hc48b
  refine zD8 rfl hc19 (by rfl) ?_
  exact ⟨rfl, rfl⟩
 refine zA3 (zB3 (s := .bool _) (v := .agg #[.int .i64 y024, .int .i64 y125, .slice ya26 yn27 yc28, .slice za29 zn30 zc31, .slice ua32 un33 uc34]) rfl (zF0 _) (fun hc49 => ?_) ?_)
 ·
  obtain ⟨hc49a, hc49b⟩ := and_t hc49
  have hc49a_ := qT hc49a
  have hc49b_ := qT hc49b
  refine zD8 rfl hc41 (by rfl) ?_
  exact ⟨rfl, rfl⟩
 refine zA3 (zZ5 (s := .bool ((decide (((decV A).2) = 0)) && (decide (((decV B).2) = 0)))) (b := true) (v := .bool ((decV A).1.beq (decV B).1)) rfl (zF0 _) (fun hc50 => ?_) ?_)
 ·
  obtain ⟨hc50a, hc50b⟩ := and_t hc50
  have hc50a_ := qT hc50a
  have hc50b_ := qT hc50b
  exact zN7 (l := ([.agg #[.int .i64 y02, .int .i64 y13, .slice ya4 yn5 yc6, .slice za7 zn8 zc9, .slice ua10 un11 uc12], .agg #[.int .i64 y024, .int .i64 y125, .slice ya26 yn27 yc28, .slice za29 zn30 zc31, .slice ua32 un33 uc34]] : List Value)) rfl (by show ([gv ((decide (((decV A).2) = 0)) && (decide (((decV B).2) = 0))) (.agg #[.int .i64 y02, .int .i64 y13, .slice ya4 yn5 yc6, .slice za7 zn8 zc9, .slice ua10 un11 uc12]), gv ((decide (((decV A).2) = 0)) && (decide (((decV B).2) = 0))) (.agg #[.int .i64 y024, .int .i64 y125, .slice ya26 yn27 yc28, .slice za29 zn30 zc31, .slice ua32 un33 uc34])] : List Value) = _; rw [gvt hc50, gvt hc50]) (yF1 _ _ hU hV (Nat.le_refl _)) (fun w2_ g2_ => ⟨rfl, g2_⟩)
 intro w51 g52
 replace hU := hU.grow g52
 replace hc19 := g52.heap hc19
 replace hV := hV.grow g52
 replace hc41 := g52.heap hc41
 replace G := G.tr g52
 clear g52
 refine stp (zH4 rfl rfl rfl ?_)
 refine qZ 3 ?_
 refine ret1 (zA1 (v := .bool (((decide (((decV A).2) = 0)) && (decide (((decV B).2) = 0))) && ((decV A).1.beq (decV B).1))) rfl) ⟨?_, G⟩
 unfold eqT; rw [Bool.and_assoc]
end Go.Proofs.YtkkbbhpbcfcplaaGreat.K
namespace Go.Proofs.YtkkbbhpbcfcplaaGreat.K
open Go Go.RowKit
def viaS (P : Program) (t : TypeId) (name : String) : Option (TypeId × Nat) :=
  match P.info? t with
  | some i => (match i.methods.find? (·.name == name) with
    | some m => (match m.path.toList, m.func with
      | [s], none => if s.deref then some (s.struct, s.index) else none
      | _, _ => none)
    | none => none)
  | none => none
class ViaI (P : Program) (t : TypeId) (name : String) (S : outParam TypeId) (j : outParam Nat) : Prop where
  h : viaS P t name = some (S, j)
class MethN (P : Program) (t : TypeId) (name : String) (f : FuncId) : Prop where
  m : ∀ (v : Value) (w : World), (method (P.types.size + 99) t v name).run P w = .ok (f, v) w
  c : ∀ (args : Array Value) (w : World), (callFunc f args).run P w = .ok (.enter f args) w
theorem yX0 {P : Program} {w : World} {t t' S ft : TypeId} {name : String} {j off n b o : Nat} {f : FuncId} {cs : Array Value} {T : TypeId} {fr : Nat × Nat} {v' : Value} {args : Array Value}
    [hv : ViaI P t name S j] [hfi : FldI P S j off] [hft : FtI P S j ft] [hti : TyI P ft n false] (hm : MethN P t' name f)
    (hb : w.heap[b]? = some (.cells cs T fr)) (hc : cs[o + off]? = some (.iface t' v')) :
    (callMethod (.iface t (.pointer (some ⟨b, o, none⟩))) name args).run P w = .ok (.enter f (#[v'] ++ args)) w := by
  have hl : (loadVar ft ⟨b, o + off, none⟩).run P w = .ok (.iface t' v') w := by
    have ht := hti.h
    unfold tyS at ht
    split at ht
    · rename_i i dd hi hu
      simp only [Option.some.injEq, Prod.mk.injEq] at ht
      have hagg : (isAgg ft).run P w = .ok false w := by
        simp only [isAgg, underlying, program, Sem.run_bind, Sem.run, hu, Result.andThen_ok]
        cases dd <;> first | rfl | simp at ht
      simp only [loadVar, Sem.run_bind, hagg, Result.andThen_ok]
      simp [zT9 hb, hc]
    · cases ht
  have hs := hv.h
  unfold viaS at hs
  split at hs
  · rename_i i hi
    split at hs
    · rename_i m hmt
      split at hs
      · rename_i s hp hf
        split at hs
        · rename_i hd
          simp only [Option.some.injEq, Prod.mk.injEq] at hs
          obtain ⟨rfl, rfl⟩ := hs
          have hff := hfi.h
          have hft2 := hft.h
          unfold fldS at hff
          unfold ftS at hft2
          have hfol : (follow m.path.toList t (.val (.pointer (some ⟨b, o, none⟩)))).run P w = .ok (ft, .var ⟨b, o + off, none⟩) w := by
            rw [hp]
            split at hff
            · rename_i fs hu
              split at hff
              · rename_i fl hfl
                split at hff
                · rename_i i2 hi2
                  split at hff
                  · cases hff
                  · rename_i hz
                    simp only [Option.some.injEq] at hff
                    simp only [hu, hfl, Option.map_some, Option.some.injEq] at hft2
                    subst hff
                    have h1 : (underlying s.struct).run P w = .ok (.struct fs) w := by simp only [underlying, program, Sem.run_bind, Sem.run, hu, Result.andThen_ok, Sem.run_pure]
                    have h2 : (fieldPlace ⟨b, o, none⟩ fl).run P w = .ok ⟨b, o + fl.offset, none⟩ w := by
                      simp only [fieldPlace, sizeOf, typeInfo, program, Sem.run_bind, Sem.run, hi2, Result.andThen_ok, Sem.run_pure, hz, if_false, add_lit]
                    simp only [follow, hd, if_true, Place.get, asAddr, Sem.run_bind, Sem.run_pure, Result.andThen_ok, h1, hfl, h2, hft2]
                · cases hff
              · cases hff
            · cases hff
          have hin : (typeInfo t).run P w = .ok i w := by simp only [typeInfo, program, Sem.run_bind, Sem.run, hi, Result.andThen_ok, Sem.run_pure]
          have hme : (method (P.types.size + 99 + 1) t (.pointer (some ⟨b, o, none⟩)) name).run P w = .ok (f, v') w := by
            have hm' := hm.m v' w
            generalize P.types.size + 99 = k at hm' ⊢
            simp only [method, Sem.run_bind, hin, Result.andThen_ok, hmt, hfol, hf, Place.get, hl]
            exact hm'
          show ((method (P.types.size + 99 + 1) t (.pointer (some ⟨b, o, none⟩)) name >>= fun x => callFunc x.1 (#[x.2] ++ args)) : Sem Next).run P w = _
          rw [Sem.run_bind, hme, Result.andThen_ok]
          exact hm.c _ w
        · cases hs
      · cases hs
    · cases hs
  · cases hs
structure NkP (F : List Nat) (T : TypeId) (base : Nat) (w w' : World) : Prop where
  os : w'.os = w.os
  tape : w'.tape = w.tape
  output : w'.output = w.output
  size : w.heap.size ≤ w'.heap.size
  old : ∀ k : Nat, k < w.heap.size → k ∉ F → (k < base ∨ ¬ ∃ cs, w.heap[k]? = some (.cells cs T (0, 0))) → w'.heap[k]? = w.heap[k]?
section
variable {F : List Nat} {T : TypeId} {base : Nat} {a b c w w' w0 : World}
theorem NkP.refl (F : List Nat) (T : TypeId) (base : Nat) (w : World) : NkP F T base w w := ⟨rfl, rfl, rfl, Nat.le_refl _, fun _ _ _ _ => rfl⟩
theorem NkP.tr (h : NkP F T base a b) (k : NkP F T base b c) : NkP F T base a c :=
  ⟨k.os.trans h.os, k.tape.trans h.tape, k.output.trans h.output, Nat.le_trans h.size k.size, fun i hi hF hc => by
    have h1 := h.old i hi hF hc
    rw [k.old i (Nat.lt_of_lt_of_le hi h.size) hF (by rw [h1]; exact hc), h1]⟩
theorem NkP.of_grow (g : Grow a b) : NkP F T base a b := ⟨g.os, g.tape, g.output, g.size, fun k hk _ _ => g.block k hk⟩
theorem NkP.mono {F2 : List Nat} (h : NkP F T base a b) (hs : ∀ x ∈ F, x ∈ F2) : NkP F2 T base a b := ⟨h.os, h.tape, h.output, h.size, fun k hk hF hc => h.old k hk (fun hm => hF (hs k hm)) hc⟩
theorem NkP.of_upd {b : Nat} (u : Upd b w w') (hb : b ∈ F) : NkP F T base w w' := ⟨u.os, u.tape, u.output, by rw [u.size]; exact Nat.le_refl _, fun k hk hF _ => u.other k (fun he => hF (he ▸ hb))⟩
theorem NkP.upd_new {b : Nat} (h : NkP F T base a w) (u : Upd b w w') (hb : a.heap.size ≤ b) : NkP F T base a w' :=
  ⟨u.os.trans h.os, u.tape.trans h.tape, u.output.trans h.output, by rw [u.size]; exact h.size, fun k hk hF hc => by rw [u.other k (fun he => by omega), h.old k hk hF hc]⟩
theorem NkP.new_kp {G : List Nat} (h : NkP F T base a w) (u : Kp G w w') (hb : ∀ x ∈ G, a.heap.size ≤ x ∨ x ∈ F) : NkP F T base a w' :=
  ⟨u.os.trans h.os, u.tape.trans h.tape, u.output.trans h.output, Nat.le_trans h.size u.size, fun k hk hF hc => by
    rw [u.block k (Nat.lt_of_lt_of_le hk h.size) (fun hm => by rcases hb k hm with h1 | h1; omega; exact hF h1), h.old k hk hF hc]⟩
theorem NkP.new_nk {G : List Nat} (h : NkP F T base a w) (u : NkP G T base w w') (hb : ∀ x ∈ G, a.heap.size ≤ x ∨ x ∈ F) : NkP F T base a w' :=
  ⟨u.os.trans h.os, u.tape.trans h.tape, u.output.trans h.output, Nat.le_trans h.size u.size, fun k hk hF hc => by
    have h1 := h.old k hk hF hc
    rw [u.old k (Nat.lt_of_lt_of_le hk h.size) (fun hm => by rcases hb k hm with h2 | h2; omega; exact hF h2) (by rw [h1]; exact hc), h1]⟩
theorem NkP.heap {k : Nat} {cs : Array Value} {T2 : TypeId} {fr : Nat × Nat} (h : NkP F T base w w') (hk : w.heap[k]? = some (.cells cs T2 fr)) (hF : k ∉ F) (hT : T2 ≠ T) : w'.heap[k]? = some (.cells cs T2 fr) := by
  rw [h.old k (zC2 hk) hF (.inr fun ⟨cs2, h2⟩ => by rw [hk] at h2; simp only [Option.some.injEq, Obj.cells.injEq] at h2; exact hT h2.2.1)]
  exact hk
theorem NkP.to_grow (k : NkP F T base w w') (g : Grow w0 w) (hF : ∀ x ∈ F, w0.heap.size ≤ x) (hb : w0.heap.size ≤ base) : Grow w0 w' :=
  ⟨k.os.trans g.os, k.tape.trans g.tape, k.output.trans g.output, Nat.le_trans g.size k.size, fun i hi => by
    rw [k.old i (Nat.lt_of_lt_of_le hi g.size) (fun hm => by have := hF i hm; omega) (.inl (by omega)), g.block i hi]⟩
theorem NkP.of_grown {sz n : Nat} {v : Value} {xs : List Value} (own : w.ownsRow base T sz v n xs) (gr : w.grownBy w' v.ownBlock) : NkP F T base w w' :=
  ⟨gr.os, gr.tape, gr.output, gr.size, fun k hk _ hc => gr.block k hk (fun he => by
    rcases own.2 with ⟨rfl, _⟩ | ⟨q, cap, cur, rfl, hq, hg, _⟩
    · simp [Value.ownBlock] at he
    · simp only [Value.ownBlock, Option.some.injEq] at he
      subst he
      rcases hc with hc | hc
      · omega
      · exact hc ⟨cur, hg⟩)⟩
end
def nkR (F : List Nat) (T : TypeId) (base : Nat) : KpR := ⟨NkP F T base, NkP.refl F T base, NkP.tr, NkP.of_grow⟩
theorem zP2 {w : World} {k b : Nat} {cs cs2 : Array Value} {T T2 : TypeId} {fr fr2 : Nat × Nat} (h : w.heap[k]? = some (.cells cs T fr)) (h2 : w.heap[b]? = some (.cells cs2 T2 fr2)) (hT : T ≠ T2) : k ≠ b := by
  intro he; subst he; rw [h] at h2; simp only [Option.some.injEq, Obj.cells.injEq] at h2; exact hT h2.2.1
def NtS (TS TN TE : TypeId) (base : Nat) (w : World) (u : Value) (bn : Nat) (L : List Spn) : Prop :=
  ∃ ad c, w.heap[bn]? = some (.cells #[.iface TS (.agg #[u]), .slice ad L.length c] TN (0, 0)) ∧ w.ownsRow base TE 2 (.slice ad L.length c) L.length (encL L)
section
variable {TS TN TE : TypeId} {base : Nat} {w w' : World} {u : Value} {bn : Nat} {L : List Spn}
theorem NtS.grow (h : NtS TS TN TE base w u bn L) (g : Grow w w') : NtS TS TN TE base w' u bn L := by
  obtain ⟨ad, c, h1, h2⟩ := h
  exact ⟨ad, c, g.heap h1, zB7 h2 g⟩
theorem NtS.upd {b : Nat} {cs : Array Value} {T : TypeId} {fr : Nat × Nat} (h : NtS TS TN TE base w u bn L) (up : Upd b w w') (hb : w.heap[b]? = some (.cells cs T fr)) (h1 : T ≠ TN) (h2 : T ≠ TE) : NtS TS TN TE base w' u bn L := by
  obtain ⟨ad, c, g1, g2⟩ := h
  exact ⟨ad, c, up.heap g1 (zP2 g1 hb (Ne.symm h1)), zF9 g2 up (zE6 g2 hb (Ne.symm h2))⟩
theorem yX1 {b sz n : Nat} {T : TypeId} {cs : Array Value} {T2 : TypeId} {fr : Nat × Nat} {v : Value} {xs : List Value} (h : w.ownsRow base T sz v n xs) (k : Kp [b] w w') (hb : w.heap[b]? = some (.cells cs T2 fr)) (hT : T2 ≠ T) : w'.ownsRow base T sz v n xs := by
  refine ⟨h.1, ?_⟩
  have hne := zE6 h hb (Ne.symm hT)
  rcases h.2 with hn | ⟨q, cap, cur, rfl, hq, hg, rest⟩
  · exact .inl hn
  · exact .inr ⟨q, cap, cur, rfl, hq, k.heap hg (fun hm => hne (by simp only [List.mem_singleton] at hm; rw [hm]; rfl)), rest⟩
theorem NtS.kp {b : Nat} {cs : Array Value} {T : TypeId} {fr : Nat × Nat} (h : NtS TS TN TE base w u bn L) (k : Kp [b] w w') (hb : w.heap[b]? = some (.cells cs T fr)) (h1 : T ≠ TN) (h2 : T ≠ TE) : NtS TS TN TE base w' u bn L := by
  obtain ⟨ad, c, g1, g2⟩ := h
  exact ⟨ad, c, k.heap g1 (fun hm => by simp only [List.mem_singleton] at hm; exact zP2 g1 hb (Ne.symm h1) hm), yX1 g2 k hb h2⟩
theorem NkP.hpN {k : Nat} {cs : Array Value} {T : TypeId} {fr : Nat × Nat} (r : NkP [bn] TE base w w') (st : NtS TS TN TE base w u bn L) (h : w.heap[k]? = some (.cells cs T fr)) (h1 : T ≠ TN) (h2 : T ≠ TE) : w'.heap[k]? = some (.cells cs T fr) := by
  obtain ⟨ad, c, g1, -⟩ := st
  exact r.heap h (fun hm => by simp only [List.mem_singleton] at hm; exact zP2 h g1 h1 hm) h2
theorem NkP.hpN2 {k b : Nat} {cs cb : Array Value} {T TB : TypeId} {fr fb : Nat × Nat} (r : NkP [bn, b] TE base w w') (st : NtS TS TN TE base w u bn L) (hb : w.heap[b]? = some (.cells cb TB fb)) (h : w.heap[k]? = some (.cells cs T fr)) (h1 : T ≠ TN) (h2 : T ≠ TE) (h3 : T ≠ TB) : w'.heap[k]? = some (.cells cs T fr) := by
  obtain ⟨ad, c, g1, -⟩ := st
  exact r.heap h (fun hm => by
    simp only [List.mem_cons, List.not_mem_nil, or_false] at hm
    rcases hm with hm | hm
    · exact zP2 h g1 h1 hm
    · exact zP2 h hb h3 hm) h2
end
section
variable {P : Program} {ops : Array Oper} {e : Env} {w : World} {K : Value → World → Prop} {d : Option Nat} {ty : TypeId} {pos : String} {af : Array Edge} {g : Option (Nat × Bool)} {x : Operand}
theorem jB2 {name : String} {args : Array Operand} {at_ : Array TypeId} {f : FuncId} {v' : Value} {F : Value → World → Prop} {t t' S ft : TypeId} {j off n b : Nat} {cs : Array Value} {T : TypeId} {fr : Nat × Nat}
    [hv : ViaI P t name S j] [hfi : FldI P S j off] [hft : FtI P S j ft] [hti : TyI P ft n false] (hm : MethN P t' name f) (hx : ev e x = .iface t (.pointer (some ⟨b, 0, none⟩)))
    (hb : w.heap[b]? = some (.cells cs T fr)) (hc0 : cs[off]? = some (.iface t' v'))
    (hc : Calls P f (v' :: args.toList.map (ev e)).toArray w (Ret F)) (h : ∀ v w', F v w' → K v w') : Run1 P ⟨d, .call ⟨.invoke x name, args, at_⟩, ty, pos, af, g⟩ e w K := by
  have ha : ((#[ev e x] ++ args.map (ev e)).extract 1 (#[ev e x] ++ args.map (ev e)).size) = args.map (ev e) := by
    apply Array.ext'
    simp
    exact List.take_of_length_le (by simp)
  have h0 : (#[ev e x] ++ args.map (ev e))[0]? = some (.iface t (.pointer (some ⟨b, 0, none⟩))) := by rw [hx, Array.getElem?_append_left (by simp)]; rfl
  have hbb : #[v'] ++ args.map (ev e) = (v' :: args.toList.map (ev e)).toArray := by
    apply Array.ext'
    simp
  have hr : (execOp (ev e) ⟨d, .call ⟨.invoke x name, args, at_⟩, ty, pos, af, g⟩).run P w = .ok (.enter f (v' :: args.toList.map (ev e)).toArray) w := by
    simp only [execOp, resolve, Sem.run_bind, Sem.run_pure, Result.andThen_ok, invoke, h0, ha]
    rw [yX0 (o := 0) hm hb (by rw [Nat.zero_add]; exact hc0), hbb]
  unfold Run1
  rw [hr]
  exact hc.mono fun r w' ⟨v, hv, hF⟩ => ⟨v, hv, h v w' hF⟩
variable {y z : Operand}
theorem zB6.c {f : FuncId} {a : Array Value} {v : Value} (h : zB6 P f a w v) : Calls P f a w (Ret fun r w' => r = v ∧ Grow w w') := h
theorem zN1 {name : String} {at_ : Array TypeId} {f : FuncId} {v a b : Value} {F : Value → World → Prop} {T : TypeId} (hm : MethI P T name f) (hx : ev e x = .iface T v) (hy : ev e y = a) (hz : ev e z = b)
    (hc : Calls P f #[v, a, b] w (Ret F)) (h : ∀ v w', F v w' → K v w') : Run1 P ⟨d, .call ⟨.invoke x name, #[y, z], at_⟩, ty, pos, af, g⟩ e w K := by
  refine qF1 hm hx ?_ h
  rw [show ((v :: (#[y, z] : Array Operand).toList.map (ev e)).toArray) = #[v, a, b] from by simp [hy, hz]]
  exact hc
theorem yZ7 {name : String} {at_ : Array TypeId} {f : FuncId} {v' : Value} {F : Value → World → Prop} {t t' S ft : TypeId} {j off n b : Nat} {cs : Array Value} {T : TypeId} {fr : Nat × Nat}
    [hv : ViaI P t name S j] [hfi : FldI P S j off] [hft : FtI P S j ft] [hti : TyI P ft n false] (hm : MethN P t' name f) (hx : ev e x = .iface t (.pointer (some ⟨b, 0, none⟩)))
    (hb : w.heap[b]? = some (.cells cs T fr)) (hc0 : cs[off]? = some (.iface t' v'))
    (hc : Calls P f #[v'] w (Ret F)) (h : ∀ v w', F v w' → K v w') : Run1 P ⟨d, .call ⟨.invoke x name, #[], at_⟩, ty, pos, af, g⟩ e w K :=
  jB2 hm hx hb hc0 hc h
end
/-! ### an arena as the source -/
section
variable {A : List (List Int)} {s : Src}
theorem num9 (hs : s = zB1 A) (hx : AllU A) (seg a : Int) : 0 ≤ (s.word seg a).1 ∧ (s.word seg a).1 ≤ 18446744073709551615 ∧ 0 ≤ (s.word seg a).2 ∧ (s.word seg a).2 ≤ 65535 := by subst hs; exact zZ8 hx seg a
theorem ptr9 (hs : s = zB1 A) (hx : AllU A) (seg a : Int) : PtR (ptrS s seg a).1 := by
  obtain ⟨h1, h2, -, -⟩ := num9 hs hx seg a
  unfold ptrS
  split
  · exact qG8
  · exact zJ3 _ h1 h2
theorem fol9 (hs : s = zB1 A) (hr : zD9 A = true) (hx : AllU A) (seg a : Int) : ObR (zA0 s seg a).1 := by
  obtain ⟨h1, h2⟩ := zO2 hr
  subst hs; exact yM9 h1 h2 hx seg a
theorem jB3 (hs : s = zB1 A) (hr : zD9 A = true) : ∀ i, i < s.sizes.length → 0 ≤ s.sizes.getD i 0 ∧ s.sizes.getD i 0 ≤ 140737488355328 := by
  obtain ⟨-, h2⟩ := zO2 hr
  subst hs
  intro i _
  have h3 : (zB1 A).sizes.getD i 0 = (len2 A i : Int) := zO9 A i
  have := h2 i
  omega
theorem yT3 (hs : s = zB1 A) : s.sizes = zC0 A := by subst hs; rfl
theorem yZ8 (hs : s = zB1 A) (hr : zD9 A = true) {seg a : Int} (h : (ptrS s seg a).2 = 0) : 0 ≤ seg ∧ seg ≤ 16 ∧ 0 ≤ a ∧ a ≤ 4096 := by
  obtain ⟨h1, h2⟩ := zO2 hr
  subst hs
  have h3 : ((zB1 A).word seg a).2 = 0 := by
    unfold ptrS at h
    by_cases h0 : ((zB1 A).word seg a).2 ≠ 0
    · rw [if_pos h0] at h; exact absurd h h0
    · simpa using h0
  have h4 : (zG0 A seg a).2 = 0 := h3
  unfold zG0 at h4
  split at h4
  · rename_i hc; have := h2 seg.toNat; omega
  · exact absurd h4 (by decide)
theorem pw9 (hs : s = zB1 A) {seg a : Int} (h : (ptrS s seg a).2 = 0) : (ptrS s seg a).1 = pwT A seg a := by
  subst hs
  unfold ptrS at h ⊢
  by_cases h0 : ((zB1 A).word seg a).2 ≠ 0
  · rw [if_pos h0] at h; exact absurd h h0
  · rw [if_neg h0]; rfl
theorem yN0 (hs : s = zB1 A) {seg a : Int} (h : (ptrS s seg a).2 = 0) (hk : (ptrS s seg a).1.kind ≠ 3) (L : List Spn) : zG1 A L seg a = zK7 A L seg a := by
  unfold zG1; rw [← pw9 hs h, if_pos hk]
theorem yX2 (hs : s = zB1 A) {seg a : Int} (h : (ptrS s seg a).2 = 0) (hk : (ptrS s seg a).1.kind = 3) (hd : (ptrS s seg a).1.dbl = true) (L : List Spn) : zG1 A L seg a = zK7 A (zK7 A (zK7 A L seg a) (ptrS s seg a).1.seg (ptrS s seg a).1.off) (ptrS s seg a).1.seg ((ptrS s seg a).1.off + 1) := by
  unfold zG1; rw [← pw9 hs h, if_neg (by omega), if_pos hd]
theorem yR7 (hs : s = zB1 A) {seg a : Int} (h : (ptrS s seg a).2 = 0) (hk : (ptrS s seg a).1.kind = 3) (hd : ¬ (ptrS s seg a).1.dbl = true) (L : List Spn) : zG1 A L seg a = zK7 A (zK7 A L seg a) (ptrS s seg a).1.seg (ptrS s seg a).1.off := by
  unfold zG1; rw [← pw9 hs h, if_neg (by omega), if_neg hd]
def yF8 (A : List (List Int)) (L : List Spn) (o : Ob) (k : Int) : List Spn := if o.kind = 0 ∨ (o.kind = 1 ∧ k ≥ o.ptrs) then L else zG1 A L o.seg (atT o k)
theorem yR8 (hs : s = zB1 A) {o : Ob} {k : Int} (h : (zH6 s o k).2 = 0) (ks : List Int) (L : List Spn) : goT A (k :: ks) L o = goT A ks (yF8 A L o k) (zH6 s o k).1 := by
  subst hs
  rw [goT]
  unfold yF8
  by_cases h1 : o.kind = 0 ∨ (o.kind = 1 ∧ k ≥ o.ptrs)
  · rw [if_pos h1, if_pos h1]
    unfold zH6; rw [if_pos h1]
  · rw [if_neg h1, if_neg h1]
    unfold zH6 at h ⊢
    rw [if_neg h1] at h ⊢
    by_cases h2 : o.kind = 1
    · rw [if_pos h2] at h ⊢
      unfold atT; rw [if_pos h2]
    · rw [if_neg h2] at h ⊢
      by_cases h3 : o.size ≠ 6
      · rw [if_pos h3] at h; simp at h
      · rw [if_neg h3] at h ⊢
        by_cases h4 : k ≥ o.count
        · rw [if_pos h4] at h; simp at h
        · rw [if_neg h4]; unfold atT; rw [if_neg h2]
end
end Go.Proofs.YtkkbbhpbcfcplaaGreat.K
namespace Go.Proofs.YtkkbbhpbcfcplaaGreat.K
open Go Go.RowKit Go.Proofs
attribute [local irreducible] Run1 OpG WL W AO zB6
theorem qX4 (w : World) {ad : Option Addr} {c : Nat} {sz : List Int} (R : RowAt w 1 ad sz.length (sz.map (.int .i64))) (hr : ∀ x ∈ sz, inR .i64 x) : zB6 Tryz.prog 50 #[.slice ad sz.length c] w (.bool (zL5 sz)) := by
 have lR := R.lim
 have hg : ∀ i, inR .i64 (sz.getD i 0) := fun i => by rw [List.getD_eq_getElem?_getD]; cases hi_ : sz[i]? with | none => simp [inR] | some x_ => exact hr x_ (List.mem_of_getElem? hi_)
 have hg0 := hg 0
 simp only [inR] at hg0
 have G := Grow.rfl' w
 refine zA7 Tryz.func50 Tryz.ntmps50 Tryz.results50 rfl rfl ?_
 refine qZ 9 ?_
 refine stp (zG5 rfl rfl ?_)
 refine qZ 1 ?_
 refine qG 2 ?_
 refine zA3 (zB3 (s := .bool _) (v := .bool (decide ((sz.length : Int) > 16))) rfl (zE2 _) (fun hc3 => ?_) ?_)
 ·
  have hc3_ := hc3
  try simp only [sb] at hc3_
  refine zQ5 (gvt hc3) rfl ?_
  exact ⟨rfl, rfl⟩
 refine stp (zI0 rfl rfl rfl ?_)
 refine qZ 1 ?_
 refine qG 1 ?_
 refine zA3 (zB3 (s := .bool _) (v := .pointer (some (eadr ad ((0 : Int).toNat * 1)))) rfl (zE2 _) (fun hc5 => ?_) ?_)
 ·
  have hc5_ := hc5
  try simp only [sb] at hc5_
  refine zH1 (R.grow G) (gvt hc5) rfl ?_ ?_ ?_; omega; omega
  exact ⟨rfl, rfl⟩
 refine zA3 (zB3 (s := .bool _) (v := .int .i64 (sz.getD 0 0)) rfl (zE2 _) (fun hc6 => ?_) ?_)
 ·
  have hc6_ := hc6
  try simp only [sb] at hc6_
  refine zE8 (v := .int .i64 (sz.getD 0 0)) (m := 0) (R.grow G) (gvt hc6) (show _ from zM6 (j := 0) 0 (by omega)) ?_
  exact ⟨rfl, rfl⟩
 refine zA3 (zB3 (s := .bool _) (v := .bool (decide ((sz.getD 0 0) < 1))) rfl (zE2 _) (fun hc7 => ?_) ?_)
 ·
  have hc7_ := hc7
  try simp only [sb] at hc7_
  refine zG5 (gvt hc7) rfl ?_
  exact ⟨rfl, rfl⟩
 refine stp (zI0 rfl rfl rfl ?_)
 refine zA6 ?_
 refine zA2 (b := (((decide ((sz.length : Int) < 1)) || (decide ((sz.length : Int) > 16))) || (decide ((sz.getD 0 0) < 1)))) rfl (fun h1 => ?_) (fun h1 => ?_)
 ·
  simp only [sb] at h1
  refine qZ 5 ?_
  have h9 : zL5 sz = false := yL5 (by omega)
  refine ret1 (zA1 (v := .bool false) rfl) ⟨?_, G⟩
  rw [h9]
 ·
  simp only [sb] at h1
  have h1' : 1 ≤ sz.length ∧ sz.length ≤ 16 ∧ 1 ≤ sz.getD 0 0 := by omega
  clear h1
  refine qZ 13 ?_
  refine zF4 (fun m_ e_ w_ => ∃ (k : Nat), m_ = sz.length - k ∧ Fr [(22, .slice ad sz.length c), (23, .int .i64 (sz.length : Int)), (3, .int .i64 (sumL (sz.take k))), (24, .int .i64 (k : Int))] e_ ∧ (k ≤ sz.length) ∧ (0 ≤ sumL (sz.take k) ∧ sumL (sz.take k) ≤ 4096) ∧ (∀ j, j < k → 0 ≤ sz.getD j 0) ∧ Grow w w_) _ ⟨0, rfl, zD3 ⟨rfl, rfl, rfl, rfl, trivial⟩, by omega, by simp [sumL], fun j hj => by omega, G⟩ ?_
  clear G
  rintro m_ e_ w8 ⟨k, rfl, ⟨e9, rfl⟩, hk, htk, hnn, G⟩
  have hgk := hg k
  simp only [inR] at hgk
  refine qZ 2 ?_
  refine stp (zG5 rfl rfl ?_)
  refine qZ 2 ?_
  refine zA2 (b := (decide ((k : Int) < (sz.length : Int)))) rfl (fun hlt => ?_) (fun hlt => ?_)
  ·
   replace hlt := qT hlt
   have hi : k < sz.length := by omega
   have ht := zR8 hi
   have hadd : zJ2 (sumL (sz.take k)) (sz.getD k 0) 4096 = decide (0 ≤ sz.getD k 0 ∧ sumL (sz.take k) + sz.getD k 0 ≤ 4096) := by unfold zJ2; exact decide_eq_decide.2 (by omega)
   refine qZ 5 ?_
   refine stp (zF1 (R.grow G) rfl rfl ?_ ?_); omega
   refine stp (zE8 (v := .int .i64 (sz.getD k 0)) (m := 0) (R.grow G) rfl (zM6 0 (by omega)) ?_)
   refine qZ 6 ?_
   refine stp (zA4 (v := .tuple #[.int .i64 (if zJ2 (sumL (sz.take k)) (sz.getD k 0) 4096 then sumL (sz.take k) + sz.getD k 0 else 0), .bool (zJ2 (sumL (sz.take k)) (sz.getD k 0) 4096)]) rfl (qC3 _ (a := sumL (sz.take k)) (b := sz.getD k 0) (m := 4096) (by simp only [inR]; omega) (hg k) (by simp only [inR]; omega)) ?_)
   intro w10 g11
   replace G := G.tr g11
   clear g11
   refine qZ 10 ?_
   refine stp (zQ6 rfl ?_)
   refine zA6 ?_
   refine zA2 (b := (!(zJ2 (sumL (sz.take k)) (sz.getD k 0) 4096))) rfl (fun h3 => ?_) (fun h3 => ?_)
   ·
    simp only [sb] at h3
    rw [hadd] at h3
    refine qZ 5 ?_
    have h9 : zL5 sz = false := yW2 hi (by simpa using h3)
    refine ret1 (zA1 (v := .bool false) rfl) ⟨?_, G⟩
    rw [h9]
   ·
    simp only [sb] at h3
    rw [hadd] at h3
    have h3' : 0 ≤ sz.getD k 0 ∧ sumL (sz.take k) + sz.getD k 0 ≤ 4096 := by simpa using h3
    refine qZ 6 ?_
    refine stp (zB9 rfl rfl ?_ ?_); constructor <;> omega
    refine qZ 2 ?_
    refine ⟨_, ?_, k + 1, rfl, zD3 ⟨rfl, rfl, congrArg (Value.int .i64) (by rw [hadd, decide_eq_true h3', if_pos rfl]; omega), rfl, trivial⟩, by omega, by omega, fun j hj => by rcases Nat.lt_succ_iff_lt_or_eq.1 hj with h_ | h_; exact hnn j h_; (subst h_; exact h3'.1), G⟩
    omega
  ·
   replace hlt := qF hlt
   have hk2 : k = sz.length := by omega
   subst hk2
   refine qZ 6 ?_
   have h9 : zL5 sz = true := yQ6 h1'.1 h1'.2.1 h1'.2.2 hnn htk.2
   refine ret1 (zA1 (v := .bool true) rfl) ⟨?_, G⟩
   rw [h9]
theorem yF9 (w : World) {a m : Int} (hm : 0 ≤ m ∧ m ≤ 140737488355328) : zB6 Tryz.prog 87 #[.int .i64 a, .int .i64 1, .int .i64 m] w (.tuple #[.int .i64 (if zJ2 a 1 m then a + 1 else 0), .bool (zJ2 a 1 m)]) := by
 have G := Grow.rfl' w
 refine zA7 Tryz.func87 Tryz.ntmps87 Tryz.results87 rfl rfl ?_
 refine qZ 10 ?_
 refine stp (qL8 rfl rfl rfl ?_)
 refine stp (zG5 rfl rfl ?_)
 refine qZ 1 ?_
 refine qG 2 ?_
 refine zA3 (zB3 (s := .bool _) (v := .bool (decide (a > m))) rfl (zE2 _) (fun hc3 => ?_) ?_)
 ·
  have hc3_ := hc3
  try simp only [sb] at hc3_
  refine zQ5 (gvt hc3) (gvt hc3) ?_
  exact ⟨rfl, rfl⟩
 refine stp (zI0 rfl rfl rfl ?_)
 refine qZ 1 ?_
 refine qG 3 ?_
 refine zA3 (zB3 (s := .bool _) (v := .int .i64 (m - a)) rfl (zE2 _) (fun hc7 => ?_) ?_)
 ·
  have hc7_ := hc7
  try simp only [sb] at hc7_
  refine zO6 (gvt hc7) (gvt hc7) ?_ ?_; constructor <;> omega
  exact ⟨rfl, rfl⟩
 refine zA3 (zB3 (s := .bool _) (v := .bool (decide (1 > (m - a)))) rfl (zE2 _) (fun hc8 => ?_) ?_)
 ·
  have hc8_ := hc8
  try simp only [sb] at hc8_
  refine zQ5 (gvt hc8) (gvt hc8) ?_
  exact ⟨rfl, rfl⟩
 refine stp (zI0 rfl rfl rfl ?_)
 refine zA6 ?_
 refine zA2 (b := (((decide ((if 1 < a then 1 else a) < 0)) || (decide (a > m))) || (decide (1 > (m - a))))) rfl (fun h1 => ?_) (fun h1 => ?_)
 ·
  simp only [sb] at h1
  refine qZ 6 ?_
  refine ret2 (zA1 (v := .int .i64 0) rfl) (zA1 (v := .bool false) rfl) ⟨?_, G⟩
  have h9 : zJ2 a 1 m = false := by simp only [zJ2]; exact decide_eq_false (by omega)
  rw [h9]; rfl
 ·
  simp only [sb] at h1
  have h9 : zJ2 a 1 m = true := by simp only [zJ2]; exact decide_eq_true (by omega)
  refine qZ 5 ?_
  refine stp (zB9 rfl rfl ?_ ?_); constructor <;> omega
  refine qZ 4 ?_
  refine ret2 (zA1 (v := .int .i64 (a + 1)) rfl) (zA1 (v := .bool true) rfl) ⟨?_, G⟩
  rw [h9]; rfl
theorem qN3 (w : World) {ad : Option Addr} {c : Nat} {sz : List Int} {seg a : Int} (R : RowAt w 1 ad sz.length (sz.map (.int .i64))) (hs : ∀ i, i < sz.length → 0 ≤ sz.getD i 0 ∧ sz.getD i 0 ≤ 140737488355328) : zB6 Tryz.prog 119 #[.slice ad sz.length c, .int .i64 seg, .int .i64 a, .int .i64 1] w (.bool (zE5 sz seg a 1)) := by
 have ll := R.lim
 have G := Grow.rfl' w
 refine zA7 Tryz.func119 Tryz.ntmps119 Tryz.results119 rfl rfl ?_
 refine qZ 8 ?_
 refine stp (zG5 rfl rfl ?_)
 refine qZ 1 ?_
 refine qG 3 ?_
 refine zA3 (zB3 (s := .bool _) (v := .bool (decide (seg ≥ (sz.length : Int)))) rfl (zE2 _) (fun hc4 => ?_) ?_)
 ·
  have hc4_ := hc4
  try simp only [sb] at hc4_
  refine qB2 (gvt hc4) (gvt hc4) ?_
  exact ⟨rfl, rfl⟩
 refine stp (zI0 rfl rfl rfl ?_)
 refine zA6 ?_
 refine zA2 (b := ((decide (seg < 0)) || (decide (seg ≥ (sz.length : Int))))) rfl (fun h1 => ?_) (fun h1 => ?_)
 ·
  simp only [sb] at h1
  refine qZ 5 ?_
  refine ret1 (zA1 (v := .bool false) rfl) ⟨?_, G⟩
  have h9 : zE5 sz seg a 1 = false := by unfold zE5; rw [decide_eq_false (by omega), Bool.false_and]
  rw [h9]
 ·
  simp only [sb] at h1
  have h9 := hs seg.toNat (by omega)
  refine qZ 7 ?_
  refine stp (zH1 (R.grow G) rfl rfl ?_ ?_ ?_); omega; omega
  refine stp (zE8 (v := .int .i64 (sz.getD seg.toNat 0)) (m := 0) (R.grow G) rfl (by rw [Nat.mul_one]; exact qM0 0 (by omega)) ?_)
  refine stp (zA4 (v := .tuple #[.int .i64 (if zJ2 a 1 (sz.getD seg.toNat 0) then a + 1 else 0), .bool (zJ2 a 1 (sz.getD seg.toNat 0))]) rfl (yF9 _ (m := sz.getD seg.toNat 0) h9) ?_)
  intro w5 g6
  replace G := G.tr g6
  clear g6
  refine qZ 12 ?_
  refine ret1 (zA1 (v := .bool (zJ2 a 1 (sz.getD seg.toNat 0))) rfl) ⟨?_, G⟩
  unfold zE5; rw [decide_eq_true (by omega), Bool.true_and]
theorem qR8 (w : World) {ad : Option Addr} {c : Nat} {sz : List Int} (R : RowAt w 1 ad sz.length (sz.map (.int .i64))) (hr : ∀ x ∈ sz, inR .i64 x) {seg a : Int} (hc : sz.length ≤ c) : zB6 Tryz.prog 181 #[.slice ad sz.length c, .int .i64 seg, .int .i64 a] w (.int .i64 (zF7 sz seg a)) := by
 have lR := R.lim
 have G := Grow.rfl' w
 refine zA7 Tryz.func181 Tryz.ntmps181 Tryz.results181 rfl rfl ?_
 refine qZ 8 ?_
 refine stp (zA4 (v := .bool (zL5 sz)) rfl (qX4 _ (R.grow G) hr) ?_)
 intro w1 g2
 replace G := G.tr g2
 clear g2
 refine stp (zQ6 rfl ?_)
 refine qZ 1 ?_
 refine qG 3 ?_
 refine zA3 (zZ5 (s := .bool (!(zL5 sz))) (b := false) (v := .bool (decide (0 ≤ seg ∧ seg < sz.length ∧ 0 ≤ a ∧ a < sz.getD seg.toNat 0))) rfl (zE2 _) (fun hc6 => ?_) ?_)
 ·
  have hc6_ := hc6
  try simp only [sb] at hc6_
  exact zN7 (l := ([.slice ad sz.length c, .int .i64 seg, .int .i64 a, .int .i64 1] : List Value)) rfl (by show ([gv (!(!(zL5 sz))) (.slice ad sz.length c), gv (!(!(zL5 sz))) (.int .i64 seg), gv (!(!(zL5 sz))) (.int .i64 a), .int .i64 1] : List Value) = _; rw [gvt hc6, gvt hc6, gvt hc6]) ((by have hf_ : zL5 sz = true := (by simpa using hc6); exact zJ1 (qN3 _ (R.grow G) (fun i _ => by have := zR9 hf_ i; omega)) (y := .bool (decide (0 ≤ seg ∧ seg < sz.length ∧ 0 ≤ a ∧ a < sz.getD seg.toNat 0))) (by rw [yF3 hf_]))) (fun w2_ g2_ => ⟨rfl, g2_⟩)
 intro w7 g8
 replace G := G.tr g8
 clear g8
 refine zA3 (zB3 (s := .bool _) (v := .bool (!(decide (0 ≤ seg ∧ seg < sz.length ∧ 0 ≤ a ∧ a < sz.getD seg.toNat 0)))) rfl (zE2 _) (fun hc9 => ?_) ?_)
 ·
  have hc9_ := hc9
  try simp only [sb] at hc9_
  refine zQ6 (gvt hc9) ?_
  exact ⟨rfl, rfl⟩
 refine stp (zI0 rfl rfl rfl ?_)
 refine zA6 ?_
 refine zA2 (b := ((!(zL5 sz)) || (!(decide (0 ≤ seg ∧ seg < sz.length ∧ 0 ≤ a ∧ a < sz.getD seg.toNat 0))))) rfl (fun h1 => ?_) (fun h1 => ?_)
 ·
  simp only [sb] at h1
  refine qZ 5 ?_
  have h9 : zF7 sz seg a = -1 := by unfold zF7; rw [if_neg]; rintro ⟨x1, x2⟩; rcases h1 with h_ | h_; (rw [x1] at h_; cases h_); exact absurd x2 h_
  refine ret1 (zA1 (v := .int .i64 (-1)) rfl) ⟨?_, G⟩
  rw [h9]
 ·
  simp only [sb] at h1
  obtain ⟨hf, hw⟩ := h1
  have hw' := hw
  obtain ⟨n, hn⟩ : ∃ n : Nat, seg = (n : Int) := ⟨seg.toNat, by omega⟩
  have h9 : zF7 sz seg a = a + sumL (sz.take n) := by unfold zF7; rw [if_pos ⟨hf, hw'⟩, hn, Int.toNat_natCast]
  obtain ⟨f1, f2, f3, f4, f5⟩ := zV7 hf
  have hsz := zR9 hf
  have hsg := hsz seg.toNat
  refine qZ 6 ?_
  refine stp (qE6 rfl rfl (by omega) (by omega) ?_)
  have R2 := R.sliceH (m := n) hc (by omega) (by decide)
  rw [show seg.toNat = n from by omega]
  generalize (if c = 0 then ad else ad.map (·.add (0 * 1))) = ad2 at R2 ⊢
  refine qZ 4 ?_
  refine zF4 (fun m_ e_ w_ => ∃ (k : Nat), m_ = n - k ∧ Fr [(6, .int .i64 0), (21, .slice ad2 n c), (22, .int .i64 (n : Int)), (2, .int .i64 (a + sumL (sz.take k))), (23, .int .i64 (k : Int))] e_ ∧ (k ≤ n) ∧ Grow w w_) _ ⟨0, rfl, zD3 ⟨rfl, rfl, rfl, congrArg (Value.int .i64) (by simp [sumL]), rfl, trivial⟩, by omega, G⟩ ?_
  clear G
  rintro m_ e_ w10 ⟨k, rfl, ⟨e11, rfl⟩, hk, G⟩
  have hkz := hsz k
  have htk := zK5 f4 k
  refine qZ 2 ?_
  refine stp (zG5 rfl rfl ?_)
  refine qZ 2 ?_
  refine zA2 (b := (decide ((k : Int) < (n : Int)))) rfl (fun hlt => ?_) (fun hlt => ?_)
  ·
   replace hlt := qT hlt
   have hi : k < sz.length := by omega
   have ht := zR8 hi
   refine qZ 5 ?_
   refine stp (zF1 (R2.grow G) rfl rfl ?_ ?_); omega
   refine stp (zE8 (v := .int .i64 (sz.getD k 0)) (m := 0) (R2.grow G) rfl (show _ from yQ5 (by omega) (by omega)) ?_)
   refine qZ 5 ?_
   refine stp (zB9 rfl rfl ?_ ?_); constructor <;> omega
   refine qZ 3 ?_
   refine stp (zB9 rfl rfl ?_ ?_); constructor <;> omega
   refine qZ 2 ?_
   refine ⟨_, ?_, k + 1, rfl, zD3 ⟨rfl, rfl, rfl, congrArg (Value.int .i64) (by omega), congrArg (Value.int .i64) (by omega), trivial⟩, by omega, G⟩
   omega
  ·
   replace hlt := qF hlt
   have hkn : k = n := by omega
   refine qZ 7 ?_
   refine ret1 (zA1 (v := .int .i64 (a + sumL (sz.take k))) rfl) ⟨?_, G⟩
   rw [h9, hkn]
instance : ViaI Tryz.prog 74 "Sizes" 79 0 := ⟨by kernel_rfl⟩
theorem qX5 : MethN Tryz.prog 110 "Sizes" 182 := ⟨fun v w => by kernel_rfl, fun args w => by kernel_rfl⟩
theorem zO3 : MethI Tryz.prog 74 "Word" 180 := ⟨fun v args w => by kernel_rfl⟩
theorem qE2 (w : World) {u : Value} {A : List (List Int)} (hA : zF3 w u A) (hl : A.length ≤ 1000) : Calls Tryz.prog 182 #[.agg #[u]] w (Ret fun r w2 => ∃ ad c, r = .slice ad (zC0 A).length c ∧ (zC0 A).length ≤ c ∧ RowAt w2 1 ad (zC0 A).length ((zC0 A).map (.int .i64)) ∧ Grow w w2) := by
 obtain ⟨segs_, ⟨ada, ca, rfl, hc1_, hc2_, RA⟩, hrows⟩ := hA
 have G := Grow.rfl' w
 refine zB8 Tryz.func182 Tryz.ntmps182 Tryz.results182 rfl rfl ?_
 refine qZ 2 ?_
 refine stp ?_
 refine qC ?_
 intro b1 w2 hb3 hc4 g5
 have hge6 := Nat.le_trans G.size hb3
 replace G := G.tr g5
 clear g5 hb3
 refine qZ 6 ?_
 refine stp ?_
 refine zD2 rfl (qH5 _ (RA.grow G) rfl (fun i q hq => by obtain ⟨v, h1, h2⟩ := hrows i q hq; exact ⟨v, h1, h2.grow G⟩) (by omega)) ?_
 rintro v_ w7 ⟨own, g_⟩
 replace hc4 := g_.heap hc4
 replace G := G.tr g_
 clear g_
 obtain ⟨ad5, c5, rfl, hc5, hc6, RS⟩ := zH3 own (by omega)
 refine qZ 3 ?_
 rw [show (A.map fun s => Value.int .i64 (s.length : Int)) = (zC0 A).map (.int .i64) from by simp [zC0, Function.comp_def], ← zK2 A] at RS
 rw [← zK2 A] at hc5
 refine ret1 (zA1 (v := .slice ad5 A.length c5) rfl) ⟨_, _, by rw [zK2], hc5, RS, G⟩
theorem zM3 (w : World) {w0 : World} {u : Value} {A : List (List Int)} (hA : zF3 w0 u A) (hr : zD9 A = true) (hx : AllU A) {s : Src} (hs : s = zB1 A) (g0 : Grow w0 w) {bn : Nat} (hbn : w0.heap.size ≤ bn) {L : List Spn} (st : NtS 110 79 61 w0.heap.size w u bn L) (hL : L.length ≤ 200000) (seg a : Int) : Calls Tryz.prog 180 #[.pointer (some ⟨bn, 0, none⟩), .int .i64 seg, .int .i64 a] w (Ret fun v w' => v = .tuple #[.int .u64 (s.word seg a).1, .int .u16 (s.word seg a).2] ∧ NtS 110 79 61 w0.heap.size w' u bn (zK7 A L seg a) ∧ NkP [bn] 61 w0.heap.size w w') := by
 have K := NkP.refl [bn] 61 w0.heap.size w
 have g0w := g0.size
 obtain ⟨ad0, c0, hn0, oL⟩ := st
 obtain ⟨hlen16, hl4096⟩ := zO2 hr
 have hfit : zL5 (zC0 A) = true := by rw [qC5]; exact hr
 have hrz : ∀ x ∈ zC0 A, inR .i64 x := yQ7 hfit
 have hlE := zJ5 L
 have hbnw := zC2 hn0
 refine zB8 Tryz.func180 Tryz.ntmps180 Tryz.results180 rfl rfl ?_
 have hpl : zF7 (zC0 A) seg a < 0 ∨ (zF7 (zC0 A) seg a < 4096) := by by_cases h_ : zF7 (zC0 A) seg a < 0; exact .inl h_; (have h2_ := (qR1 (sz := zC0 A) (seg := seg) (a := a) (by omega)).2.2.2.2.2.2; have := yL6 (zC0 A); omega)
 refine qZ 12 ?_
 refine stp (qF1 zU5 rfl (qE2 _ (hA.grow g0) (by omega)) ?_)
 rintro v_ w1 ⟨adz, cz, rfl, hcz, RZ, g_⟩
 replace K := K.tr (NkP.of_grow g_)
 replace g0 := g0.tr g_
 replace hn0 := g_.heap hn0
 replace oL := zB7 oL g_
 clear g_
 refine qZ 2 ?_
 refine stp (zA4 (v := .int .i64 (zF7 (zC0 A) seg a)) rfl (qR8 _ RZ hrz hcz) ?_)
 intro w2 g3
 replace K := K.tr (NkP.of_grow g3)
 replace g0 := g0.tr g3
 replace hn0 := g3.heap hn0
 replace oL := zB7 oL g3
 replace RZ := RZ.grow g3
 clear g3
 refine qZ 5 ?_
 refine stp (qB2 rfl rfl ?_)
 refine zA6 ?_
 refine zA2 (b := (decide ((zF7 (zC0 A) seg a) ≥ 0))) rfl (fun h1 => ?_) (fun h1 => ?_)
 ·
  replace h1 := qT h1
  have h9 : (zK7 A L seg a) = L ++ [(zF7 (zC0 A) seg a, zF7 (zC0 A) seg a + 1)] := if_neg (by omega)
  refine qZ 8 ?_
  refine stp (zB9 rfl rfl ?_ ?_); constructor <;> omega
  refine stp (zB0 (v := .agg #[.int .i64 (zF7 (zC0 A) seg a), .int .i64 ((zF7 (zC0 A) seg a) + 1)]) (fun w => by kernel_rfl) ?_)
  refine stp (zB5 (cs := #[.int .i64 (zF7 (zC0 A) seg a), .int .i64 ((zF7 (zC0 A) seg a) + 1)]) (el := 61) (fun w => by kernel_rfl) ?_)
  intro bs4 w5 hb6 hc7 g8
  have hge9 := Nat.le_trans K.size hb6
  replace K := K.tr (NkP.of_grow g8)
  replace g0 := g0.tr g8
  replace hn0 := g8.heap hn0
  replace oL := zB7 oL g8
  clear g8
  refine stp (zF8 rfl rfl rfl rfl oL (Row.of_block (n := 1) hc7 rfl rfl (by omega)) (fun q_ hq_ => by simp at hq_; rcases hq_ with rfl | rfl <;> rfl) (by simp only [maxLen]; omega) (by omega) g0.size ?_)
  intro v7 w7 own2 gr7
  replace K := K.tr (NkP.of_grown oL gr7)
  replace g0 := g0.grown gr7 (zI3 oL)
  replace hn0 := zH9 gr7 hn0 (zE6 oL hn0 (by decide))
  have own3 := yR3 (s := (zF7 (zC0 A) seg a, zF7 (zC0 A) seg a + 1)) own2
  clear own2 gr7 oL
  obtain ⟨ad2, n2, c2, rfl⟩ := zD6 own3
  have hn3 := qA8 own3
  subst hn3
  refine qZ 2 ?_
  refine stn (zC6 (v := .slice ad2 ((L ++ [(zF7 (zC0 A) seg a, zF7 (zC0 A) seg a + 1)]).length) c2) rfl rfl (by rfl) hn0 (by rfl) (by rfl) ?_)
  intro w10 hc11 u12
  replace K := (by first | exact K.upd_new u12 (by assumption) | exact K.tr (NkP.of_upd u12 (by simp)))
  replace g0 := (by first | exact Grow.upd g0 u12 (Nat.le_trans g0w (by assumption)) | exact Grow.upd g0 u12 hbn | exact Grow.upd g0 u12 hb0)
  replace own3 := zF9 own3 u12 (zE6 own3 hn0 (by decide))
  clear u12 hn0
  refine qZ 9 ?_
  refine stp (zN1 (F := fun v_ w_ => v_ = .tuple #[.int .u64 (zG0 A seg a).1, .int .u16 (zG0 A seg a).2] ∧ Grow w10 w_) (a := .int .i64 seg) (b := .int .i64 a) zQ9 rfl rfl rfl (zP1 _ (hA.grow g0) seg a).c ?_)
  rintro v_ w13 ⟨rfl, g_⟩
  replace K := K.tr (NkP.of_grow g_)
  replace g0 := g0.tr g_
  replace own3 := zB7 own3 g_
  replace hc11 := g_.heap hc11
  clear g_
  refine qZ 6 ?_
  subst hs
  rw [h9]
  refine ret2 (zA1 (v := .int .u64 ((zG0 A seg a).1)) rfl) (zA1 (v := .int .u16 ((zG0 A seg a).2)) rfl) ⟨rfl, ⟨ad2, c2, hc11, own3⟩, K⟩
 ·
  replace h1 := qF h1
  have h9 : (zK7 A L seg a) = L := if_pos (by omega)
  refine qZ 9 ?_
  refine stp (zN1 (F := fun v_ w_ => v_ = .tuple #[.int .u64 (zG0 A seg a).1, .int .u16 (zG0 A seg a).2] ∧ Grow w2 w_) (a := .int .i64 seg) (b := .int .i64 a) zQ9 rfl rfl rfl (zP1 _ (hA.grow g0) seg a).c ?_)
  rintro v_ w14 ⟨rfl, g_⟩
  replace K := K.tr (NkP.of_grow g_)
  replace g0 := g0.tr g_
  replace hn0 := g_.heap hn0
  replace oL := zB7 oL g_
  replace RZ := RZ.grow g_
  clear g_
  refine qZ 6 ?_
  subst hs
  rw [h9]
  refine ret2 (zA1 (v := .int .u64 ((zG0 A seg a).1)) rfl) (zA1 (v := .int .u16 ((zG0 A seg a).2)) rfl) ⟨rfl, ⟨ad0, c0, hn0, oL⟩, K⟩
theorem zW4 (w : World) {w0 : World} {u : Value} {A : List (List Int)} (hA : zF3 w0 u A) (hr : zD9 A = true) (hx : AllU A) {s : Src} (hs : s = zB1 A) (g0 : Grow w0 w) {bn : Nat} (hbn : w0.heap.size ≤ bn) {L : List Spn} (st : NtS 110 79 61 w0.heap.size w u bn L) (hL : L.length ≤ 150000) (seg a : Int) : Calls Tryz.prog 88 #[.iface 74 (.pointer (some ⟨bn, 0, none⟩)), .int .i64 seg, .int .i64 a] w (Ret fun v w' => v = .tuple #[.agg #[.int .i64 ((ptrS s seg a).1.kind), .int .i64 ((ptrS s seg a).1.off), .int .i64 ((ptrS s seg a).1.data), .int .i64 ((ptrS s seg a).1.ptrs), .int .i64 ((ptrS s seg a).1.size), .int .i64 ((ptrS s seg a).1.count), .int .i64 ((ptrS s seg a).1.seg), .bool ((ptrS s seg a).1.dbl)], .int .u16 ((ptrS s seg a).2)] ∧ NtS 110 79 61 w0.heap.size w' u bn (zK7 A L seg a) ∧ NkP [bn] 61 w0.heap.size w w') := by
 have K := NkP.refl [bn] 61 w0.heap.size w
 have g0w := g0.size
 refine zB8 Tryz.func88 Tryz.ntmps88 Tryz.results88 rfl rfl ?_
 refine qZ 2 ?_
 refine stp (zA8 ?_)
 intro b1 w2 hb3 hc4 g5
 refine qZ 7 ?_
 have hge6 := Nat.le_trans K.size hb3
 replace K := K.tr (NkP.of_grow g5)
 replace g0 := g0.tr g5
 replace st := st.grow g5
 clear g5 hb3
 refine stp (zN1 (a := .int .i64 seg) (b := .int .i64 a) zO3 rfl rfl rfl (zM3 _ hA hr hx hs g0 hbn st (by have := hL; omega) seg a) ?_)
 rintro v_ w7 ⟨rfl, st2_, rel_⟩
 replace hc4 := rel_.hpN st hc4 (by decide) (by decide)
 replace g0 := NkP.to_grow rel_ g0 (fun x_ hx_ => by simp only [List.mem_cons, List.mem_singleton, List.not_mem_nil, or_false] at hx_; (first | (subst hx_; first | assumption | exact hbn) | (rcases hx_ with rfl | rfl <;> assumption)))  (Nat.le_refl _)
 replace K := K.new_nk rel_ (fun x_ hx_ => by simp only [List.mem_cons, List.mem_singleton, List.not_mem_nil, or_false] at hx_; (first | (rcases hx_ with rfl | rfl <;> first | (right; simp; done) | (left; assumption)) | (subst hx_; first | (right; simp; done) | (left; assumption))))
 clear rel_ st
 have st := st2_
 clear st2_
 refine qZ 10 ?_
 refine stp (zI1 rfl rfl ?_)
 refine zA6 ?_
 refine zA2 (b := (decide (((s.word seg a).2) ≠ 0))) rfl (fun h1 => ?_) (fun h1 => ?_)
 ·
  replace h1 := qT h1
  refine qZ 2 ?_
  refine stp (zB0 (v := .agg #[.int .i64 0, .int .i64 0, .int .i64 0, .int .i64 0, .int .i64 0, .int .i64 0, .int .i64 0, .bool false]) (fun w => by kernel_rfl) ?_)
  refine qZ 1 ?_
  refine stn (qS hc4 ?_)
  intro w8 hc9 u10
  replace g0 := (by first | exact Grow.upd g0 u10 (Nat.le_trans g0w (by assumption)) | exact Grow.upd g0 u10 hbn | exact Grow.upd g0 u10 hb0)
  replace K := (by first | exact K.upd_new u10 (by assumption) | exact K.tr (NkP.of_upd u10 (by simp)))
  replace st := st.upd u10 hc4 (by decide) (by decide)
  clear u10 hc4
  refine qZ 3 ?_
  have h9 : ptrS s seg a = (Pt0, (s.word seg a).2) := by unfold ptrS; rw [if_pos h1]
  refine ret2 (zA5 rfl hc9 (by rfl)) (zA1 (v := .int .u16 ((s.word seg a).2)) rfl) ⟨by rw [h9]; rfl, st, K⟩
 ·
  replace h1 := qF h1
  refine qZ 4 ?_
  refine stp (zA4 (v := .tuple #[.agg #[.int .i64 ((decP (s.word seg a).1).kind), .int .i64 ((decP (s.word seg a).1).off), .int .i64 ((decP (s.word seg a).1).data), .int .i64 ((decP (s.word seg a).1).ptrs), .int .i64 ((decP (s.word seg a).1).size), .int .i64 ((decP (s.word seg a).1).count), .int .i64 ((decP (s.word seg a).1).seg), .bool ((decP (s.word seg a).1).dbl)], .int .u16 (decE (s.word seg a).1)]) rfl (zK3 _ _ (num9 hs hx seg a).1 (num9 hs hx seg a).2.1) ?_)
  intro w11 g12
  replace hc4 := g12.heap hc4
  replace g0 := g0.tr g12
  replace K := K.tr (NkP.of_grow g12)
  replace st := st.grow g12
  clear g12
  refine qZ 2 ?_
  refine stn (qS hc4 ?_)
  intro w13 hc14 u15
  replace g0 := (by first | exact Grow.upd g0 u15 (Nat.le_trans g0w (by assumption)) | exact Grow.upd g0 u15 hbn | exact Grow.upd g0 u15 hb0)
  replace K := (by first | exact K.upd_new u15 (by assumption) | exact K.tr (NkP.of_upd u15 (by simp)))
  replace st := st.upd u15 hc4 (by decide) (by decide)
  clear u15 hc4
  refine qZ 3 ?_
  have h9 : ptrS s seg a = (decP (s.word seg a).1, decE (s.word seg a).1) := by unfold ptrS; rw [if_neg h1]
  refine ret2 (zA5 rfl hc14 (by rfl)) (zA1 (v := .int .u16 (decE (s.word seg a).1)) rfl) ⟨by rw [h9], st, K⟩
theorem zU8 (w : World) {w0 : World} {u : Value} {A : List (List Int)} (hA : zF3 w0 u A) (hr : zD9 A = true) (hx : AllU A) {s : Src} (hs : s = zB1 A) (g0 : Grow w0 w) {bn : Nat} (hbn : w0.heap.size ≤ bn) {L : List Spn} (st : NtS 110 79 61 w0.heap.size w u bn L) (hL : L.length ≤ 400000) (p : Pt) (seg a : Int) (hp : PtR p) (ha : inR .i64 a) : zB6 Tryz.prog 90 #[.iface 74 (.pointer (some ⟨bn, 0, none⟩)), .agg #[.int .i64 p.kind, .int .i64 p.off, .int .i64 p.data, .int .i64 p.ptrs, .int .i64 p.size, .int .i64 p.count, .int .i64 p.seg, .bool p.dbl], .int .i64 seg, .int .i64 a] w (.tuple #[.agg #[.int .i64 ((zA9 s p seg a).1.kind), .int .i64 ((zA9 s p seg a).1.seg), .int .i64 ((zA9 s p seg a).1.at_), .int .i64 ((zA9 s p seg a).1.data), .int .i64 ((zA9 s p seg a).1.ptrs), .int .i64 ((zA9 s p seg a).1.size), .int .i64 ((zA9 s p seg a).1.count)], .int .u16 ((zA9 s p seg a).2)]) := by
 have hw9 := zU0 hp.of
 obtain ⟨hlen16, -⟩ := zO2 hr
 have st0 := st
 have g00 := g0
 have G := Grow.rfl' w
 refine zA7 Tryz.func90 Tryz.ntmps90 Tryz.results90 rfl rfl ?_
 refine qZ 2 ?_
 refine stp ?_
 refine qC ?_
 intro b1 w2 hb3 hc4 g5
 have hge6 := Nat.le_trans G.size hb3
 replace G := G.tr g5
 clear g5 hb3
 refine stp (zA8 ?_)
 intro b7 w8 hb9 hc10 g11
 refine qZ 5 ?_
 have hge12 := Nat.le_trans G.size hb9
 have ne13 := qN hc4 hb9
 replace hc4 := g11.heap hc4
 replace G := G.tr g11
 clear g11 hb9
 refine qZ 11 ?_
 refine stp (zB0 (v := .agg #[.int .i64 p.kind, .int .i64 seg, .int .i64 a, .int .i64 p.data, .int .i64 p.ptrs, .int .i64 p.size, .int .i64 p.count]) (fun w => by kernel_rfl) ?_)
 refine stp (zA8 ?_)
 intro b14 w15 hb16 hc17 g18
 refine stn (qS hc17 ?_)
 intro w19 hc20 u21
 have g22 := g18.upd u21 hb16
 have hge23 := Nat.le_trans G.size hb16
 have ne24 := qN hc4 hb16
 have ne25 := qN hc10 hb16
 replace hc4 := g22.heap hc4
 replace hc10 := g22.heap hc10
 replace G := G.tr g22
 clear u21 g18 hb16 hc17
 refine qZ 4 ?_
 refine stp (zA4 (v := .agg #[.int .i64 p.kind, .int .i64 0, .int .i64 p.data, .int .i64 p.ptrs, .int .i64 p.size, .int .i64 p.count, .int .i64 0, .bool false]) rfl (qM7 _ ⟨p.kind, seg, a, p.data, p.ptrs, p.size, p.count⟩) ?_)
 intro w26 g27
 replace hc4 := g27.heap hc4
 replace hc10 := g27.heap hc10
 replace hc20 := g27.heap hc20
 replace G := G.tr g27
 clear g27
 refine stp (zA4 (v := .tuple #[.int .i64 (zE9 ⟨p.kind, 0, p.data, p.ptrs, p.size, p.count, 0, false⟩), .int .u16 (zG2 ⟨p.kind, 0, p.data, p.ptrs, p.size, p.count, 0, false⟩)]) rfl (zX5 _ ⟨p.kind, 0, p.data, p.ptrs, p.size, p.count, 0, false⟩) ?_)
 intro w28 g29
 replace hc4 := g29.heap hc4
 replace hc10 := g29.heap hc10
 replace hc20 := g29.heap hc20
 replace G := G.tr g29
 clear g29
 refine qZ 11 ?_
 refine stp (zI1 rfl rfl ?_)
 refine qZ 2 ?_
 refine zA2 (b := (decide ((zG2 ⟨p.kind, 0, p.data, p.ptrs, p.size, p.count, 0, false⟩) ≠ 0))) rfl (fun h1 => ?_) (fun h1 => ?_)
 ·
  replace h1 := qT h1
  refine qZ 2 ?_
  refine stp (zB0 (v := .agg #[.int .i64 0, .int .i64 0, .int .i64 0, .int .i64 0, .int .i64 0, .int .i64 0, .int .i64 0]) (fun w => by kernel_rfl) ?_)
  refine qZ 1 ?_
  refine stn (qS hc10 ?_)
  intro w30 hc31 u32
  replace hc4 := u32.heap hc4 ne13
  replace hc20 := u32.heap hc20 ne25.symm
  replace G := G.upd u32 hge12
  clear u32 hc10
  refine qZ 3 ?_
  refine ret2 (zA5 rfl hc31 (by rfl)) (zA1 (v := .int .u16 (zG2 ⟨p.kind, 0, p.data, p.ptrs, p.size, p.count, 0, false⟩)) rfl) ⟨?_, G⟩
  have h9 : zA9 s p seg a = (Ob0, zG2 ⟨p.kind, 0, p.data, p.ptrs, p.size, p.count, 0, false⟩) := by unfold zA9; exact if_pos h1
  rw [h9]; rfl
 ·
  replace h1 := qF h1
  refine qZ 3 ?_
  refine stp ?_
  obtain ⟨ad0_, c0_, hn_, -⟩ := st0.grow G
  refine yZ7 (off := 0) (v' := .agg #[u]) qX5 rfl hn_ rfl (qE2 _ (hA.grow (g00.tr G)) (by omega)) ?_
  rintro v_ w33 ⟨adz, cz, rfl, hcz, Rz, g_⟩
  clear hn_
  replace hc4 := g_.heap hc4
  replace hc10 := g_.heap hc10
  replace hc20 := g_.heap hc20
  replace G := G.tr g_
  clear g_
  rw [← yT3 hs] at Rz hcz
  rw [← yT3 hs]
  refine qZ 3 ?_
  refine stp (zA4 (v := .bool (zE5 s.sizes seg a (zE9 ⟨p.kind, 0, p.data, p.ptrs, p.size, p.count, 0, false⟩))) rfl (qD7 _ Rz (jB3 hs hr) ha (by simp only [inR]; omega)) ?_)
  intro w34 g35
  replace hc4 := g35.heap hc4
  replace hc10 := g35.heap hc10
  replace hc20 := g35.heap hc20
  replace Rz := Rz.grow g35
  replace G := G.tr g35
  clear g35
  refine stp (zQ6 rfl ?_)
  refine qZ 2 ?_
  refine zA2 (b := (!(zE5 s.sizes seg a (zE9 ⟨p.kind, 0, p.data, p.ptrs, p.size, p.count, 0, false⟩)))) rfl (fun h2 => ?_) (fun h2 => ?_)
  ·
   simp only [sb] at h2
   refine qZ 2 ?_
   refine stp (zB0 (v := .agg #[.int .i64 0, .int .i64 0, .int .i64 0, .int .i64 0, .int .i64 0, .int .i64 0, .int .i64 0]) (fun w => by kernel_rfl) ?_)
   refine stn (qS hc10 ?_)
   intro w36 hc37 u38
   replace hc4 := u38.heap hc4 ne13
   replace hc20 := u38.heap hc20 ne25.symm
   replace G := G.upd u38 hge12
   clear u38 hc10
   refine qZ 3 ?_
   refine ret2 (zA5 rfl hc37 (by rfl)) (zA1 (v := .int .u16 20) rfl) ⟨?_, G⟩
   have h9 : zA9 s p seg a = (Ob0, 20) := by unfold zA9; exact (if_neg h1).trans (if_pos (show zE5 s.sizes seg a (zE9 ⟨p.kind, 0, p.data, p.ptrs, p.size, p.count, 0, false⟩) = false from by simpa using h2))
   rw [h9]; rfl
  ·
   simp only [sb] at h2
   refine qZ 4 ?_
   refine stn (qS hc10 ?_)
   intro w39 hc40 u41
   replace hc4 := u41.heap hc4 ne13
   replace hc20 := u41.heap hc20 ne25.symm
   replace G := G.upd u41 hge12
   clear u41 hc10
   refine qZ 3 ?_
   refine ret2 (zA5 rfl hc40 (by rfl)) (zA1 (v := .int .u16 0) rfl) ⟨?_, G⟩
   have h9 : zA9 s p seg a = (objP p seg a, 0) := by unfold zA9; exact (if_neg h1).trans (if_neg (show ¬ zE5 s.sizes seg a (zE9 ⟨p.kind, 0, p.data, p.ptrs, p.size, p.count, 0, false⟩) = false from by simpa using h2))
   rw [h9]; rfl
theorem qN4 (w : World) {w0 : World} {u : Value} {A : List (List Int)} (hA : zF3 w0 u A) (hr : zD9 A = true) (hx : AllU A) {s : Src} (hs : s = zB1 A) (g0 : Grow w0 w) {bn : Nat} (hbn : w0.heap.size ≤ bn) {L : List Spn} (st : NtS 110 79 61 w0.heap.size w u bn L) (hL : L.length ≤ 100000) (p : Pt) (hp : PtR p) : Calls Tryz.prog 92 #[.iface 74 (.pointer (some ⟨bn, 0, none⟩)), .agg #[.int .i64 p.kind, .int .i64 p.off, .int .i64 p.data, .int .i64 p.ptrs, .int .i64 p.size, .int .i64 p.count, .int .i64 p.seg, .bool p.dbl]] w (Ret fun v w' => v = .tuple #[.agg #[.int .i64 ((zC4 s p).1.kind), .int .i64 ((zC4 s p).1.seg), .int .i64 ((zC4 s p).1.at_), .int .i64 ((zC4 s p).1.data), .int .i64 ((zC4 s p).1.ptrs), .int .i64 ((zC4 s p).1.size), .int .i64 ((zC4 s p).1.count)], .int .u16 ((zC4 s p).2)] ∧ NtS 110 79 61 w0.heap.size w' u bn (zK7 A L p.seg p.off) ∧ NkP [bn] 61 w0.heap.size w w') := by
 have K := NkP.refl [bn] 61 w0.heap.size w
 have g0w := g0.size
 have hq := ptr9 hs hx p.seg p.off
 have hqo := hq.off
 have hpo := hp.off
 refine zB8 Tryz.func92 Tryz.ntmps92 Tryz.results92 rfl rfl ?_
 refine qZ 2 ?_
 refine stp ?_
 refine qC ?_
 intro b1 w2 hb3 hc4 g5
 have hge6 := Nat.le_trans K.size hb3
 replace K := K.tr (NkP.of_grow g5)
 replace g0 := g0.tr g5
 replace st := st.grow g5
 clear g5 hb3
 refine stp (zA8 ?_)
 intro b7 w8 hb9 hc10 g11
 refine qZ 6 ?_
 have hge12 := Nat.le_trans K.size hb9
 have ne13 := qN hc4 hb9
 replace K := K.tr (NkP.of_grow g11)
 replace g0 := g0.tr g11
 replace st := st.grow g11
 replace hc4 := g11.heap hc4
 clear g11 hb9
 refine qZ 3 ?_
 refine stp ?_
 refine zD2 rfl (zW4 _ hA hr hx hs g0 hbn st (by have := hL; omega) p.seg p.off) ?_
 rintro v_ w14 ⟨rfl, st2_, rel_⟩
 replace hc4 := rel_.hpN st hc4 (by decide) (by decide)
 replace hc10 := rel_.hpN st hc10 (by decide) (by decide)
 replace g0 := NkP.to_grow rel_ g0 (fun x_ hx_ => by simp only [List.mem_cons, List.mem_singleton, List.not_mem_nil, or_false] at hx_; (first | (subst hx_; first | assumption | exact hbn) | (rcases hx_ with rfl | rfl <;> assumption)))  (Nat.le_refl _)
 replace K := K.new_nk rel_ (fun x_ hx_ => by simp only [List.mem_cons, List.mem_singleton, List.not_mem_nil, or_false] at hx_; (first | (rcases hx_ with rfl | rfl <;> first | (right; simp; done) | (left; assumption)) | (subst hx_; first | (right; simp; done) | (left; assumption))))
 clear rel_ st
 have st := st2_
 clear st2_
 have hl_w14 := zS0 A L p.seg p.off
 refine qZ 3 ?_
 refine stp (zA8 ?_)
 intro b15 w16 hb17 hc18 g19
 refine stn (qS hc18 ?_)
 intro w20 hc21 u22
 have g23 := g19.upd u22 hb17
 have hge24 := Nat.le_trans K.size hb17
 have ne25 := qN hc4 hb17
 have ne26 := qN hc10 hb17
 replace hc4 := g23.heap hc4
 replace hc10 := g23.heap hc10
 replace g0 := g0.tr g23
 replace K := K.tr (NkP.of_grow g23)
 replace st := st.grow g23
 clear u22 g19 hb17 hc18
 refine qZ 7 ?_
 refine stp (zI1 rfl rfl ?_)
 refine qZ 2 ?_
 refine zA2 (b := (decide (((ptrS s p.seg p.off).2) ≠ 0))) rfl (fun h1 => ?_) (fun h1 => ?_)
 ·
  replace h1 := qT h1
  refine qZ 2 ?_
  refine stp (zB0 (v := .agg #[.int .i64 0, .int .i64 0, .int .i64 0, .int .i64 0, .int .i64 0, .int .i64 0, .int .i64 0]) (fun w => by kernel_rfl) ?_)
  refine qZ 1 ?_
  refine stn (qS hc10 ?_)
  intro w27 hc28 u29
  replace hc4 := u29.heap hc4 ne13
  replace g0 := (by first | exact Grow.upd g0 u29 (Nat.le_trans g0w (by assumption)) | exact Grow.upd g0 u29 hbn | exact Grow.upd g0 u29 hb0)
  replace K := (by first | exact K.upd_new u29 (by assumption) | exact K.tr (NkP.of_upd u29 (by simp)))
  replace st := st.upd u29 hc10 (by decide) (by decide)
  replace hc21 := u29.heap hc21 ne26.symm
  clear u29 hc10
  refine qZ 3 ?_
  have h9 : zC4 s p = (Ob0, (ptrS s p.seg p.off).2) := by unfold zC4; rw [if_pos h1]
  refine ret2 (zA5 rfl hc28 (by rfl)) (zA1 (v := .int .u16 ((ptrS s p.seg p.off).2)) rfl) ⟨by rw [h9] <;> rfl, st, K⟩
 ·
  replace h1 := qF h1
  refine qZ 3 ?_
  refine stp (zA4 (v := .bool (zH0 ((ptrS s p.seg p.off).1))) rfl (zK4 _ ((ptrS s p.seg p.off).1)) ?_)
  intro w30 g31
  replace hc4 := g31.heap hc4
  replace hc10 := g31.heap hc10
  replace g0 := g0.tr g31
  replace K := K.tr (NkP.of_grow g31)
  replace st := st.grow g31
  replace hc21 := g31.heap hc21
  clear g31
  refine stp (zQ6 rfl ?_)
  refine qZ 2 ?_
  refine zA2 (b := (!(zH0 ((ptrS s p.seg p.off).1)))) rfl (fun h2 => ?_) (fun h2 => ?_)
  ·
   simp only [sb] at h2
   refine qZ 2 ?_
   refine stp (zB0 (v := .agg #[.int .i64 0, .int .i64 0, .int .i64 0, .int .i64 0, .int .i64 0, .int .i64 0, .int .i64 0]) (fun w => by kernel_rfl) ?_)
   refine stn (qS hc10 ?_)
   intro w32 hc33 u34
   replace hc4 := u34.heap hc4 ne13
   replace g0 := (by first | exact Grow.upd g0 u34 (Nat.le_trans g0w (by assumption)) | exact Grow.upd g0 u34 hbn | exact Grow.upd g0 u34 hb0)
   replace K := (by first | exact K.upd_new u34 (by assumption) | exact K.tr (NkP.of_upd u34 (by simp)))
   replace st := st.upd u34 hc10 (by decide) (by decide)
   replace hc21 := u34.heap hc21 ne26.symm
   clear u34 hc10
   refine qZ 3 ?_
   have h9 : zC4 s p = (Ob0, 23) := by unfold zC4; rw [if_neg h1, if_pos (by simpa using h2)]
   refine ret2 (zA5 rfl hc33 (by rfl)) (zA1 (v := .int .u16 23) rfl) ⟨by rw [h9] <;> rfl, st, K⟩
  ·
   simp only [sb] at h2
   refine qZ 9 ?_
   refine stp (zB9 rfl rfl ?_ ?_); constructor <;> omega
   refine qZ 2 ?_
   refine stp (zB9 rfl rfl ?_ ?_); constructor <;> omega
   refine stp (zA4 (v := .tuple #[.agg #[.int .i64 ((zA9 s ((ptrS s p.seg p.off).1) p.seg ((p.off + 1) + ((ptrS s p.seg p.off).1.off))).1.kind), .int .i64 ((zA9 s ((ptrS s p.seg p.off).1) p.seg ((p.off + 1) + ((ptrS s p.seg p.off).1.off))).1.seg), .int .i64 ((zA9 s ((ptrS s p.seg p.off).1) p.seg ((p.off + 1) + ((ptrS s p.seg p.off).1.off))).1.at_), .int .i64 ((zA9 s ((ptrS s p.seg p.off).1) p.seg ((p.off + 1) + ((ptrS s p.seg p.off).1.off))).1.data), .int .i64 ((zA9 s ((ptrS s p.seg p.off).1) p.seg ((p.off + 1) + ((ptrS s p.seg p.off).1.off))).1.ptrs), .int .i64 ((zA9 s ((ptrS s p.seg p.off).1) p.seg ((p.off + 1) + ((ptrS s p.seg p.off).1.off))).1.size), .int .i64 ((zA9 s ((ptrS s p.seg p.off).1) p.seg ((p.off + 1) + ((ptrS s p.seg p.off).1.off))).1.count)], .int .u16 ((zA9 s ((ptrS s p.seg p.off).1) p.seg ((p.off + 1) + ((ptrS s p.seg p.off).1.off))).2)]) rfl (zU8 _ hA hr hx hs g0 hbn st (by omega) ((ptrS s p.seg p.off).1) p.seg ((p.off + 1) + ((ptrS s p.seg p.off).1.off)) hq (by simp only [inR]; omega)) ?_)
   intro w35 g36
   replace hc4 := g36.heap hc4
   replace hc10 := g36.heap hc10
   replace g0 := g0.tr g36
   replace K := K.tr (NkP.of_grow g36)
   replace st := st.grow g36
   replace hc21 := g36.heap hc21
   clear g36
   refine qZ 2 ?_
   refine stn (qS hc10 ?_)
   intro w37 hc38 u39
   replace hc4 := u39.heap hc4 ne13
   replace g0 := (by first | exact Grow.upd g0 u39 (Nat.le_trans g0w (by assumption)) | exact Grow.upd g0 u39 hbn | exact Grow.upd g0 u39 hb0)
   replace K := (by first | exact K.upd_new u39 (by assumption) | exact K.tr (NkP.of_upd u39 (by simp)))
   replace st := st.upd u39 hc10 (by decide) (by decide)
   replace hc21 := u39.heap hc21 ne26.symm
   clear u39 hc10
   refine qZ 3 ?_
   have h9 : zC4 s p = zA9 s (ptrS s p.seg p.off).1 p.seg (p.off + 1 + (ptrS s p.seg p.off).1.off) := by unfold zC4; rw [if_neg h1, if_neg (by simpa using h2)]
   refine ret2 (zA5 rfl hc38 (by rfl)) (zA1 (v := .int .u16 ((zA9 s ((ptrS s p.seg p.off).1) p.seg ((p.off + 1) + ((ptrS s p.seg p.off).1.off))).2)) rfl) ⟨by rw [h9] <;> rfl, st, K⟩
theorem qR9 (w : World) {w0 : World} {u : Value} {A : List (List Int)} (hA : zF3 w0 u A) (hr : zD9 A = true) (hx : AllU A) {s : Src} (hs : s = zB1 A) (g0 : Grow w0 w) {bn : Nat} (hbn : w0.heap.size ≤ bn) {L : List Spn} (st : NtS 110 79 61 w0.heap.size w u bn L) (hL : L.length ≤ 100000) (p : Pt) (hp : PtR p) : Calls Tryz.prog 91 #[.iface 74 (.pointer (some ⟨bn, 0, none⟩)), .agg #[.int .i64 p.kind, .int .i64 p.off, .int .i64 p.data, .int .i64 p.ptrs, .int .i64 p.size, .int .i64 p.count, .int .i64 p.seg, .bool p.dbl]] w (Ret fun v w' => v = .tuple #[.agg #[.int .i64 ((zC9 s p).1.kind), .int .i64 ((zC9 s p).1.seg), .int .i64 ((zC9 s p).1.at_), .int .i64 ((zC9 s p).1.data), .int .i64 ((zC9 s p).1.ptrs), .int .i64 ((zC9 s p).1.size), .int .i64 ((zC9 s p).1.count)], .int .u16 ((zC9 s p).2)] ∧ ∃ L2, ((zC9 s p).2 = 0 → L2 = (zK7 A (zK7 A L p.seg p.off) p.seg (p.off + 1))) ∧ L2.length ≤ L.length + 2 ∧ NtS 110 79 61 w0.heap.size w' u bn L2 ∧ NkP [bn] 61 w0.heap.size w w') := by
 have K := NkP.refl [bn] 61 w0.heap.size w
 have g0w := g0.size
 have hpo := hp.off
 obtain ⟨n1, n2, -, -⟩ := num9 hs hx p.seg p.off
 obtain ⟨n3, n4, -, -⟩ := num9 hs hx p.seg (p.off + 1)
 have hq := zJ3 _ n1 n2
 have hr9 := zJ3 _ n3 n4
 have hqo := hq.off
 have hl1 := zS0 A L p.seg p.off
 have hl2 := zS0 A (zK7 A L p.seg p.off) p.seg (p.off + 1)
 refine zB8 Tryz.func91 Tryz.ntmps91 Tryz.results91 rfl rfl ?_
 refine qZ 2 ?_
 refine stp ?_
 refine qC ?_
 intro b1 w2 hb3 hc4 g5
 have hge6 := Nat.le_trans K.size hb3
 replace K := K.tr (NkP.of_grow g5)
 replace g0 := g0.tr g5
 replace st := st.grow g5
 clear g5 hb3
 refine stp (zA8 ?_)
 intro b7 w8 hb9 hc10 g11
 refine qZ 6 ?_
 have hge12 := Nat.le_trans K.size hb9
 have ne13 := qN hc4 hb9
 replace K := K.tr (NkP.of_grow g11)
 replace g0 := g0.tr g11
 replace st := st.grow g11
 replace hc4 := g11.heap hc4
 clear g11 hb9
 refine qZ 3 ?_
 refine stp (zN1 (a := .int .i64 p.seg) (b := .int .i64 p.off) zO3 rfl rfl rfl (zM3 _ hA hr hx hs g0 hbn st (by have := hl1; omega) p.seg p.off) ?_)
 rintro v_ w14 ⟨rfl, st2_, rel_⟩
 replace hc4 := rel_.hpN st hc4 (by decide) (by decide)
 replace hc10 := rel_.hpN st hc10 (by decide) (by decide)
 replace g0 := NkP.to_grow rel_ g0 (fun x_ hx_ => by simp only [List.mem_cons, List.mem_singleton, List.not_mem_nil, or_false] at hx_; (first | (subst hx_; first | assumption | exact hbn) | (rcases hx_ with rfl | rfl <;> assumption)))  (Nat.le_refl _)
 replace K := K.new_nk rel_ (fun x_ hx_ => by simp only [List.mem_cons, List.mem_singleton, List.not_mem_nil, or_false] at hx_; (first | (rcases hx_ with rfl | rfl <;> first | (right; simp; done) | (left; assumption)) | (subst hx_; first | (right; simp; done) | (left; assumption))))
 clear rel_ st
 have st := st2_
 clear st2_
 refine qZ 10 ?_
 refine stp (zI1 rfl rfl ?_)
 refine zA6 ?_
 refine zA2 (b := (decide (((s.word p.seg p.off).2) ≠ 0))) rfl (fun h1 => ?_) (fun h1 => ?_)
 ·
  replace h1 := qT h1
  refine qZ 2 ?_
  refine stp (zB0 (v := .agg #[.int .i64 0, .int .i64 0, .int .i64 0, .int .i64 0, .int .i64 0, .int .i64 0, .int .i64 0]) (fun w => by kernel_rfl) ?_)
  refine qZ 1 ?_
  refine stn (qS hc10 ?_)
  intro w15 hc16 u17
  replace hc4 := u17.heap hc4 ne13
  replace g0 := (by first | exact Grow.upd g0 u17 (Nat.le_trans g0w (by assumption)) | exact Grow.upd g0 u17 hbn | exact Grow.upd g0 u17 hb0)
  replace K := (by first | exact K.upd_new u17 (by assumption) | exact K.tr (NkP.of_upd u17 (by simp)))
  replace st := st.upd u17 hc10 (by decide) (by decide)
  clear u17 hc10
  refine qZ 3 ?_
  have h9 : zC9 s p = (Ob0, (s.word p.seg p.off).2) := by unfold zC9; rw [if_pos h1]
  refine ret2 (zA5 rfl hc16 (by rfl)) (zA1 (v := .int .u16 ((s.word p.seg p.off).2)) rfl) ⟨by rw [h9] <;> rfl, _, fun h_ => absurd h_ (by rw [h9]; exact h1), by omega, st, K⟩
 ·
  replace h1 := qF h1
  refine qZ 8 ?_
  refine stp (zB9 rfl rfl ?_ ?_); constructor <;> omega
  refine stp (zN1 (a := .int .i64 p.seg) (b := .int .i64 (p.off + 1)) zO3 rfl rfl rfl (zM3 _ hA hr hx hs g0 hbn st (by have := hl1; omega) p.seg (p.off + 1)) ?_)
  rintro v_ w18 ⟨rfl, st2_, rel_⟩
  replace hc4 := rel_.hpN st hc4 (by decide) (by decide)
  replace hc10 := rel_.hpN st hc10 (by decide) (by decide)
  replace g0 := NkP.to_grow rel_ g0 (fun x_ hx_ => by simp only [List.mem_cons, List.mem_singleton, List.not_mem_nil, or_false] at hx_; (first | (subst hx_; first | assumption | exact hbn) | (rcases hx_ with rfl | rfl <;> assumption)))  (Nat.le_refl _)
  replace K := K.new_nk rel_ (fun x_ hx_ => by simp only [List.mem_cons, List.mem_singleton, List.not_mem_nil, or_false] at hx_; (first | (rcases hx_ with rfl | rfl <;> first | (right; simp; done) | (left; assumption)) | (subst hx_; first | (right; simp; done) | (left; assumption))))
  clear rel_ st
  have st := st2_
  clear st2_
  refine qZ 10 ?_
  refine stp (zI1 rfl rfl ?_)
  refine zA6 ?_
  refine zA2 (b := (decide (((s.word p.seg (p.off + 1)).2) ≠ 0))) rfl (fun h2 => ?_) (fun h2 => ?_)
  ·
   replace h2 := qT h2
   refine qZ 2 ?_
   refine stp (zB0 (v := .agg #[.int .i64 0, .int .i64 0, .int .i64 0, .int .i64 0, .int .i64 0, .int .i64 0, .int .i64 0]) (fun w => by kernel_rfl) ?_)
   refine qZ 1 ?_
   refine stn (qS hc10 ?_)
   intro w19 hc20 u21
   replace hc4 := u21.heap hc4 ne13
   replace g0 := (by first | exact Grow.upd g0 u21 (Nat.le_trans g0w (by assumption)) | exact Grow.upd g0 u21 hbn | exact Grow.upd g0 u21 hb0)
   replace K := (by first | exact K.upd_new u21 (by assumption) | exact K.tr (NkP.of_upd u21 (by simp)))
   replace st := st.upd u21 hc10 (by decide) (by decide)
   clear u21 hc10
   refine qZ 3 ?_
   have h9 : zC9 s p = (Ob0, (s.word p.seg (p.off + 1)).2) := by unfold zC9; rw [if_neg h1, if_pos h2]
   refine ret2 (zA5 rfl hc20 (by rfl)) (zA1 (v := .int .u16 ((s.word p.seg (p.off + 1)).2)) rfl) ⟨by rw [h9] <;> rfl, _, fun _ => rfl, by omega, st, K⟩
  ·
   replace h2 := qF h2
   refine qZ 4 ?_
   refine stp (zA4 (v := .tuple #[.agg #[.int .i64 ((decP (s.word p.seg p.off).1).kind), .int .i64 ((decP (s.word p.seg p.off).1).off), .int .i64 ((decP (s.word p.seg p.off).1).data), .int .i64 ((decP (s.word p.seg p.off).1).ptrs), .int .i64 ((decP (s.word p.seg p.off).1).size), .int .i64 ((decP (s.word p.seg p.off).1).count), .int .i64 ((decP (s.word p.seg p.off).1).seg), .bool ((decP (s.word p.seg p.off).1).dbl)], .int .u16 (decE (s.word p.seg p.off).1)]) rfl (zK3 _ _ (num9 hs hx p.seg p.off).1 (num9 hs hx p.seg p.off).2.1) ?_)
   intro w22 g23
   replace hc4 := g23.heap hc4
   replace hc10 := g23.heap hc10
   replace g0 := g0.tr g23
   replace K := K.tr (NkP.of_grow g23)
   replace st := st.grow g23
   clear g23
   refine qZ 3 ?_
   refine stp (zA8 ?_)
   intro b24 w25 hb26 hc27 g28
   refine stn (qS hc27 ?_)
   intro w29 hc30 u31
   have g32 := g28.upd u31 hb26
   have hge33 := Nat.le_trans K.size hb26
   have ne34 := qN hc4 hb26
   have ne35 := qN hc10 hb26
   replace hc4 := g32.heap hc4
   replace hc10 := g32.heap hc10
   replace g0 := g0.tr g32
   replace K := K.tr (NkP.of_grow g32)
   replace st := st.grow g32
   clear u31 g28 hb26 hc27
   refine qZ 6 ?_
   refine stp (zI1 rfl rfl ?_)
   refine zA6 ?_
   refine zA2 (b := (decide ((decE (s.word p.seg p.off).1) ≠ 0))) rfl (fun h3 => ?_) (fun h3 => ?_)
   ·
    replace h3 := qT h3
    refine qZ 2 ?_
    refine stp (zB0 (v := .agg #[.int .i64 0, .int .i64 0, .int .i64 0, .int .i64 0, .int .i64 0, .int .i64 0, .int .i64 0]) (fun w => by kernel_rfl) ?_)
    refine qZ 1 ?_
    refine stn (qS hc10 ?_)
    intro w36 hc37 u38
    replace hc4 := u38.heap hc4 ne13
    replace g0 := (by first | exact Grow.upd g0 u38 (Nat.le_trans g0w (by assumption)) | exact Grow.upd g0 u38 hbn | exact Grow.upd g0 u38 hb0)
    replace K := (by first | exact K.upd_new u38 (by assumption) | exact K.tr (NkP.of_upd u38 (by simp)))
    replace st := st.upd u38 hc10 (by decide) (by decide)
    replace hc30 := u38.heap hc30 ne35.symm
    clear u38 hc10
    refine qZ 3 ?_
    have h9 : zC9 s p = (Ob0, decE (s.word p.seg p.off).1) := by unfold zC9; rw [if_neg h1, if_neg h2, if_pos h3]
    refine ret2 (zA5 rfl hc37 (by rfl)) (zA1 (v := .int .u16 (decE (s.word p.seg p.off).1)) rfl) ⟨by rw [h9] <;> rfl, _, fun _ => rfl, by omega, st, K⟩
   ·
    replace h3 := qF h3
    refine qZ 4 ?_
    refine stp (zA4 (v := .tuple #[.agg #[.int .i64 ((decP (s.word p.seg (p.off + 1)).1).kind), .int .i64 ((decP (s.word p.seg (p.off + 1)).1).off), .int .i64 ((decP (s.word p.seg (p.off + 1)).1).data), .int .i64 ((decP (s.word p.seg (p.off + 1)).1).ptrs), .int .i64 ((decP (s.word p.seg (p.off + 1)).1).size), .int .i64 ((decP (s.word p.seg (p.off + 1)).1).count), .int .i64 ((decP (s.word p.seg (p.off + 1)).1).seg), .bool ((decP (s.word p.seg (p.off + 1)).1).dbl)], .int .u16 (decE (s.word p.seg (p.off + 1)).1)]) rfl (zK3 _ _ (num9 hs hx p.seg (p.off + 1)).1 (num9 hs hx p.seg (p.off + 1)).2.1) ?_)
    intro w39 g40
    replace hc4 := g40.heap hc4
    replace hc10 := g40.heap hc10
    replace g0 := g0.tr g40
    replace K := K.tr (NkP.of_grow g40)
    replace st := st.grow g40
    replace hc30 := g40.heap hc30
    clear g40
    refine qZ 3 ?_
    refine stp (zA8 ?_)
    intro b41 w42 hb43 hc44 g45
    refine stn (qS hc44 ?_)
    intro w46 hc47 u48
    have g49 := g45.upd u48 hb43
    have hge50 := Nat.le_trans K.size hb43
    have ne51 := qN hc4 hb43
    have ne52 := qN hc10 hb43
    have ne53 := qN hc30 hb43
    replace hc4 := g49.heap hc4
    replace hc10 := g49.heap hc10
    replace g0 := g0.tr g49
    replace K := K.tr (NkP.of_grow g49)
    replace st := st.grow g49
    replace hc30 := g49.heap hc30
    clear u48 g45 hb43 hc44
    refine qZ 7 ?_
    refine stp (zI1 rfl rfl ?_)
    refine qZ 2 ?_
    refine zA2 (b := (decide ((decE (s.word p.seg (p.off + 1)).1) ≠ 0))) rfl (fun h4 => ?_) (fun h4 => ?_)
    ·
     replace h4 := qT h4
     refine qZ 2 ?_
     refine stp (zB0 (v := .agg #[.int .i64 0, .int .i64 0, .int .i64 0, .int .i64 0, .int .i64 0, .int .i64 0, .int .i64 0]) (fun w => by kernel_rfl) ?_)
     refine qZ 1 ?_
     refine stn (qS hc10 ?_)
     intro w54 hc55 u56
     replace hc4 := u56.heap hc4 ne13
     replace g0 := (by first | exact Grow.upd g0 u56 (Nat.le_trans g0w (by assumption)) | exact Grow.upd g0 u56 hbn | exact Grow.upd g0 u56 hb0)
     replace K := (by first | exact K.upd_new u56 (by assumption) | exact K.tr (NkP.of_upd u56 (by simp)))
     replace st := st.upd u56 hc10 (by decide) (by decide)
     replace hc30 := u56.heap hc30 ne35.symm
     replace hc47 := u56.heap hc47 ne52.symm
     clear u56 hc10
     refine qZ 3 ?_
     have h9 : zC9 s p = (Ob0, decE (s.word p.seg (p.off + 1)).1) := by unfold zC9; rw [if_neg h1, if_neg h2, if_neg h3, if_pos h4]
     refine ret2 (zA5 rfl hc55 (by rfl)) (zA1 (v := .int .u16 (decE (s.word p.seg (p.off + 1)).1)) rfl) ⟨by rw [h9] <;> rfl, _, fun _ => rfl, by omega, st, K⟩
    ·
     replace h4 := qF h4
     refine qZ 4 ?_
     refine stp (zI1 rfl rfl ?_)
     refine qZ 1 ?_
     refine qG 2 ?_
     refine stp (zI0 rfl rfl rfl ?_)
     refine qZ 1 ?_
     refine zA3 (zB3 (s := .bool _) (v := .agg #[.int .i64 ((decP (s.word p.seg (p.off + 1)).1).kind), .int .i64 ((decP (s.word p.seg (p.off + 1)).1).off), .int .i64 ((decP (s.word p.seg (p.off + 1)).1).data), .int .i64 ((decP (s.word p.seg (p.off + 1)).1).ptrs), .int .i64 ((decP (s.word p.seg (p.off + 1)).1).size), .int .i64 ((decP (s.word p.seg (p.off + 1)).1).count), .int .i64 ((decP (s.word p.seg (p.off + 1)).1).seg), .bool ((decP (s.word p.seg (p.off + 1)).1).dbl)]) rfl (zE2 _) (fun hc59 => ?_) ?_)
     ·
      have hc59_ := hc59
      try simp only [sb] at hc59_
      refine zD8 rfl hc47 (by rfl) ?_
      exact ⟨rfl, rfl⟩
     refine zA3 (zZ5 (s := .bool ((decide (((decP (s.word p.seg p.off).1).kind) ≠ 3)) || ((decP (s.word p.seg p.off).1).dbl))) (b := false) (v := .bool (zH0 (decP (s.word p.seg (p.off + 1)).1))) rfl (zE2 _) (fun hc60 => ?_) ?_)
     ·
      have hc60_ := hc60
      try simp only [sb] at hc60_
      exact zN7 (l := ([.agg #[.int .i64 ((decP (s.word p.seg (p.off + 1)).1).kind), .int .i64 ((decP (s.word p.seg (p.off + 1)).1).off), .int .i64 ((decP (s.word p.seg (p.off + 1)).1).data), .int .i64 ((decP (s.word p.seg (p.off + 1)).1).ptrs), .int .i64 ((decP (s.word p.seg (p.off + 1)).1).size), .int .i64 ((decP (s.word p.seg (p.off + 1)).1).count), .int .i64 ((decP (s.word p.seg (p.off + 1)).1).seg), .bool ((decP (s.word p.seg (p.off + 1)).1).dbl)]] : List Value)) rfl (by show ([gv (!((decide (((decP (s.word p.seg p.off).1).kind) ≠ 3)) || ((decP (s.word p.seg p.off).1).dbl))) (.agg #[.int .i64 ((decP (s.word p.seg (p.off + 1)).1).kind), .int .i64 ((decP (s.word p.seg (p.off + 1)).1).off), .int .i64 ((decP (s.word p.seg (p.off + 1)).1).data), .int .i64 ((decP (s.word p.seg (p.off + 1)).1).ptrs), .int .i64 ((decP (s.word p.seg (p.off + 1)).1).size), .int .i64 ((decP (s.word p.seg (p.off + 1)).1).count), .int .i64 ((decP (s.word p.seg (p.off + 1)).1).seg), .bool ((decP (s.word p.seg (p.off + 1)).1).dbl)])] : List Value) = _; rw [gvt hc60]) (zK4 _ (decP (s.word p.seg (p.off + 1)).1)) (fun w2_ g2_ => ⟨rfl, g2_⟩)
     intro w61 g62
     replace hc4 := g62.heap hc4
     replace hc10 := g62.heap hc10
     replace g0 := g0.tr g62
     replace K := K.tr (NkP.of_grow g62)
     replace st := st.grow g62
     replace hc30 := g62.heap hc30
     replace hc47 := g62.heap hc47
     clear g62
     refine zA3 (zB3 (s := .bool _) (v := .bool (!(zH0 (decP (s.word p.seg (p.off + 1)).1)))) rfl (zE2 _) (fun hc63 => ?_) ?_)
     ·
      have hc63_ := hc63
      try simp only [sb] at hc63_
      refine zQ6 (gvt hc63) ?_
      exact ⟨rfl, rfl⟩
     refine stp (zI0 rfl rfl rfl ?_)
     refine qZ 1 ?_
     refine qG 2 ?_
     refine zA3 (zB3 (s := .bool _) (v := .bool (decide (((decP (s.word p.seg (p.off + 1)).1).off) ≠ 0))) rfl (zE2 _) (fun hc66 => ?_) ?_)
     ·
      have hc66_ := hc66
      try simp only [sb] at hc66_
      refine zI1 (gvt hc66) rfl ?_
      exact ⟨rfl, rfl⟩
     refine stp (zI0 rfl rfl rfl ?_)
     refine qZ 2 ?_
     refine zA2 (b := ((((decide (((decP (s.word p.seg p.off).1).kind) ≠ 3)) || ((decP (s.word p.seg p.off).1).dbl)) || (!(zH0 (decP (s.word p.seg (p.off + 1)).1)))) || (decide (((decP (s.word p.seg (p.off + 1)).1).off) ≠ 0)))) rfl (fun h5 => ?_) (fun h5 => ?_)
     ·
      simp only [sb] at h5
      have h8 : (decP (s.word p.seg p.off).1).kind ≠ 3 ∨ (decP (s.word p.seg p.off).1).dbl = true ∨ zH0 (decP (s.word p.seg (p.off + 1)).1) = false ∨ (decP (s.word p.seg (p.off + 1)).1).off ≠ 0 := by simpa [or_assoc] using h5
      refine qZ 2 ?_
      refine stp (zB0 (v := .agg #[.int .i64 0, .int .i64 0, .int .i64 0, .int .i64 0, .int .i64 0, .int .i64 0, .int .i64 0]) (fun w => by kernel_rfl) ?_)
      refine stn (qS hc10 ?_)
      intro w67 hc68 u69
      replace hc4 := u69.heap hc4 ne13
      replace g0 := (by first | exact Grow.upd g0 u69 (Nat.le_trans g0w (by assumption)) | exact Grow.upd g0 u69 hbn | exact Grow.upd g0 u69 hb0)
      replace K := (by first | exact K.upd_new u69 (by assumption) | exact K.tr (NkP.of_upd u69 (by simp)))
      replace st := st.upd u69 hc10 (by decide) (by decide)
      replace hc30 := u69.heap hc30 ne35.symm
      replace hc47 := u69.heap hc47 ne52.symm
      clear u69 hc10
      refine qZ 3 ?_
      have h9 : zC9 s p = (Ob0, 23) := by unfold zC9; rw [if_neg h1, if_neg h2, if_neg h3, if_neg h4, if_pos h8]
      refine ret2 (zA5 rfl hc68 (by rfl)) (zA1 (v := .int .u16 23) rfl) ⟨by rw [h9] <;> rfl, _, fun _ => rfl, by omega, st, K⟩
     ·
      simp only [sb] at h5
      have h8 : ¬ ((decP (s.word p.seg p.off).1).kind ≠ 3 ∨ (decP (s.word p.seg p.off).1).dbl = true ∨ zH0 (decP (s.word p.seg (p.off + 1)).1) = false ∨ (decP (s.word p.seg (p.off + 1)).1).off ≠ 0) := by simpa [and_assoc] using h5
      refine qZ 9 ?_
      refine stp (zA4 (v := .tuple #[.agg #[.int .i64 ((zA9 s (decP (s.word p.seg (p.off + 1)).1) ((decP (s.word p.seg p.off).1).seg) ((decP (s.word p.seg p.off).1).off)).1.kind), .int .i64 ((zA9 s (decP (s.word p.seg (p.off + 1)).1) ((decP (s.word p.seg p.off).1).seg) ((decP (s.word p.seg p.off).1).off)).1.seg), .int .i64 ((zA9 s (decP (s.word p.seg (p.off + 1)).1) ((decP (s.word p.seg p.off).1).seg) ((decP (s.word p.seg p.off).1).off)).1.at_), .int .i64 ((zA9 s (decP (s.word p.seg (p.off + 1)).1) ((decP (s.word p.seg p.off).1).seg) ((decP (s.word p.seg p.off).1).off)).1.data), .int .i64 ((zA9 s (decP (s.word p.seg (p.off + 1)).1) ((decP (s.word p.seg p.off).1).seg) ((decP (s.word p.seg p.off).1).off)).1.ptrs), .int .i64 ((zA9 s (decP (s.word p.seg (p.off + 1)).1) ((decP (s.word p.seg p.off).1).seg) ((decP (s.word p.seg p.off).1).off)).1.size), .int .i64 ((zA9 s (decP (s.word p.seg (p.off + 1)).1) ((decP (s.word p.seg p.off).1).seg) ((decP (s.word p.seg p.off).1).off)).1.count)], .int .u16 ((zA9 s (decP (s.word p.seg (p.off + 1)).1) ((decP (s.word p.seg p.off).1).seg) ((decP (s.word p.seg p.off).1).off)).2)]) rfl (zU8 _ hA hr hx hs g0 hbn st (by omega) (decP (s.word p.seg (p.off + 1)).1) ((decP (s.word p.seg p.off).1).seg) ((decP (s.word p.seg p.off).1).off) hr9 (by simp only [inR]; omega)) ?_)
      intro w70 g71
      replace hc4 := g71.heap hc4
      replace hc10 := g71.heap hc10
      replace g0 := g0.tr g71
      replace K := K.tr (NkP.of_grow g71)
      replace st := st.grow g71
      replace hc30 := g71.heap hc30
      replace hc47 := g71.heap hc47
      clear g71
      refine qZ 2 ?_
      refine stn (qS hc10 ?_)
      intro w72 hc73 u74
      replace hc4 := u74.heap hc4 ne13
      replace g0 := (by first | exact Grow.upd g0 u74 (Nat.le_trans g0w (by assumption)) | exact Grow.upd g0 u74 hbn | exact Grow.upd g0 u74 hb0)
      replace K := (by first | exact K.upd_new u74 (by assumption) | exact K.tr (NkP.of_upd u74 (by simp)))
      replace st := st.upd u74 hc10 (by decide) (by decide)
      replace hc30 := u74.heap hc30 ne35.symm
      replace hc47 := u74.heap hc47 ne52.symm
      clear u74 hc10
      refine qZ 3 ?_
      have h9 : zC9 s p = zA9 s (decP (s.word p.seg (p.off + 1)).1) (decP (s.word p.seg p.off).1).seg (decP (s.word p.seg p.off).1).off := by unfold zC9; rw [if_neg h1, if_neg h2, if_neg h3, if_neg h4, if_neg h8]
      refine ret2 (zA5 rfl hc73 (by rfl)) (zA1 (v := .int .u16 ((zA9 s (decP (s.word p.seg (p.off + 1)).1) ((decP (s.word p.seg p.off).1).seg) ((decP (s.word p.seg p.off).1).off)).2)) rfl) ⟨by rw [h9] <;> rfl, _, fun _ => rfl, by omega, st, K⟩
theorem zT4 (w : World) {w0 : World} {u : Value} {A : List (List Int)} (hA : zF3 w0 u A) (hr : zD9 A = true) (hx : AllU A) {s : Src} (hs : s = zB1 A) (g0 : Grow w0 w) {bn : Nat} (hbn : w0.heap.size ≤ bn) {L : List Spn} (st : NtS 110 79 61 w0.heap.size w u bn L) (hL : L.length ≤ 99000) (seg a : Int) : Calls Tryz.prog 52 #[.iface 74 (.pointer (some ⟨bn, 0, none⟩)), .int .i64 seg, .int .i64 a] w (Ret fun v w' => v = .tuple #[.agg #[.int .i64 ((zA0 s seg a).1.kind), .int .i64 ((zA0 s seg a).1.seg), .int .i64 ((zA0 s seg a).1.at_), .int .i64 ((zA0 s seg a).1.data), .int .i64 ((zA0 s seg a).1.ptrs), .int .i64 ((zA0 s seg a).1.size), .int .i64 ((zA0 s seg a).1.count)], .int .u16 ((zA0 s seg a).2)] ∧ ∃ L2, ((zA0 s seg a).2 = 0 → L2 = zG1 A L seg a) ∧ L2.length ≤ L.length + 3 ∧ NtS 110 79 61 w0.heap.size w' u bn L2 ∧ NkP [bn] 61 w0.heap.size w w') := by
 have K := NkP.refl [bn] 61 w0.heap.size w
 have g0w := g0.size
 have hq := ptr9 hs hx seg a
 have hqo := hq.off
 have hqk := hq.kind
 have hln := zS0 A L seg a
 refine zB8 Tryz.func52 Tryz.ntmps52 Tryz.results52 rfl rfl ?_
 refine qZ 2 ?_
 refine stp (zA8 ?_)
 intro b1 w2 hb3 hc4 g5
 refine qZ 6 ?_
 refine stp (yA1 (T := 74) (v := .pointer (some ⟨bn, 0, none⟩)) rfl rfl ?_)
 refine zA6 ?_
 have hge6 := Nat.le_trans K.size hb3
 replace K := K.tr (NkP.of_grow g5)
 replace g0 := g0.tr g5
 replace st := st.grow g5
 clear g5 hb3
 refine zQ4 rfl ?_
 refine qZ 6 ?_
 refine stp ?_
 refine zD2 rfl (zW4 _ hA hr hx hs g0 hbn st (by have := hL; omega) seg a) ?_
 rintro v_ w7 ⟨rfl, st2_, rel_⟩
 replace hc4 := rel_.hpN st hc4 (by decide) (by decide)
 replace g0 := NkP.to_grow rel_ g0 (fun x_ hx_ => by simp only [List.mem_cons, List.mem_singleton, List.not_mem_nil, or_false] at hx_; (first | (subst hx_; first | assumption | exact hbn) | (rcases hx_ with rfl | rfl <;> assumption)))  (Nat.le_refl _)
 replace K := K.new_nk rel_ (fun x_ hx_ => by simp only [List.mem_cons, List.mem_singleton, List.not_mem_nil, or_false] at hx_; (first | (rcases hx_ with rfl | rfl <;> first | (right; simp; done) | (left; assumption)) | (subst hx_; first | (right; simp; done) | (left; assumption))))
 clear rel_ st
 have st := st2_
 clear st2_
 have hl_w7 := zS0 A L seg a
 refine qZ 3 ?_
 refine stp (zA8 ?_)
 intro b8 w9 hb10 hc11 g12
 refine stn (qS hc11 ?_)
 intro w13 hc14 u15
 have g16 := g12.upd u15 hb10
 have hge17 := Nat.le_trans K.size hb10
 have ne18 := qN hc4 hb10
 replace hc4 := g16.heap hc4
 replace g0 := g0.tr g16
 replace K := K.tr (NkP.of_grow g16)
 replace st := st.grow g16
 clear u15 g12 hb10 hc11
 refine qZ 7 ?_
 refine stp (zI1 rfl rfl ?_)
 refine qZ 1 ?_
 refine qG 2 ?_
 refine zA3 (zB3 (s := .bool _) (v := .bool (decide (((ptrS s seg a).1.kind) = 0))) rfl (zE2 _) (fun hc21 => ?_) ?_)
 ·
  have hc21_ := hc21
  try simp only [sb] at hc21_
  refine zD5 (gvt hc21) rfl ?_
  exact ⟨rfl, rfl⟩
 refine stp (zI0 rfl rfl rfl ?_)
 refine qZ 2 ?_
 refine zA2 (b := ((decide (((ptrS s seg a).2) ≠ 0)) || (decide (((ptrS s seg a).1.kind) = 0)))) rfl (fun h1 => ?_) (fun h1 => ?_)
 ·
  simp only [sb] at h1
  refine qZ 2 ?_
  refine stp (zB0 (v := .agg #[.int .i64 0, .int .i64 0, .int .i64 0, .int .i64 0, .int .i64 0, .int .i64 0, .int .i64 0]) (fun w => by kernel_rfl) ?_)
  refine qZ 1 ?_
  refine stn (qS hc4 ?_)
  intro w22 hc23 u24
  replace g0 := (by first | exact Grow.upd g0 u24 (Nat.le_trans g0w (by assumption)) | exact Grow.upd g0 u24 hbn | exact Grow.upd g0 u24 hb0)
  replace K := (by first | exact K.upd_new u24 (by assumption) | exact K.tr (NkP.of_upd u24 (by simp)))
  replace st := st.upd u24 hc4 (by decide) (by decide)
  replace hc14 := u24.heap hc14 ne18.symm
  clear u24 hc4
  refine qZ 3 ?_
  have h9 : zA0 s seg a = (Ob0, (ptrS s seg a).2) := by unfold zA0; rw [if_pos h1]
  refine ret2 (zA5 rfl hc23 (by rfl)) (zA1 (v := .int .u16 ((ptrS s seg a).2)) rfl) ⟨by rw [h9] <;> rfl, _, fun h_ => by rw [h9] at h_; exact (yN0 hs h_ (by have h_ : (ptrS s seg a).2 = 0 := h_; omega) L).symm, by omega, st, K⟩
 ·
  simp only [sb] at h1
  have hz : (ptrS s seg a).2 = 0 := by omega
  have hb := yZ8 hs hr hz
  have h1n : ¬ ((ptrS s seg a).2 ≠ 0 ∨ (ptrS s seg a).1.kind = 0) := by omega
  refine qZ 3 ?_
  refine stp (zA4 (v := .bool (zH0 ((ptrS s seg a).1))) rfl (zK4 _ ((ptrS s seg a).1)) ?_)
  intro w25 g26
  replace hc4 := g26.heap hc4
  replace g0 := g0.tr g26
  replace K := K.tr (NkP.of_grow g26)
  replace st := st.grow g26
  replace hc14 := g26.heap hc14
  clear g26
  refine qZ 2 ?_
  refine zA2 (b := (zH0 ((ptrS s seg a).1))) rfl (fun h2 => ?_) (fun h2 => ?_)
  ·
   have hkn : (ptrS s seg a).1.kind ≠ 3 := by intro h_; simp [zH0, h_] at h2
   refine qZ 6 ?_
   refine stp (zB9 rfl rfl ?_ ?_); constructor <;> omega
   refine qZ 2 ?_
   refine stp (zB9 rfl rfl ?_ ?_); constructor <;> omega
   refine stp (zA4 (v := .tuple #[.agg #[.int .i64 ((zA9 s ((ptrS s seg a).1) seg ((a + 1) + ((ptrS s seg a).1.off))).1.kind), .int .i64 ((zA9 s ((ptrS s seg a).1) seg ((a + 1) + ((ptrS s seg a).1.off))).1.seg), .int .i64 ((zA9 s ((ptrS s seg a).1) seg ((a + 1) + ((ptrS s seg a).1.off))).1.at_), .int .i64 ((zA9 s ((ptrS s seg a).1) seg ((a + 1) + ((ptrS s seg a).1.off))).1.data), .int .i64 ((zA9 s ((ptrS s seg a).1) seg ((a + 1) + ((ptrS s seg a).1.off))).1.ptrs), .int .i64 ((zA9 s ((ptrS s seg a).1) seg ((a + 1) + ((ptrS s seg a).1.off))).1.size), .int .i64 ((zA9 s ((ptrS s seg a).1) seg ((a + 1) + ((ptrS s seg a).1.off))).1.count)], .int .u16 ((zA9 s ((ptrS s seg a).1) seg ((a + 1) + ((ptrS s seg a).1.off))).2)]) rfl (zU8 _ hA hr hx hs g0 hbn st (by omega) ((ptrS s seg a).1) seg ((a + 1) + ((ptrS s seg a).1.off)) hq (by simp only [inR]; omega)) ?_)
   intro w27 g28
   replace hc4 := g28.heap hc4
   replace g0 := g0.tr g28
   replace K := K.tr (NkP.of_grow g28)
   replace st := st.grow g28
   replace hc14 := g28.heap hc14
   clear g28
   refine qZ 2 ?_
   refine stn (qS hc4 ?_)
   intro w29 hc30 u31
   replace g0 := (by first | exact Grow.upd g0 u31 (Nat.le_trans g0w (by assumption)) | exact Grow.upd g0 u31 hbn | exact Grow.upd g0 u31 hb0)
   replace K := (by first | exact K.upd_new u31 (by assumption) | exact K.tr (NkP.of_upd u31 (by simp)))
   replace st := st.upd u31 hc4 (by decide) (by decide)
   replace hc14 := u31.heap hc14 ne18.symm
   clear u31 hc4
   refine qZ 3 ?_
   have h9 : zA0 s seg a = zA9 s (ptrS s seg a).1 seg (a + 1 + (ptrS s seg a).1.off) := by unfold zA0; rw [if_neg h1n, if_pos h2]
   refine ret2 (zA5 rfl hc30 (by rfl)) (zA1 (v := .int .u16 ((zA9 s ((ptrS s seg a).1) seg ((a + 1) + ((ptrS s seg a).1.off))).2)) rfl) ⟨by rw [h9] <;> rfl, _, fun _ => (yN0 hs hz hkn L).symm, by omega, st, K⟩
  ·
   have hk3 : (ptrS s seg a).1.kind = 3 := by have h_ : ¬ ((ptrS s seg a).1.kind = 1 ∨ (ptrS s seg a).1.kind = 2) := (by simpa [zH0] using h2); omega
   refine qZ 6 ?_
   refine zA2 (b := ((ptrS s seg a).1.dbl)) rfl (fun h3 => ?_) (fun h3 => ?_)
   ·
    refine qZ 4 ?_
    refine stp ?_
    refine zD2 rfl (qR9 _ hA hr hx hs g0 hbn st (by omega) (ptrS s seg a).1 hq) ?_
    rintro v_ w32 ⟨rfl, L2, he2, hl2, st2_, rel_⟩
    replace hc4 := rel_.hpN st hc4 (by decide) (by decide)
    replace hc14 := rel_.hpN st hc14 (by decide) (by decide)
    replace g0 := NkP.to_grow rel_ g0 (fun x_ hx_ => by simp only [List.mem_cons, List.mem_singleton, List.not_mem_nil, or_false] at hx_; (first | (subst hx_; first | assumption | exact hbn) | (rcases hx_ with rfl | rfl <;> assumption)))  (Nat.le_refl _)
    replace K := K.new_nk rel_ (fun x_ hx_ => by simp only [List.mem_cons, List.mem_singleton, List.not_mem_nil, or_false] at hx_; (first | (rcases hx_ with rfl | rfl <;> first | (right; simp; done) | (left; assumption)) | (subst hx_; first | (right; simp; done) | (left; assumption))))
    clear rel_ st
    have st := st2_
    clear st2_
    refine qZ 2 ?_
    refine stn (qS hc4 ?_)
    intro w33 hc34 u35
    replace hc14 := u35.heap hc14 ne18.symm
    replace g0 := (by first | exact Grow.upd g0 u35 (Nat.le_trans g0w (by assumption)) | exact Grow.upd g0 u35 hbn | exact Grow.upd g0 u35 hb0)
    replace K := (by first | exact K.upd_new u35 (by assumption) | exact K.tr (NkP.of_upd u35 (by simp)))
    replace st := st.upd u35 hc4 (by decide) (by decide)
    clear u35 hc4
    refine qZ 3 ?_
    have h9 : zA0 s seg a = zC9 s (ptrS s seg a).1 := by unfold zA0; rw [if_neg h1n, if_neg (by simp [h2]), if_pos h3]
    refine ret2 (zA5 rfl hc34 (by rfl)) (zA1 (v := .int .u16 ((zC9 s (ptrS s seg a).1).2)) rfl) ⟨by rw [h9] <;> rfl, _, fun h_ => by rw [he2 (by rw [h9] at h_; exact h_), yX2 hs hz hk3 h3], by omega, st, K⟩
   ·
    refine qZ 5 ?_
    refine stp ?_
    refine zD2 rfl (qN4 _ hA hr hx hs g0 hbn st (by omega) (ptrS s seg a).1 hq) ?_
    rintro v_ w36 ⟨rfl, st2_, rel_⟩
    replace hc4 := rel_.hpN st hc4 (by decide) (by decide)
    replace hc14 := rel_.hpN st hc14 (by decide) (by decide)
    replace g0 := NkP.to_grow rel_ g0 (fun x_ hx_ => by simp only [List.mem_cons, List.mem_singleton, List.not_mem_nil, or_false] at hx_; (first | (subst hx_; first | assumption | exact hbn) | (rcases hx_ with rfl | rfl <;> assumption)))  (Nat.le_refl _)
    replace K := K.new_nk rel_ (fun x_ hx_ => by simp only [List.mem_cons, List.mem_singleton, List.not_mem_nil, or_false] at hx_; (first | (rcases hx_ with rfl | rfl <;> first | (right; simp; done) | (left; assumption)) | (subst hx_; first | (right; simp; done) | (left; assumption))))
    clear rel_ st
    have st := st2_
    clear st2_
    have hl3 := zS0 A (zK7 A L seg a) (ptrS s seg a).1.seg (ptrS s seg a).1.off
    refine qZ 2 ?_
    refine stn (qS hc4 ?_)
    intro w37 hc38 u39
    replace hc14 := u39.heap hc14 ne18.symm
    replace g0 := (by first | exact Grow.upd g0 u39 (Nat.le_trans g0w (by assumption)) | exact Grow.upd g0 u39 hbn | exact Grow.upd g0 u39 hb0)
    replace K := (by first | exact K.upd_new u39 (by assumption) | exact K.tr (NkP.of_upd u39 (by simp)))
    replace st := st.upd u39 hc4 (by decide) (by decide)
    clear u39 hc4
    refine qZ 3 ?_
    have h9 : zA0 s seg a = zC4 s (ptrS s seg a).1 := by unfold zA0; rw [if_neg h1n, if_neg (by simp [h2]), if_neg (by simp [h3])]
    refine ret2 (zA5 rfl hc38 (by rfl)) (zA1 (v := .int .u16 ((zC4 s (ptrS s seg a).1).2)) rfl) ⟨by rw [h9] <;> rfl, _, fun _ => (yR7 hs hz hk3 (by simp [h3]) L).symm, by omega, st, K⟩
theorem qX6 (w : World) {w0 : World} {u : Value} {A : List (List Int)} (hA : zF3 w0 u A) (hr : zD9 A = true) (hx : AllU A) {s : Src} (hs : s = zB1 A) (g0 : Grow w0 w) {bn : Nat} (hbn : w0.heap.size ≤ bn) {L : List Spn} (st : NtS 110 79 61 w0.heap.size w u bn L) (hL : L.length ≤ 99000) {b : Nat} {o : Ob} {left k : Int} (hb0 : w0.heap.size ≤ b) (hb : w.heap[b]? = some (.cells #[.iface 74 (.pointer (some ⟨bn, 0, none⟩)), .int .i64 o.kind, .int .i64 o.seg, .int .i64 o.at_, .int .i64 o.data, .int .i64 o.ptrs, .int .i64 o.size, .int .i64 o.count, .int .i64 left] 117 (0, 0))) (ho : ObR o) (hok : ObK o) (hk : 0 ≤ k) : Calls Tryz.prog 54 #[.pointer (some ⟨b, 0, none⟩), .int .i64 k] w (Ret fun v w' => v = .int .u16 (zH6 s o k).2 ∧ ∃ L2, ((zH6 s o k).2 = 0 → L2 = yF8 A L o k) ∧ L2.length ≤ L.length + 3 ∧ w'.heap[b]? = some (.cells #[.iface 74 (.pointer (some ⟨bn, 0, none⟩)), .int .i64 ((zH6 s o k).1.kind), .int .i64 ((zH6 s o k).1.seg), .int .i64 ((zH6 s o k).1.at_), .int .i64 ((zH6 s o k).1.data), .int .i64 ((zH6 s o k).1.ptrs), .int .i64 ((zH6 s o k).1.size), .int .i64 ((zH6 s o k).1.count), .int .i64 left] 117 (0, 0)) ∧ NtS 110 79 61 w0.heap.size w' u bn L2 ∧ NkP [bn, b] 61 w0.heap.size w w') := by
 obtain ⟨rk, rs, ra, rd, rp, rz, rc⟩ := ho
 have K := NkP.refl [bn, b] 61 w0.heap.size w
 have g0w := g0.size
 have hblt := zC2 hb
 refine zB8 Tryz.func54 Tryz.ntmps54 Tryz.results54 rfl rfl ?_
 refine qZ 9 ?_
 refine stp (zG9 rfl hb (by rfl) (by rfl) ?_)
 refine stp (zA8 ?_)
 intro b1 w2 hb3 hc4 g5
 refine stn (qS hc4 ?_)
 intro w6 hc7 u8
 have g9 := g5.upd u8 hb3
 have hge10 := Nat.le_trans K.size hb3
 have ne11 := qN hb hb3
 replace K := K.tr (NkP.of_grow g9)
 replace g0 := g0.tr g9
 replace st := st.grow g9
 replace hb := g9.heap hb
 clear u8 g5 hb3 hc4
 refine qZ 6 ?_
 refine stp (zF6 rfl rfl ?_)
 obtain ⟨at9, hat9⟩ : ∃ x, x = IntKind.i64.wrap (o.at_ + k) := ⟨_, rfl⟩
 rw [← hat9]
 refine qZ 8 ?_
 refine stp (zD5 rfl rfl ?_)
 refine qZ 1 ?_
 refine qG 2 ?_
 refine zA3 (zB3 (s := .bool _) (v := .bool (decide (o.kind = 1))) rfl (zE2 _) (fun hc14 => ?_) ?_)
 ·
  have hc14_ := hc14
  try simp only [sb] at hc14_
  refine zD5 (gvt hc14) rfl ?_
  exact ⟨rfl, rfl⟩
 refine qG 1 ?_
 refine zA3 (zB3 (s := gv (!(decide (o.kind = 0))) (.bool (decide (o.kind = 1)))) (b := true) (v := .int .i64 k) rfl (zL7 _ _) (fun hc16 => ?_) ?_)
 ·
  obtain ⟨hc16a, hc16b⟩ := and_t hc16
  have hc16a_ := hc16a
  try simp only [sb] at hc16a_
  have hc16b_ := qT hc16b
  refine zE3 rfl ?_
  exact ⟨rfl, rfl⟩
 refine zA3 (zB3 (s := gv (!(decide (o.kind = 0))) (.bool (decide (o.kind = 1)))) (b := true) (v := .pointer (some ⟨b1, 4, none⟩)) rfl (zL7 _ _) (fun hc17 => ?_) ?_)
 ·
  obtain ⟨hc17a, hc17b⟩ := and_t hc17
  have hc17a_ := hc17a
  try simp only [sb] at hc17a_
  have hc17b_ := qT hc17b
  refine zE0 rfl ?_
  exact ⟨rfl, rfl⟩
 refine zA3 (zB3 (s := gv (!(decide (o.kind = 0))) (.bool (decide (o.kind = 1)))) (b := true) (v := .int .i64 o.ptrs) rfl (zL7 _ _) (fun hc18 => ?_) ?_)
 ·
  obtain ⟨hc18a, hc18b⟩ := and_t hc18
  have hc18a_ := hc18a
  try simp only [sb] at hc18a_
  have hc18b_ := qT hc18b
  refine zG3 (v := .int .i64 o.ptrs) (gvt hc18) hc7 rfl ?_
  exact ⟨rfl, rfl⟩
 refine zA3 (zB3 (s := gv (!(decide (o.kind = 0))) (.bool (decide (o.kind = 1)))) (b := true) (v := .bool (decide (k ≥ o.ptrs))) rfl (zL7 _ _) (fun hc19 => ?_) ?_)
 ·
  obtain ⟨hc19a, hc19b⟩ := and_t hc19
  have hc19a_ := hc19a
  try simp only [sb] at hc19a_
  have hc19b_ := qT hc19b
  refine qB2 (gvt hc19) (gvt hc19) ?_
  exact ⟨rfl, rfl⟩
 refine zA3 (zB3 (s := .bool _) (v := .bool ((decide (o.kind = 1)) && (decide (k ≥ o.ptrs)))) rfl (zE2 _) (fun hc20 => ?_) ?_)
 ·
  have hc20_ := hc20
  try simp only [sb] at hc20_
  refine qD4 hc20 (gvt hc20) rfl rfl ?_
  exact ⟨rfl, rfl⟩
 refine stp (zI0 rfl rfl rfl ?_)
 refine qZ 2 ?_
 refine zA2 (b := ((decide (o.kind = 0)) || ((decide (o.kind = 1)) && (decide (k ≥ o.ptrs))))) rfl (fun h1 => ?_) (fun h1 => ?_)
 ·
  simp only [sb] at h1
  refine qZ 3 ?_
  refine stp (zB0 (v := .agg #[.int .i64 0, .int .i64 0, .int .i64 0, .int .i64 0, .int .i64 0, .int .i64 0, .int .i64 0]) (fun w => by kernel_rfl) ?_)
  refine qZ 2 ?_
  refine stn (zW9 (cs' := #[.iface 74 (.pointer (some ⟨bn, 0, none⟩)), .int .i64 0, .int .i64 0, .int .i64 0, .int .i64 0, .int .i64 0, .int .i64 0, .int .i64 0, .int .i64 left]) rfl rfl (by rfl) hb (by rfl) (by rfl) (by rfl) (by rfl) ?_)
  intro w21 hc22 u23
  replace K := (by first | exact K.upd_new u23 (by assumption) | exact K.tr (NkP.of_upd u23 (by simp)))
  replace g0 := (by first | exact Grow.upd g0 u23 (Nat.le_trans g0w (by assumption)) | exact Grow.upd g0 u23 hbn | exact Grow.upd g0 u23 hb0)
  replace st := st.upd u23 hb (by decide) (by decide)
  replace hc7 := u23.heap hc7 ne11.symm
  clear u23 hb
  refine qZ 6 ?_
  have h9 : zH6 s o k = (Ob0, 0) := by unfold zH6; rw [if_pos h1]
  refine ret1 (zA1 (v := .int .u16 0) rfl) ⟨by rw [h9], _, fun _ => by unfold yF8; rw [if_pos h1], by omega, by rw [h9]; exact hc22, st, K⟩
 ·
  simp only [sb] at h1
  have h1n : ¬ (o.kind = 0 ∨ o.kind = 1 ∧ k ≥ o.ptrs) := by omega
  refine qZ 4 ?_
  refine stp (zD5 rfl rfl ?_)
  refine qZ 2 ?_
  refine zA2 (b := (decide (o.kind = 1))) rfl (fun h2 => ?_) (fun h2 => ?_)
  ·
   replace h2 := qT h2
   have hat8 : at9 = o.at_ + k := by rw [hat9]; exact zH2 (by simp only [inR]; omega)
   refine qZ 4 ?_
   refine stp (zB9 rfl rfl ?_ ?_); constructor <;> omega
   refine qZ 3 ?_
   have kb_hc7 : ∀ w_, (nkR [bn, b] 61 w0.heap.size).r w6 w_ → w_.heap[b1]? = some (.cells #[.int .i64 o.kind, .int .i64 o.seg, .int .i64 o.at_, .int .i64 o.data, .int .i64 o.ptrs, .int .i64 o.size, .int .i64 o.count] 112 (0, 0)) := fun w_ k_ => NkP.hpN2 k_ st hb hc7 (by decide) (by decide) (by decide)
   have kb_g0 : ∀ w_, (nkR [bn, b] 61 w0.heap.size).r w6 w_ → Grow w0 w_ := fun w_ k_ => NkP.to_grow k_ g0 (fun x_ hx_ => by simp only [List.mem_cons, List.not_mem_nil, or_false] at hx_; rcases hx_ with rfl | rfl <;> assumption) (Nat.le_refl _)
   have kb_K : ∀ w_, (nkR [bn, b] 61 w0.heap.size).r w6 w_ → NkP [bn, b] 61 w0.heap.size w w_ := fun w_ k_ => K.tr k_
   refine qJ7 15 [[], [], [0], [1, 0], [2, 1, 0], [], [0], [], [6, 5, 4, 3, 2, 1, 0], [7, 6, 5, 4, 3, 2, 1, 0], [8, 7, 6, 5, 4, 3, 2, 1, 0], [9, 8, 7, 6, 5, 4, 3, 2, 1], [11, 10, 9, 8, 7, 6, 5, 4, 3, 2, 1], [12, 11, 10, 9, 8, 7, 6, 5, 4, 3, 2, 0], [13, 12, 11, 10, 9, 8, 7, 6, 5, 4, 3, 1, 0]] [4, 8, 14] (nkR [bn, b] 61 w0.heap.size) (fun k_ w_ => match k_ with | 0 => w_.heap[b]? = some (.cells #[.iface 74 (.pointer (some ⟨bn, 0, none⟩)), .int .i64 o.kind, .int .i64 o.seg, .int .i64 o.at_, .int .i64 o.data, .int .i64 o.ptrs, .int .i64 o.size, .int .i64 o.count, .int .i64 left] 117 (0, 0)) ∧ NtS 110 79 61 w0.heap.size w_ u bn L | 1 => w_.heap[b]? = some (.cells #[.iface 74 (.pointer (some ⟨bn, 0, none⟩)), .int .i64 o.kind, .int .i64 o.seg, .int .i64 o.at_, .int .i64 o.data, .int .i64 o.ptrs, .int .i64 o.size, .int .i64 o.count, .int .i64 left] 117 (0, 0)) ∧ NtS 110 79 61 w0.heap.size w_ u bn L | 2 => (∃ L2, (((zA0 s o.seg (at9 + o.data))).2 = 0 → L2 = zG1 A L o.seg (at9 + o.data)) ∧ L2.length ≤ L.length + 3 ∧ w_.heap[b]? = some (.cells #[.iface 74 (.pointer (some ⟨bn, 0, none⟩)), .int .i64 o.kind, .int .i64 o.seg, .int .i64 o.at_, .int .i64 o.data, .int .i64 o.ptrs, .int .i64 o.size, .int .i64 o.count, .int .i64 left] 117 (0, 0)) ∧ NtS 110 79 61 w0.heap.size w_ u bn L2) | _ => (∃ L2, (((zA0 s o.seg (at9 + o.data))).2 = 0 → L2 = zG1 A L o.seg (at9 + o.data)) ∧ L2.length ≤ L.length + 3 ∧ w_.heap[b]? = some (.cells #[.iface 74 (.pointer (some ⟨bn, 0, none⟩)), .int .i64 ((zA0 s o.seg (at9 + o.data)).1.kind), .int .i64 ((zA0 s o.seg (at9 + o.data)).1.seg), .int .i64 ((zA0 s o.seg (at9 + o.data)).1.at_), .int .i64 ((zA0 s o.seg (at9 + o.data)).1.data), .int .i64 ((zA0 s o.seg (at9 + o.data)).1.ptrs), .int .i64 ((zA0 s o.seg (at9 + o.data)).1.size), .int .i64 ((zA0 s o.seg (at9 + o.data)).1.count), .int .i64 left] 117 (0, 0)) ∧ NtS 110 79 61 w0.heap.size w_ u bn L2)) mixed (by kernel_rfl) (by kernel_rfl) (by kernel_rfl) (by kernel_rfl) (fun k_ w_ w2_ g_ h_ => match k_, h_ with | 0, h_ => ⟨g_.heap h_.1, h_.2.grow g_⟩ | 1, h_ => ⟨g_.heap h_.1, h_.2.grow g_⟩ | 2, ⟨L2_, a_, b_, c_, d_⟩ => ⟨L2_, a_, b_, g_.heap c_, d_.grow g_⟩ | n_ + 3, ⟨L2_, a_, b_, c_, d_⟩ => ⟨L2_, a_, b_, g_.heap c_, d_.grow g_⟩) (fun w_ g_ => ⟨g_.heap hb, st.grow g_⟩) ?_
   intro w24 g25
   replace kb_hc7 : ∀ w_, (nkR [bn, b] 61 w0.heap.size).r w24 w_ → w_.heap[b1]? = some (.cells #[.int .i64 o.kind, .int .i64 o.seg, .int .i64 o.at_, .int .i64 o.data, .int .i64 o.ptrs, .int .i64 o.size, .int .i64 o.count] 112 (0, 0)) := fun w_ k_ => kb_hc7 w_ ((nkR [bn, b] 61 w0.heap.size).tr ((nkR [bn, b] 61 w0.heap.size).grow g25) k_)
   replace kb_g0 : ∀ w_, (nkR [bn, b] 61 w0.heap.size).r w24 w_ → Grow w0 w_ := fun w_ k_ => kb_g0 w_ ((nkR [bn, b] 61 w0.heap.size).tr ((nkR [bn, b] 61 w0.heap.size).grow g25) k_)
   replace kb_K : ∀ w_, (nkR [bn, b] 61 w0.heap.size).r w24 w_ → NkP [bn, b] 61 w0.heap.size w w_ := fun w_ k_ => kb_K w_ ((nkR [bn, b] 61 w0.heap.size).tr ((nkR [bn, b] 61 w0.heap.size).grow g25) k_)
   have k0_ : (nkR [bn, b] 61 w0.heap.size).r w6 w24 := ((nkR [bn, b] 61 w0.heap.size).grow g25)
   refine qM 4 ?_
   apply zQ7 0 (hm := by rfl)
   ·intro w_ g_ s_
    refine og rfl ?_
    refine zG3 (v := .iface 74 (.pointer (some ⟨bn, 0, none⟩))) rfl s_.1 rfl ?_
    exact ⟨NkP.refl _ _ _ _, s_, rfl⟩
   refine qM 1 ?_
   apply zM9 (hm := by rfl)
   ·intro w_ g_; exact og rfl (zG3 (v := .int .i64 o.seg) rfl (kb_hc7 _ g_) rfl qX)
   refine qM 1 ?_
   apply zQ7 1 (hm := by rfl)
   ·intro w_ g_ s_
    refine og rfl ?_
    obtain ⟨hbx_, stx_⟩ := s_
    refine zD2 rfl (zT4 _ hA hr hx hs (kb_g0 _ g_) hbn stx_ hL o.seg (at9 + o.data)) ?_
    rintro v_ w2_ ⟨rfl, L2_, he2_, hl2_, st2_, rel_⟩
    exact ⟨NkP.mono rel_ (fun x_ hx_ => by simp only [List.mem_singleton] at hx_; subst hx_; simp), ⟨L2_, he2_, hl2_, rel_.hpN stx_ hbx_ (by decide) (by decide), st2_⟩, rfl⟩
   refine qM 5 ?_
   apply zQ7 2 (hm := by rfl)
   ·intro w_ g_ s_
    refine og rfl ?_
    obtain ⟨L2_, he2_, hl2_, hbx_, stx_⟩ := s_
    refine zW9 (cs' := #[.iface 74 (.pointer (some ⟨bn, 0, none⟩)), .int .i64 ((zA0 s o.seg (at9 + o.data)).1.kind), .int .i64 ((zA0 s o.seg (at9 + o.data)).1.seg), .int .i64 ((zA0 s o.seg (at9 + o.data)).1.at_), .int .i64 ((zA0 s o.seg (at9 + o.data)).1.data), .int .i64 ((zA0 s o.seg (at9 + o.data)).1.ptrs), .int .i64 ((zA0 s o.seg (at9 + o.data)).1.size), .int .i64 ((zA0 s o.seg (at9 + o.data)).1.count), .int .i64 left]) rfl rfl (by rfl) hbx_ (by rfl) (by rfl) (by rfl) (by rfl) ?_
    intro w2_ s2_ u_
    exact ⟨NkP.of_upd u_ (by simp), ⟨L2_, he2_, hl2_, s2_, stx_.upd u_ hbx_ (by decide) (by decide)⟩, rfl⟩
   refine qB4 ?_
   intro w26 g27 S_
   replace k0_ := ((nkR [bn, b] 61 w0.heap.size).tr k0_ g27)
   obtain ⟨L2, he2, hl2, hb9, st2_⟩ := S_
   clear st hb
   have st := st2_
   clear st2_
   replace hc7 := kb_hc7 _ g27
   clear kb_hc7
   replace g0 := kb_g0 _ g27
   clear kb_g0
   replace K := kb_K _ g27
   clear kb_K
   refine qZ 8 ?_
   have h9 : zH6 s o k = zA0 s o.seg (at9 + o.data) := by unfold zH6; rw [if_neg h1n, if_pos h2, hat8]
   refine ret1 (zA1 (v := .int .u16 ((zA0 s o.seg (at9 + o.data)).2)) rfl) ⟨by rw [h9], _, fun h_ => by rw [he2 (by rw [h9] at h_; exact h_)]; unfold yF8 atT; rw [if_neg h1n, if_pos h2, hat8], by omega, by rw [h9]; exact hb9, st, K⟩
  ·
   replace h2 := qF h2
   refine qZ 4 ?_
   refine stp (zI1 rfl rfl ?_)
   refine qZ 2 ?_
   refine zA2 (b := (decide (o.size ≠ 6))) rfl (fun h3 => ?_) (fun h3 => ?_)
   ·
    replace h3 := qT h3
    refine qZ 5 ?_
    have h9 : zH6 s o k = (o, 23) := by unfold zH6; rw [if_neg h1n, if_neg h2, if_pos h3]
    refine ret1 (zA1 (v := .int .u16 23) rfl) ⟨by rw [h9], _, fun h_ => by rw [h9] at h_; simp at h_, by omega, by rw [h9]; exact hb, st, K⟩
   ·
    replace h3 := qF h3
    refine qZ 5 ?_
    refine stp (qB2 rfl rfl ?_)
    refine qZ 2 ?_
    refine zA2 (b := (decide (k ≥ o.count))) rfl (fun h4 => ?_) (fun h4 => ?_)
    ·
     replace h4 := qT h4
     refine qZ 5 ?_
     have h9 : zH6 s o k = (o, 20) := by unfold zH6; rw [if_neg h1n, if_neg h2, if_neg h3, if_pos h4]
     refine ret1 (zA1 (v := .int .u16 20) rfl) ⟨by rw [h9], _, fun h_ => by rw [h9] at h_; simp at h_, by omega, by rw [h9]; exact hb, st, K⟩
    ·
     replace h4 := qF h4
     have hat8 : at9 = o.at_ + k := by rw [hat9]; exact zH2 (by simp only [inR]; omega)
     refine qZ 2 ?_
     have kb_hc7 : ∀ w_, (nkR [bn, b] 61 w0.heap.size).r w6 w_ → w_.heap[b1]? = some (.cells #[.int .i64 o.kind, .int .i64 o.seg, .int .i64 o.at_, .int .i64 o.data, .int .i64 o.ptrs, .int .i64 o.size, .int .i64 o.count] 112 (0, 0)) := fun w_ k_ => NkP.hpN2 k_ st hb hc7 (by decide) (by decide) (by decide)
     have kb_g0 : ∀ w_, (nkR [bn, b] 61 w0.heap.size).r w6 w_ → Grow w0 w_ := fun w_ k_ => NkP.to_grow k_ g0 (fun x_ hx_ => by simp only [List.mem_cons, List.not_mem_nil, or_false] at hx_; rcases hx_ with rfl | rfl <;> assumption) (Nat.le_refl _)
     have kb_K : ∀ w_, (nkR [bn, b] 61 w0.heap.size).r w6 w_ → NkP [bn, b] 61 w0.heap.size w w_ := fun w_ k_ => K.tr k_
     refine qJ7 15 [[], [], [0], [1, 0], [2, 1, 0], [], [0], [], [6, 5, 4, 3, 2, 1, 0], [7, 6, 5, 4, 3, 2, 1, 0], [8, 7, 6, 5, 4, 3, 2, 1, 0], [9, 8, 7, 6, 5, 4, 3, 2, 1], [11, 10, 9, 8, 7, 6, 5, 4, 3, 2, 1], [12, 11, 10, 9, 8, 7, 6, 5, 4, 3, 2, 0], [13, 12, 11, 10, 9, 8, 7, 6, 5, 4, 3, 1, 0]] [4, 8, 14] (nkR [bn, b] 61 w0.heap.size) (fun k_ w_ => match k_ with | 0 => w_.heap[b]? = some (.cells #[.iface 74 (.pointer (some ⟨bn, 0, none⟩)), .int .i64 o.kind, .int .i64 o.seg, .int .i64 o.at_, .int .i64 o.data, .int .i64 o.ptrs, .int .i64 o.size, .int .i64 o.count, .int .i64 left] 117 (0, 0)) ∧ NtS 110 79 61 w0.heap.size w_ u bn L | 1 => w_.heap[b]? = some (.cells #[.iface 74 (.pointer (some ⟨bn, 0, none⟩)), .int .i64 o.kind, .int .i64 o.seg, .int .i64 o.at_, .int .i64 o.data, .int .i64 o.ptrs, .int .i64 o.size, .int .i64 o.count, .int .i64 left] 117 (0, 0)) ∧ NtS 110 79 61 w0.heap.size w_ u bn L | 2 => (∃ L2, (((zA0 s o.seg at9)).2 = 0 → L2 = zG1 A L o.seg at9) ∧ L2.length ≤ L.length + 3 ∧ w_.heap[b]? = some (.cells #[.iface 74 (.pointer (some ⟨bn, 0, none⟩)), .int .i64 o.kind, .int .i64 o.seg, .int .i64 o.at_, .int .i64 o.data, .int .i64 o.ptrs, .int .i64 o.size, .int .i64 o.count, .int .i64 left] 117 (0, 0)) ∧ NtS 110 79 61 w0.heap.size w_ u bn L2) | _ => (∃ L2, (((zA0 s o.seg at9)).2 = 0 → L2 = zG1 A L o.seg at9) ∧ L2.length ≤ L.length + 3 ∧ w_.heap[b]? = some (.cells #[.iface 74 (.pointer (some ⟨bn, 0, none⟩)), .int .i64 ((zA0 s o.seg at9).1.kind), .int .i64 ((zA0 s o.seg at9).1.seg), .int .i64 ((zA0 s o.seg at9).1.at_), .int .i64 ((zA0 s o.seg at9).1.data), .int .i64 ((zA0 s o.seg at9).1.ptrs), .int .i64 ((zA0 s o.seg at9).1.size), .int .i64 ((zA0 s o.seg at9).1.count), .int .i64 left] 117 (0, 0)) ∧ NtS 110 79 61 w0.heap.size w_ u bn L2)) mixed (by kernel_rfl) (by kernel_rfl) (by kernel_rfl) (by kernel_rfl) (fun k_ w_ w2_ g_ h_ => match k_, h_ with | 0, h_ => ⟨g_.heap h_.1, h_.2.grow g_⟩ | 1, h_ => ⟨g_.heap h_.1, h_.2.grow g_⟩ | 2, ⟨L2_, a_, b_, c_, d_⟩ => ⟨L2_, a_, b_, g_.heap c_, d_.grow g_⟩ | n_ + 3, ⟨L2_, a_, b_, c_, d_⟩ => ⟨L2_, a_, b_, g_.heap c_, d_.grow g_⟩) (fun w_ g_ => ⟨g_.heap hb, st.grow g_⟩) ?_
     intro w28 g29
     replace kb_hc7 : ∀ w_, (nkR [bn, b] 61 w0.heap.size).r w28 w_ → w_.heap[b1]? = some (.cells #[.int .i64 o.kind, .int .i64 o.seg, .int .i64 o.at_, .int .i64 o.data, .int .i64 o.ptrs, .int .i64 o.size, .int .i64 o.count] 112 (0, 0)) := fun w_ k_ => kb_hc7 w_ ((nkR [bn, b] 61 w0.heap.size).tr ((nkR [bn, b] 61 w0.heap.size).grow g29) k_)
     replace kb_g0 : ∀ w_, (nkR [bn, b] 61 w0.heap.size).r w28 w_ → Grow w0 w_ := fun w_ k_ => kb_g0 w_ ((nkR [bn, b] 61 w0.heap.size).tr ((nkR [bn, b] 61 w0.heap.size).grow g29) k_)
     replace kb_K : ∀ w_, (nkR [bn, b] 61 w0.heap.size).r w28 w_ → NkP [bn, b] 61 w0.heap.size w w_ := fun w_ k_ => kb_K w_ ((nkR [bn, b] 61 w0.heap.size).tr ((nkR [bn, b] 61 w0.heap.size).grow g29) k_)
     have k0_ : (nkR [bn, b] 61 w0.heap.size).r w6 w28 := ((nkR [bn, b] 61 w0.heap.size).grow g29)
     refine qM 4 ?_
     apply zQ7 0 (hm := by rfl)
     ·intro w_ g_ s_
      refine og rfl ?_
      refine zG3 (v := .iface 74 (.pointer (some ⟨bn, 0, none⟩))) rfl s_.1 rfl ?_
      exact ⟨NkP.refl _ _ _ _, s_, rfl⟩
     refine qM 1 ?_
     apply zM9 (hm := by rfl)
     ·intro w_ g_; exact og rfl (zG3 (v := .int .i64 o.seg) rfl (kb_hc7 _ g_) rfl qX)
     refine qM 1 ?_
     apply zQ7 1 (hm := by rfl)
     ·intro w_ g_ s_
      refine og rfl ?_
      obtain ⟨hbx_, stx_⟩ := s_
      refine zD2 rfl (zT4 _ hA hr hx hs (kb_g0 _ g_) hbn stx_ hL o.seg at9) ?_
      rintro v_ w2_ ⟨rfl, L2_, he2_, hl2_, st2_, rel_⟩
      exact ⟨NkP.mono rel_ (fun x_ hx_ => by simp only [List.mem_singleton] at hx_; subst hx_; simp), ⟨L2_, he2_, hl2_, rel_.hpN stx_ hbx_ (by decide) (by decide), st2_⟩, rfl⟩
     refine qM 5 ?_
     apply zQ7 2 (hm := by rfl)
     ·intro w_ g_ s_
      refine og rfl ?_
      obtain ⟨L2_, he2_, hl2_, hbx_, stx_⟩ := s_
      refine zW9 (cs' := #[.iface 74 (.pointer (some ⟨bn, 0, none⟩)), .int .i64 ((zA0 s o.seg at9).1.kind), .int .i64 ((zA0 s o.seg at9).1.seg), .int .i64 ((zA0 s o.seg at9).1.at_), .int .i64 ((zA0 s o.seg at9).1.data), .int .i64 ((zA0 s o.seg at9).1.ptrs), .int .i64 ((zA0 s o.seg at9).1.size), .int .i64 ((zA0 s o.seg at9).1.count), .int .i64 left]) rfl rfl (by rfl) hbx_ (by rfl) (by rfl) (by rfl) (by rfl) ?_
      intro w2_ s2_ u_
      exact ⟨NkP.of_upd u_ (by simp), ⟨L2_, he2_, hl2_, s2_, stx_.upd u_ hbx_ (by decide) (by decide)⟩, rfl⟩
     refine qB4 ?_
     intro w30 g31 S_
     replace k0_ := ((nkR [bn, b] 61 w0.heap.size).tr k0_ g31)
     obtain ⟨L2, he2, hl2, hb9, st2_⟩ := S_
     clear st hb
     have st := st2_
     clear st2_
     replace hc7 := kb_hc7 _ g31
     clear kb_hc7
     replace g0 := kb_g0 _ g31
     clear kb_g0
     replace K := kb_K _ g31
     clear kb_K
     refine qZ 8 ?_
     have h9 : zH6 s o k = zA0 s o.seg at9 := by unfold zH6; rw [if_neg h1n, if_neg h2, if_neg h3, if_neg h4, hat8]
     refine ret1 (zA1 (v := .int .u16 ((zA0 s o.seg at9).2)) rfl) ⟨by rw [h9], _, fun h_ => by rw [he2 (by rw [h9] at h_; exact h_)]; unfold yF8 atT; rw [if_neg h1n, if_neg h2, hat8], by omega, by rw [h9]; exact hb9, st, K⟩
theorem qS0 (w : World) {w0 : World} {u : Value} {A : List (List Int)} (hA : zF3 w0 u A) (hr : zD9 A = true) (hx : AllU A) {s : Src} (hs : s = zB1 A) (g0 : Grow w0 w) {bn : Nat} (hbn : w0.heap.size ≤ bn) {L : List Spn} (st : NtS 110 79 61 w0.heap.size w u bn L) (hL : L.length ≤ 150000) {b : Nat} {o : Ob} {left k : Int} (hb0 : w0.heap.size ≤ b) (hb : w.heap[b]? = some (.cells #[.iface 74 (.pointer (some ⟨bn, 0, none⟩)), .int .i64 o.kind, .int .i64 o.seg, .int .i64 o.at_, .int .i64 o.data, .int .i64 o.ptrs, .int .i64 o.size, .int .i64 o.count, .int .i64 left] 117 (0, 0))) (ho : ObR o) (hok : ObK o) (hk : 0 ≤ k) (hk2 : k ≤ 9223372036854775807) : Calls Tryz.prog 56 #[.pointer (some ⟨b, 0, none⟩), .int .i64 k] w (Ret fun v w' => v = .tuple #[.int .u64 ((atS s o k).1), .int .u16 ((atS s o k).2)] ∧ ∃ L2, ((atS s o k).2 = 0 → L2 = endT A L o k) ∧ NtS 110 79 61 w0.heap.size w' u bn L2 ∧ NkP [bn] 61 w0.heap.size w w') := by
 obtain ⟨rk, rs, ra, rd, rp, rz, rc⟩ := ho
 have K := NkP.refl [bn] 61 w0.heap.size w
 have g0w := g0.size
 obtain ⟨n1, n2, -, -⟩ := num9 hs hx o.seg (o.at_ + k / 8)
 have hblt := zC2 hb
 refine zB8 Tryz.func56 Tryz.ntmps56 Tryz.results56 rfl rfl ?_
 refine qZ 10 ?_
 refine stp (zG9 rfl hb (by rfl) (by rfl) ?_)
 refine stp (zA8 ?_)
 intro b1 w2 hb3 hc4 g5
 refine stn (qS hc4 ?_)
 intro w6 hc7 u8
 have g9 := g5.upd u8 hb3
 have hge10 := Nat.le_trans K.size hb3
 have ne11 := qN hb hb3
 replace K := K.tr (NkP.of_grow g9)
 replace g0 := g0.tr g9
 replace st := st.grow g9
 replace hb := g9.heap hb
 clear u8 g5 hb3 hc4
 refine qZ 8 ?_
 refine stp (zD5 rfl rfl ?_)
 refine qZ 2 ?_
 refine zA2 (b := (decide (o.kind = 0))) rfl (fun h1 => ?_) (fun h1 => ?_)
 ·
  replace h1 := qT h1
  refine qF6 ?_
  refine zY3 (show _ = Value.bool true from congrArg Value.bool (decide_eq_true h1)) ?_
  refine qZ 6 ?_
  have h9 : atS s o k = (0, 0) := by unfold atS; rw [if_pos (.inl h1)]
  refine ret2 (zA1 (v := .int .u64 0) rfl) (zA1 (v := .int .u16 0) rfl) ⟨by rw [h9] <;> rfl, _, fun _ => by unfold endT; rw [if_pos (.inr (.inl h1))], st, K⟩
 ·
  replace h1 := qF h1
  refine qZ 3 ?_
  refine stp (zD5 rfl rfl ?_)
  refine qZ 1 ?_
  refine qG 3 ?_
  refine zA3 (zB3 (s := .bool _) (v := .bool (decide (k ≥ o.data))) rfl (zF0 _) (fun hc15 => ?_) ?_)
  ·
   have hc15_ := qT hc15
   refine qB2 (gvt hc15) (gvt hc15) ?_
   exact ⟨rfl, rfl⟩
  refine stp (zH4 rfl rfl rfl ?_)
  refine qZ 2 ?_
  refine zA2 (b := ((decide (o.kind = 1)) && (decide (k ≥ o.data)))) rfl (fun h2 => ?_) (fun h2 => ?_)
  ·
   simp only [sb] at h2
   refine qZ 6 ?_
   have h9 : atS s o k = (0, 0) := by unfold atS; rw [if_pos (.inr h2)]
   refine ret2 (zA1 (v := .int .u64 0) rfl) (zA1 (v := .int .u16 0) rfl) ⟨by rw [h9] <;> rfl, _, fun _ => by unfold endT; rw [if_pos (.inr (.inr h2))], st, K⟩
  ·
   simp only [sb] at h2
   have h1n : ¬ (o.kind = 0 ∨ o.kind = 1 ∧ k ≥ o.data) := by omega
   have h1m : ¬ (k < 0 ∨ o.kind = 0 ∨ (o.kind = 1 ∧ k ≥ o.data)) := by omega
   refine qZ 4 ?_
   refine stp (zD5 rfl rfl ?_)
   refine qZ 2 ?_
   refine zA2 (b := (decide (o.kind = 1))) rfl (fun h3 => ?_) (fun h3 => ?_)
   ·
    replace h3 := qT h3
    refine qN9 ?_
    have kb_hc7 : ∀ w_, (nkR [bn] 61 w0.heap.size).r w6 w_ → w_.heap[b1]? = some (.cells #[.int .i64 o.kind, .int .i64 o.seg, .int .i64 o.at_, .int .i64 o.data, .int .i64 o.ptrs, .int .i64 o.size, .int .i64 o.count] 112 (0, 0)) := fun w_ k_ => NkP.hpN k_ st hc7 (by decide) (by decide)
    have kb_hb : ∀ w_, (nkR [bn] 61 w0.heap.size).r w6 w_ → w_.heap[b]? = some (.cells #[.iface 74 (.pointer (some ⟨bn, 0, none⟩)), .int .i64 o.kind, .int .i64 o.seg, .int .i64 o.at_, .int .i64 o.data, .int .i64 o.ptrs, .int .i64 o.size, .int .i64 o.count, .int .i64 left] 117 (0, 0)) := fun w_ k_ => NkP.hpN k_ st hb (by decide) (by decide)
    have kb_g0 : ∀ w_, (nkR [bn] 61 w0.heap.size).r w6 w_ → Grow w0 w_ := fun w_ k_ => NkP.to_grow k_ g0 (fun x_ hx_ => by simp only [List.mem_singleton] at hx_; subst hx_; exact hbn) (Nat.le_refl _)
    have kb_K : ∀ w_, (nkR [bn] 61 w0.heap.size).r w6 w_ → NkP [bn] 61 w0.heap.size w w_ := fun w_ k_ => K.tr k_
    refine qJ7 15 [[], [0], [1, 0], [2, 1, 0], [], [0], [], [0], [], [2, 1, 0], [9, 8, 7, 6, 5, 4, 3, 2, 1, 0], [10, 9, 8, 7, 6, 5, 4, 3, 2, 1, 0], [11, 10, 9, 8, 7, 6, 5, 4, 3, 2, 1], [12, 11, 10, 9, 8, 7, 6, 5, 4, 3, 2, 1, 0], [13, 12, 11, 10, 9, 8, 7, 6, 5, 4, 3, 2, 1, 0]] [10] (nkR [bn] 61 w0.heap.size) (fun k_ w_ => match k_ with | 0 => NtS 110 79 61 w0.heap.size w_ u bn L | _ => NtS 110 79 61 w0.heap.size w_ u bn (zK7 A L o.seg (o.at_ + k))) mixed (by kernel_rfl) (by kernel_rfl) (by kernel_rfl) (by kernel_rfl) (fun k_ w_ w2_ g_ h_ => match k_, h_ with | 0, h_ => h_.grow g_ | n_ + 1, h_ => h_.grow g_) (fun w_ g_ => st.grow g_) ?_
    intro w16 g17
    replace kb_hc7 : ∀ w_, (nkR [bn] 61 w0.heap.size).r w16 w_ → w_.heap[b1]? = some (.cells #[.int .i64 o.kind, .int .i64 o.seg, .int .i64 o.at_, .int .i64 o.data, .int .i64 o.ptrs, .int .i64 o.size, .int .i64 o.count] 112 (0, 0)) := fun w_ k_ => kb_hc7 w_ ((nkR [bn] 61 w0.heap.size).tr ((nkR [bn] 61 w0.heap.size).grow g17) k_)
    replace kb_hb : ∀ w_, (nkR [bn] 61 w0.heap.size).r w16 w_ → w_.heap[b]? = some (.cells #[.iface 74 (.pointer (some ⟨bn, 0, none⟩)), .int .i64 o.kind, .int .i64 o.seg, .int .i64 o.at_, .int .i64 o.data, .int .i64 o.ptrs, .int .i64 o.size, .int .i64 o.count, .int .i64 left] 117 (0, 0)) := fun w_ k_ => kb_hb w_ ((nkR [bn] 61 w0.heap.size).tr ((nkR [bn] 61 w0.heap.size).grow g17) k_)
    replace kb_g0 : ∀ w_, (nkR [bn] 61 w0.heap.size).r w16 w_ → Grow w0 w_ := fun w_ k_ => kb_g0 w_ ((nkR [bn] 61 w0.heap.size).tr ((nkR [bn] 61 w0.heap.size).grow g17) k_)
    replace kb_K : ∀ w_, (nkR [bn] 61 w0.heap.size).r w16 w_ → NkP [bn] 61 w0.heap.size w w_ := fun w_ k_ => kb_K w_ ((nkR [bn] 61 w0.heap.size).tr ((nkR [bn] 61 w0.heap.size).grow g17) k_)
    have k0_ : (nkR [bn] 61 w0.heap.size).r w6 w16 := ((nkR [bn] 61 w0.heap.size).grow g17)
    refine qM 3 ?_
    apply zM9 (hm := by rfl)
    ·intro w_ g_; exact og rfl (zG3 (v := .iface 74 (.pointer (some ⟨bn, 0, none⟩))) rfl (kb_hb _ g_) rfl qX)
    refine qM 1 ?_
    apply zM9 (hm := by rfl)
    ·intro w_ g_; exact og rfl (zG3 (v := .int .i64 o.seg) rfl (kb_hc7 _ g_) rfl qX)
    refine qM 1 ?_
    apply zM9 (hm := by rfl)
    ·intro w_ g_; exact og rfl (zG3 (v := .int .i64 o.at_) rfl (kb_hc7 _ g_) rfl qX)
    refine qM 1 ?_
    apply zM9 (hm := by rfl)
    ·intro w_ g_; refine og rfl ?_; refine zB9 rfl rfl ?_ ?_; constructor <;> omega; exact qX
    apply zQ7 0 (hm := by rfl)
    ·intro w_ g_ s_
     refine og rfl ?_
     refine zN1 (a := .int .i64 o.seg) (b := .int .i64 (o.at_ + k)) zO3 rfl rfl rfl (zM3 _ hA hr hx hs (kb_g0 _ g_) hbn s_ (by omega) o.seg (o.at_ + k)) ?_
     rintro v_ w2_ ⟨rfl, st2_, rel_⟩
     exact ⟨rel_, st2_, rfl⟩
    refine qM 4 ?_
    refine qB4 ?_
    intro w18 g19 S_
    replace k0_ := ((nkR [bn] 61 w0.heap.size).tr k0_ g19)
    have st2_ := S_
    clear S_ st
    have st := st2_
    clear st2_
    replace hc7 := kb_hc7 _ g19
    clear kb_hc7
    replace hb := kb_hb _ g19
    clear kb_hb
    replace g0 := kb_g0 _ g19
    clear kb_g0
    replace K := kb_K _ g19
    clear kb_K
    refine qZ 2 ?_
    have h9 : atS s o k = s.word o.seg (o.at_ + k) := by unfold atS; rw [if_neg h1n, if_pos h3]
    refine ret2 (zA1 (v := .int .u64 ((s.word o.seg (o.at_ + k)).1)) rfl) (zA1 (v := .int .u16 ((s.word o.seg (o.at_ + k)).2)) rfl) ⟨by rw [h9] <;> rfl, _, fun _ => by unfold endT; rw [if_neg h1m, if_neg (by omega)], st, K⟩
   ·
    replace h3 := qF h3
    refine qZ 4 ?_
    refine stp (zD5 rfl rfl ?_)
    refine qZ 2 ?_
    refine zA2 (b := (decide (o.size = 6))) rfl (fun h4 => ?_) (fun h4 => ?_)
    ·
     replace h4 := qT h4
     refine qZ 6 ?_
     have h9 : atS s o k = (0, 23) := by unfold atS; rw [if_neg h1n, if_neg h3, if_pos h4]
     refine ret2 (zA1 (v := .int .u64 0) rfl) (zA1 (v := .int .u16 23) rfl) ⟨by rw [h9] <;> rfl, _, fun h_ => by rw [h9] at h_; simp at h_, st, K⟩
    ·
     replace h4 := qF h4
     refine qZ 5 ?_
     refine stp (qB2 rfl rfl ?_)
     refine qZ 2 ?_
     refine zA2 (b := (decide (k ≥ o.count))) rfl (fun h5 => ?_) (fun h5 => ?_)
     ·
      replace h5 := qT h5
      refine qZ 6 ?_
      have h9 : atS s o k = (0, 20) := by unfold atS; rw [if_neg h1n, if_neg h3, if_neg h4, if_pos h5]
      refine ret2 (zA1 (v := .int .u64 0) rfl) (zA1 (v := .int .u16 20) rfl) ⟨by rw [h9] <;> rfl, _, fun h_ => by rw [h9] at h_; simp at h_, st, K⟩
     ·
      replace h5 := qF h5
      refine qZ 4 ?_
      refine stp (zD5 rfl rfl ?_)
      refine qZ 2 ?_
      refine zA2 (b := (decide (o.size = 5))) rfl (fun h6 => ?_) (fun h6 => ?_)
      ·
       replace h6 := qT h6
       refine qN9 ?_
       have kb_hc7 : ∀ w_, (nkR [bn] 61 w0.heap.size).r w6 w_ → w_.heap[b1]? = some (.cells #[.int .i64 o.kind, .int .i64 o.seg, .int .i64 o.at_, .int .i64 o.data, .int .i64 o.ptrs, .int .i64 o.size, .int .i64 o.count] 112 (0, 0)) := fun w_ k_ => NkP.hpN k_ st hc7 (by decide) (by decide)
       have kb_hb : ∀ w_, (nkR [bn] 61 w0.heap.size).r w6 w_ → w_.heap[b]? = some (.cells #[.iface 74 (.pointer (some ⟨bn, 0, none⟩)), .int .i64 o.kind, .int .i64 o.seg, .int .i64 o.at_, .int .i64 o.data, .int .i64 o.ptrs, .int .i64 o.size, .int .i64 o.count, .int .i64 left] 117 (0, 0)) := fun w_ k_ => NkP.hpN k_ st hb (by decide) (by decide)
       have kb_g0 : ∀ w_, (nkR [bn] 61 w0.heap.size).r w6 w_ → Grow w0 w_ := fun w_ k_ => NkP.to_grow k_ g0 (fun x_ hx_ => by simp only [List.mem_singleton] at hx_; subst hx_; exact hbn) (Nat.le_refl _)
       have kb_K : ∀ w_, (nkR [bn] 61 w0.heap.size).r w6 w_ → NkP [bn] 61 w0.heap.size w w_ := fun w_ k_ => K.tr k_
       refine qJ7 15 [[], [0], [1, 0], [2, 1, 0], [], [0], [], [0], [], [2, 1, 0], [9, 8, 7, 6, 5, 4, 3, 2, 1, 0], [10, 9, 8, 7, 6, 5, 4, 3, 2, 1, 0], [11, 10, 9, 8, 7, 6, 5, 4, 3, 2, 1], [12, 11, 10, 9, 8, 7, 6, 5, 4, 3, 2, 1, 0], [13, 12, 11, 10, 9, 8, 7, 6, 5, 4, 3, 2, 1, 0]] [10] (nkR [bn] 61 w0.heap.size) (fun k_ w_ => match k_ with | 0 => NtS 110 79 61 w0.heap.size w_ u bn L | _ => NtS 110 79 61 w0.heap.size w_ u bn (zK7 A L o.seg (o.at_ + k))) mixed (by kernel_rfl) (by kernel_rfl) (by kernel_rfl) (by kernel_rfl) (fun k_ w_ w2_ g_ h_ => match k_, h_ with | 0, h_ => h_.grow g_ | n_ + 1, h_ => h_.grow g_) (fun w_ g_ => st.grow g_) ?_
       intro w20 g21
       replace kb_hc7 : ∀ w_, (nkR [bn] 61 w0.heap.size).r w20 w_ → w_.heap[b1]? = some (.cells #[.int .i64 o.kind, .int .i64 o.seg, .int .i64 o.at_, .int .i64 o.data, .int .i64 o.ptrs, .int .i64 o.size, .int .i64 o.count] 112 (0, 0)) := fun w_ k_ => kb_hc7 w_ ((nkR [bn] 61 w0.heap.size).tr ((nkR [bn] 61 w0.heap.size).grow g21) k_)
       replace kb_hb : ∀ w_, (nkR [bn] 61 w0.heap.size).r w20 w_ → w_.heap[b]? = some (.cells #[.iface 74 (.pointer (some ⟨bn, 0, none⟩)), .int .i64 o.kind, .int .i64 o.seg, .int .i64 o.at_, .int .i64 o.data, .int .i64 o.ptrs, .int .i64 o.size, .int .i64 o.count, .int .i64 left] 117 (0, 0)) := fun w_ k_ => kb_hb w_ ((nkR [bn] 61 w0.heap.size).tr ((nkR [bn] 61 w0.heap.size).grow g21) k_)
       replace kb_g0 : ∀ w_, (nkR [bn] 61 w0.heap.size).r w20 w_ → Grow w0 w_ := fun w_ k_ => kb_g0 w_ ((nkR [bn] 61 w0.heap.size).tr ((nkR [bn] 61 w0.heap.size).grow g21) k_)
       replace kb_K : ∀ w_, (nkR [bn] 61 w0.heap.size).r w20 w_ → NkP [bn] 61 w0.heap.size w w_ := fun w_ k_ => kb_K w_ ((nkR [bn] 61 w0.heap.size).tr ((nkR [bn] 61 w0.heap.size).grow g21) k_)
       have k0_ : (nkR [bn] 61 w0.heap.size).r w6 w20 := ((nkR [bn] 61 w0.heap.size).grow g21)
       refine qM 3 ?_
       apply zM9 (hm := by rfl)
       ·intro w_ g_; exact og rfl (zG3 (v := .iface 74 (.pointer (some ⟨bn, 0, none⟩))) rfl (kb_hb _ g_) rfl qX)
       refine qM 1 ?_
       apply zM9 (hm := by rfl)
       ·intro w_ g_; exact og rfl (zG3 (v := .int .i64 o.seg) rfl (kb_hc7 _ g_) rfl qX)
       refine qM 1 ?_
       apply zM9 (hm := by rfl)
       ·intro w_ g_; exact og rfl (zG3 (v := .int .i64 o.at_) rfl (kb_hc7 _ g_) rfl qX)
       refine qM 1 ?_
       apply zM9 (hm := by rfl)
       ·intro w_ g_; refine og rfl ?_; refine zB9 rfl rfl ?_ ?_; constructor <;> omega; exact qX
       apply zQ7 0 (hm := by rfl)
       ·intro w_ g_ s_
        refine og rfl ?_
        refine zN1 (a := .int .i64 o.seg) (b := .int .i64 (o.at_ + k)) zO3 rfl rfl rfl (zM3 _ hA hr hx hs (kb_g0 _ g_) hbn s_ (by omega) o.seg (o.at_ + k)) ?_
        rintro v_ w2_ ⟨rfl, st2_, rel_⟩
        exact ⟨rel_, st2_, rfl⟩
       refine qM 4 ?_
       refine qB4 ?_
       intro w22 g23 S_
       replace k0_ := ((nkR [bn] 61 w0.heap.size).tr k0_ g23)
       have st2_ := S_
       clear S_ st
       have st := st2_
       clear st2_
       replace hc7 := kb_hc7 _ g23
       clear kb_hc7
       replace hb := kb_hb _ g23
       clear kb_hb
       replace g0 := kb_g0 _ g23
       clear kb_g0
       replace K := kb_K _ g23
       clear kb_K
       refine qZ 2 ?_
       have h9 : atS s o k = s.word o.seg (o.at_ + k) := by unfold atS; rw [if_neg h1n, if_neg h3, if_neg h4, if_neg h5, if_pos h6]
       refine ret2 (zA1 (v := .int .u64 ((s.word o.seg (o.at_ + k)).1)) rfl) (zA1 (v := .int .u16 ((s.word o.seg (o.at_ + k)).2)) rfl) ⟨by rw [h9] <;> rfl, _, fun _ => by unfold endT; rw [if_neg h1m, if_neg (by omega)], st, K⟩
      ·
       replace h6 := qF h6
       have hz2 : o.kind = 2 ∧ o.size = 2 := by rcases hok with rfl | g_ | g_; exact absurd rfl h1; exact absurd g_.1 h3; (obtain ⟨g1_, -, -, g2_⟩ := g_; omega)
       refine qZ 2 ?_
       have kb_hc7 : ∀ w_, (nkR [bn] 61 w0.heap.size).r w6 w_ → w_.heap[b1]? = some (.cells #[.int .i64 o.kind, .int .i64 o.seg, .int .i64 o.at_, .int .i64 o.data, .int .i64 o.ptrs, .int .i64 o.size, .int .i64 o.count] 112 (0, 0)) := fun w_ k_ => NkP.hpN k_ st hc7 (by decide) (by decide)
       have kb_hb : ∀ w_, (nkR [bn] 61 w0.heap.size).r w6 w_ → w_.heap[b]? = some (.cells #[.iface 74 (.pointer (some ⟨bn, 0, none⟩)), .int .i64 o.kind, .int .i64 o.seg, .int .i64 o.at_, .int .i64 o.data, .int .i64 o.ptrs, .int .i64 o.size, .int .i64 o.count, .int .i64 left] 117 (0, 0)) := fun w_ k_ => NkP.hpN k_ st hb (by decide) (by decide)
       have kb_g0 : ∀ w_, (nkR [bn] 61 w0.heap.size).r w6 w_ → Grow w0 w_ := fun w_ k_ => NkP.to_grow k_ g0 (fun x_ hx_ => by simp only [List.mem_singleton] at hx_; subst hx_; exact hbn) (Nat.le_refl _)
       have kb_K : ∀ w_, (nkR [bn] 61 w0.heap.size).r w6 w_ → NkP [bn] 61 w0.heap.size w w_ := fun w_ k_ => K.tr k_
       refine qJ7 17 [[], [0], [1, 0], [2, 1, 0], [], [0], [], [0], [], [0], [3, 2, 1, 0], [10, 9, 8, 7, 6, 5, 4, 3, 2, 1, 0], [11, 10, 9, 8, 7, 6, 5, 4, 3, 2, 1, 0], [12, 11, 10, 9, 8, 7, 6, 5, 4, 3, 2, 1, 0], [13, 12, 11, 10, 9, 8, 7, 6, 5, 4, 3, 2, 1], [14, 13, 12, 11, 10, 9, 8, 7, 6, 5, 4, 3, 2, 1], [15, 14, 13, 12, 11, 10, 9, 8, 7, 6, 5, 4, 3, 2, 1, 0]] [11] (nkR [bn] 61 w0.heap.size) (fun k_ w_ => match k_ with | 0 => NtS 110 79 61 w0.heap.size w_ u bn L | _ => NtS 110 79 61 w0.heap.size w_ u bn (zK7 A L o.seg (o.at_ + k / 8))) mixed (by kernel_rfl) (by kernel_rfl) (by kernel_rfl) (by kernel_rfl) (fun k_ w_ w2_ g_ h_ => match k_, h_ with | 0, h_ => h_.grow g_ | n_ + 1, h_ => h_.grow g_) (fun w_ g_ => st.grow g_) ?_
       intro w24 g25
       replace kb_hc7 : ∀ w_, (nkR [bn] 61 w0.heap.size).r w24 w_ → w_.heap[b1]? = some (.cells #[.int .i64 o.kind, .int .i64 o.seg, .int .i64 o.at_, .int .i64 o.data, .int .i64 o.ptrs, .int .i64 o.size, .int .i64 o.count] 112 (0, 0)) := fun w_ k_ => kb_hc7 w_ ((nkR [bn] 61 w0.heap.size).tr ((nkR [bn] 61 w0.heap.size).grow g25) k_)
       replace kb_hb : ∀ w_, (nkR [bn] 61 w0.heap.size).r w24 w_ → w_.heap[b]? = some (.cells #[.iface 74 (.pointer (some ⟨bn, 0, none⟩)), .int .i64 o.kind, .int .i64 o.seg, .int .i64 o.at_, .int .i64 o.data, .int .i64 o.ptrs, .int .i64 o.size, .int .i64 o.count, .int .i64 left] 117 (0, 0)) := fun w_ k_ => kb_hb w_ ((nkR [bn] 61 w0.heap.size).tr ((nkR [bn] 61 w0.heap.size).grow g25) k_)
       replace kb_g0 : ∀ w_, (nkR [bn] 61 w0.heap.size).r w24 w_ → Grow w0 w_ := fun w_ k_ => kb_g0 w_ ((nkR [bn] 61 w0.heap.size).tr ((nkR [bn] 61 w0.heap.size).grow g25) k_)
       replace kb_K : ∀ w_, (nkR [bn] 61 w0.heap.size).r w24 w_ → NkP [bn] 61 w0.heap.size w w_ := fun w_ k_ => kb_K w_ ((nkR [bn] 61 w0.heap.size).tr ((nkR [bn] 61 w0.heap.size).grow g25) k_)
       have k0_ : (nkR [bn] 61 w0.heap.size).r w6 w24 := ((nkR [bn] 61 w0.heap.size).grow g25)
       refine qM 3 ?_
       apply zM9 (hm := by rfl)
       ·intro w_ g_; exact og rfl (zG3 (v := .iface 74 (.pointer (some ⟨bn, 0, none⟩))) rfl (kb_hb _ g_) rfl qX)
       refine qM 1 ?_
       apply zM9 (hm := by rfl)
       ·intro w_ g_; exact og rfl (zG3 (v := .int .i64 o.seg) rfl (kb_hc7 _ g_) rfl qX)
       refine qM 1 ?_
       apply zM9 (hm := by rfl)
       ·intro w_ g_; exact og rfl (zG3 (v := .int .i64 o.at_) rfl (kb_hc7 _ g_) rfl qX)
       refine qM 1 ?_
       apply zM9 (hm := by rfl)
       ·intro w_ g_; refine og rfl ?_; refine qO1 rfl rfl ?_ ?_ ?_ ?_; omega; omega; (constructor <;> omega); exact qX
       apply zM9 (hm := by rfl)
       ·intro w_ g_; refine og rfl ?_; refine zB9 rfl rfl ?_ ?_; constructor <;> omega; exact qX
       apply zQ7 0 (hm := by rfl)
       ·intro w_ g_ s_
        refine og rfl ?_
        refine zN1 (a := .int .i64 o.seg) (b := .int .i64 (o.at_ + k / 8)) zO3 rfl rfl rfl (zM3 _ hA hr hx hs (kb_g0 _ g_) hbn s_ (by omega) o.seg (o.at_ + k / 8)) ?_
        rintro v_ w2_ ⟨rfl, st2_, rel_⟩
        exact ⟨rel_, st2_, rfl⟩
       refine qM 5 ?_
       refine qB4 ?_
       intro w26 g27 S_
       replace k0_ := ((nkR [bn] 61 w0.heap.size).tr k0_ g27)
       have st2_ := S_
       clear S_ st
       have st := st2_
       clear st2_
       replace hc7 := kb_hc7 _ g27
       clear kb_hc7
       replace hb := kb_hb _ g27
       clear kb_hb
       replace g0 := kb_g0 _ g27
       clear kb_g0
       replace K := kb_K _ g27
       clear kb_K
       refine qZ 5 ?_
       refine stp (zW0 rfl rfl ?_ ?_ ?_); omega; omega
       refine stp (zY5 rfl rfl ?_ ?_); constructor <;> omega
       refine stp (yO3 rfl rfl ?_ ?_); omega
       refine stp ?_
       refine yY5 rfl rfl ?_
       rw [show (IntKind.bits .u64) = 64 from rfl, yP0 _ (k % 8 * 8) n1 n2 (by omega) (by omega)]
       refine qZ 5 ?_
       have h9 : atS s o k = ((s.word o.seg (o.at_ + k / 8)).1 / 2 ^ (k % 8 * 8).toNat % 256, (s.word o.seg (o.at_ + k / 8)).2) := by unfold atS; rw [if_neg h1n, if_neg h3, if_neg h4, if_neg h5, if_neg h6]
       refine ret2 (zA1 (v := .int .u64 ((s.word o.seg (o.at_ + k / 8)).1 / 2 ^ (k % 8 * 8).toNat % 256)) rfl) (zA1 (v := .int .u16 ((s.word o.seg (o.at_ + k / 8)).2)) rfl) ⟨by rw [h9] <;> rfl, _, fun _ => by unfold endT; rw [if_neg h1m, if_pos hz2], st, K⟩
theorem qX7 (w : World) {w0 : World} {u : Value} {A : List (List Int)} (hA : zF3 w0 u A) (hr : zD9 A = true) (hx : AllU A) {s : Src} (hs : s = zB1 A) (g0 : Grow w0 w) {bn : Nat} (hbn : w0.heap.size ≤ bn) {L : List Spn} (st : NtS 110 79 61 w0.heap.size w u bn L) (hL : L.length ≤ 90000) {ad : Option Addr} {c : Nat} {steps : List Int} {a cost : Int} (R : RowAt w0 1 ad steps.length (steps.map (.int .i64))) (ha : inR .i64 a) (hc : inR .i64 cost) : Calls Tryz.prog 32 #[.iface 74 (.pointer (some ⟨bn, 0, none⟩)), .agg #[.slice ad steps.length c, .int .i64 a], .int .i64 cost] w (Ret fun v w' => v = .tuple #[.agg #[.int .i64 ((zJ6 s steps a cost).1.kind), .int .i64 ((zJ6 s steps a cost).1.size), .int .i64 ((zJ6 s steps a cost).1.words), .int .i64 ((zJ6 s steps a cost).1.kids), .int .u64 ((zJ6 s steps a cost).1.word)], .int .u16 ((zJ6 s steps a cost).2)] ∧ ∃ L2, ((zJ6 s steps a cost).2 = 0 → L2 = (endT A (goT A steps (zG1 A L 0 0) (zA0 s 0 0).1).1 (goT A steps (zG1 A L 0 0) (zA0 s 0 0).1).2 a)) ∧ NtS 110 79 61 w0.heap.size w' u bn L2 ∧ NkP [bn] 61 w0.heap.size w w') := by
 have K := NkP.refl [bn] 61 w0.heap.size w
 have g0w := g0.size
 have ll := R.lim
 simp only [inR] at ha hc
 refine zB8 Tryz.func32 Tryz.ntmps32 Tryz.results32 rfl rfl ?_
 refine qZ 2 ?_
 refine stp ?_
 refine qC ?_
 intro b1 w2 hb3 hc4 g5
 have hge6 := Nat.le_trans K.size hb3
 replace K := K.tr (NkP.of_grow g5)
 replace g0 := g0.tr g5
 replace st := st.grow g5
 clear g5 hb3
 refine stp (zA8 ?_)
 intro b7 w8 hb9 hc10 g11
 refine qZ 2 ?_
 refine yV7 ?_
 refine qZ 4 ?_
 have hge12 := Nat.le_trans K.size hb9
 have ne13 := qN hc4 hb9
 replace K := K.tr (NkP.of_grow g11)
 replace g0 := g0.tr g11
 replace st := st.grow g11
 replace hc4 := g11.heap hc4
 clear g11 hb9
 refine qZ 5 ?_
 refine zF4 (fun m_ e_ w_ => ∃ (k : Nat), m_ = steps.length - k ∧ Fr [(0, .iface 74 (.pointer (some ⟨bn, 0, none⟩))), (2, .int .i64 cost), (4, .pointer (some ⟨b1, 0, none⟩)), (6, .pointer (some ⟨b7, 0, none⟩)), (20, .slice ad steps.length c), (21, .int .i64 (steps.length : Int)), (22, .int .i64 (k : Int))] e_ ∧ (k ≤ steps.length) ∧ (∀ j, j < k → 0 ≤ steps.getD j 0) ∧ (NkP [bn] 61 w0.heap.size w w_) ∧ (Grow w0 w_) ∧ (NtS 110 79 61 w0.heap.size w_ u bn L) ∧ (w_.heap[b1]? = some (.cells #[.slice ad steps.length c, .int .i64 a] 30 (0, 0))) ∧ (w_.heap[b7]? = some (.cells #[.int .i64 0, .int .i64 0, .int .i64 0, .int .i64 0, .int .u64 0] 40 (0, 0)))) _ ⟨0, rfl, zD3 ⟨rfl, rfl, rfl, rfl, rfl, rfl, rfl, trivial⟩, by omega, fun j hj => by omega, K, g0, st, hc4, hc10⟩ ?_
 clear K g0 st hc4 hc10
 rintro m_ e_ w14 ⟨k, rfl, ⟨e15, rfl⟩, hk2, hnn, K, g0, st, hc4, hc10⟩
 refine qZ 2 ?_
 refine stp (zG5 rfl rfl ?_)
 refine qZ 2 ?_
 refine zA2 (b := (decide ((k : Int) < (steps.length : Int)))) rfl (fun hlt1 => ?_) (fun hlt1 => ?_)
 ·
  replace hlt1 := qT hlt1
  have hi : k < steps.length := by omega
  refine qZ 5 ?_
  refine stp (zF1 (R.grow g0) rfl rfl ?_ ?_); omega
  refine stp (zE8 (v := .int .i64 (steps.getD k 0)) (m := 0) (R.grow g0) rfl (zM6 0 (by omega)) ?_)
  refine qZ 5 ?_
  refine stp (zG5 rfl rfl ?_)
  refine zA6 ?_
  refine zA2 (b := (decide ((steps.getD k 0) < 0))) rfl (fun h2 => ?_) (fun h2 => ?_)
  ·
   replace h2 := qT h2
   refine qZ 2 ?_
   refine stp (zB0 (v := .agg #[.int .i64 0, .int .i64 0, .int .i64 0, .int .i64 0, .int .u64 0]) (fun w => by kernel_rfl) ?_)
   refine stn (qS hc10 ?_)
   intro w16 hc17 u18
   replace K := (by first | exact K.upd_new u18 (by assumption) | exact K.tr (NkP.of_upd u18 (by simp)))
   replace g0 := (by first | exact Grow.upd g0 u18 (Nat.le_trans g0w (by assumption)) | exact Grow.upd g0 u18 hbn | exact Grow.upd g0 u18 hb0)
   replace st := st.upd u18 hc10 (by decide) (by decide)
   replace hc4 := u18.heap hc4 ne13
   clear u18 hc10
   refine qZ 3 ?_
   have h9 : (zJ6 s steps a cost) = (Vl0, 1) := by unfold zJ6; rw [if_pos ⟨_, qM4 hi, h2⟩]
   refine ret2 (zA5 rfl hc17 (by rfl)) (zA1 (v := .int .u16 1) rfl) ⟨by rw [h9] <;> rfl, _, fun h_ => absurd h_ (by rw [h9]; first | decide | (simp; done) | assumption | omega), st, K⟩
  ·
   replace h2 := qF h2
   refine qZ 2 ?_
   refine stp (zB9 rfl rfl ?_ ?_); constructor <;> omega
   refine qZ 2 ?_
   refine ⟨_, ?_, k + 1, rfl, zD3 ⟨rfl, rfl, rfl, rfl, rfl, rfl, rfl, trivial⟩, by omega, fun j hj => by rcases Nat.lt_succ_iff_lt_or_eq.1 hj with h_ | h_; exact hnn j h_; subst h_; omega, K, g0, st, hc4, hc10⟩
   omega
 ·
  replace hlt1 := qF hlt1
  replace hnn : ∀ j, j < steps.length → 0 ≤ steps.getD j 0 := fun j hj => hnn j (by omega)
  have hno : ¬ ∃ k ∈ steps, k < 0 := fun ⟨x_, hx_, hlt_⟩ => by obtain ⟨j_, hj_, he_⟩ := List.getElem_of_mem hx_; have := hnn j_ hj_; rw [zE4 hj_] at this; omega
  refine qZ 7 ?_
  refine stp (zQ5 rfl rfl ?_)
  refine zA6 ?_
  refine zA2 (b := (decide ((steps.length : Int) > 32))) rfl (fun h3 => ?_) (fun h3 => ?_)
  ·
   replace h3 := qT h3
   refine qZ 2 ?_
   refine stp (zB0 (v := .agg #[.int .i64 0, .int .i64 0, .int .i64 0, .int .i64 0, .int .u64 0]) (fun w => by kernel_rfl) ?_)
   refine stn (qS hc10 ?_)
   intro w19 hc20 u21
   replace K := (by first | exact K.upd_new u21 (by assumption) | exact K.tr (NkP.of_upd u21 (by simp)))
   replace g0 := (by first | exact Grow.upd g0 u21 (Nat.le_trans g0w (by assumption)) | exact Grow.upd g0 u21 hbn | exact Grow.upd g0 u21 hb0)
   replace st := st.upd u21 hc10 (by decide) (by decide)
   replace hc4 := u21.heap hc4 ne13
   clear u21 hc10
   refine qZ 3 ?_
   have h9 : (zJ6 s steps a cost) = (Vl0, 3) := by unfold zJ6; rw [if_neg hno, if_pos h3]
   refine ret2 (zA5 rfl hc20 (by rfl)) (zA1 (v := .int .u16 3) rfl) ⟨by rw [h9] <;> rfl, _, fun h_ => absurd h_ (by rw [h9]; first | decide | (simp; done) | assumption | omega), st, K⟩
  ·
   replace h3 := qF h3
   refine qZ 4 ?_
   refine stp ?_
   refine zD2 rfl (zT4 _ hA hr hx hs g0 hbn st (by omega) 0 0) ?_
   rintro v_ w22 ⟨rfl, L1, he1, hl1, st2_, rel_⟩
   replace hc4 := rel_.hpN st hc4 (by decide) (by decide)
   replace hc10 := rel_.hpN st hc10 (by decide) (by decide)
   replace g0 := NkP.to_grow rel_ g0 (fun x_ hx_ => by simp only [List.mem_cons, List.mem_singleton, List.not_mem_nil, or_false] at hx_; (first | (subst hx_; first | assumption | exact hbn) | (rcases hx_ with rfl | rfl <;> assumption)))  (Nat.le_refl _)
   replace K := K.new_nk rel_ (fun x_ hx_ => by simp only [List.mem_cons, List.mem_singleton, List.not_mem_nil, or_false] at hx_; (first | (rcases hx_ with rfl | rfl <;> first | (right; simp; done) | (left; assumption)) | (subst hx_; first | (right; simp; done) | (left; assumption))))
   clear rel_ st
   have st := st2_
   clear st2_
   refine qZ 3 ?_
   refine stp (zA8 ?_)
   intro b23 w24 hb25 hc26 g27
   refine stn (qS hc26 ?_)
   intro w28 hc29 u30
   have g31 := g27.upd u30 hb25
   have hge32 := Nat.le_trans K.size hb25
   have ne33 := qN hc4 hb25
   have ne34 := qN hc10 hb25
   replace hc4 := g31.heap hc4
   replace hc10 := g31.heap hc10
   replace g0 := g0.tr g31
   replace K := K.tr (NkP.of_grow g31)
   replace st := st.grow g31
   clear u30 g27 hb25 hc26
   refine qZ 6 ?_
   refine stp (zI1 rfl rfl ?_)
   refine zA6 ?_
   refine zA2 (b := (decide (((zA0 s 0 0).2) ≠ 0))) rfl (fun h4 => ?_) (fun h4 => ?_)
   ·
    replace h4 := qT h4
    refine qZ 2 ?_
    refine stp (zB0 (v := .agg #[.int .i64 0, .int .i64 0, .int .i64 0, .int .i64 0, .int .u64 0]) (fun w => by kernel_rfl) ?_)
    refine qZ 1 ?_
    refine stn (qS hc10 ?_)
    intro w35 hc36 u37
    replace hc4 := u37.heap hc4 ne13
    replace g0 := (by first | exact Grow.upd g0 u37 (Nat.le_trans g0w (by assumption)) | exact Grow.upd g0 u37 hbn | exact Grow.upd g0 u37 hb0)
    replace K := (by first | exact K.upd_new u37 (by assumption) | exact K.tr (NkP.of_upd u37 (by simp)))
    replace st := st.upd u37 hc10 (by decide) (by decide)
    replace hc29 := u37.heap hc29 ne34.symm
    clear u37 hc10
    refine qZ 3 ?_
    have h9 : (zJ6 s steps a cost) = (Vl0, (zA0 s 0 0).2) := by unfold zJ6; rw [if_neg hno, if_neg h3, if_pos h4]
    refine ret2 (zA5 rfl hc36 (by rfl)) (zA1 (v := .int .u16 ((zA0 s 0 0).2)) rfl) ⟨by rw [h9] <;> rfl, _, fun h_ => absurd h_ (by rw [h9]; first | decide | (simp; done) | assumption | omega), st, K⟩
   ·
    replace h4 := qF h4
    have hr0_ := fol9 hs hr hx 0 0
    refine qZ 6 ?_
    refine stp ?_
    refine qO2 rfl rfl rfl ?_
    rw [show (if (-1 : Int) > cost then -1 else cost) = max cost (-1) from by split <;> omega]
    obtain ⟨left0, hl0⟩ : ∃ x, x = max cost (-1) := ⟨_, rfl⟩
    rw [← hl0]
    refine stp (zB0 (v := .agg #[.iface 74 (.pointer (some ⟨bn, 0, none⟩)), .int .i64 ((zA0 s 0 0).1.kind), .int .i64 ((zA0 s 0 0).1.seg), .int .i64 ((zA0 s 0 0).1.at_), .int .i64 ((zA0 s 0 0).1.data), .int .i64 ((zA0 s 0 0).1.ptrs), .int .i64 ((zA0 s 0 0).1.size), .int .i64 ((zA0 s 0 0).1.count), .int .i64 left0]) (fun w => by kernel_rfl) ?_)
    refine stp ?_
    refine qC ?_
    intro b38 w39 hb40 hc41 g42
    have hge43 := Nat.le_trans K.size hb40
    have ne44 := qN hc4 hb40
    have ne45 := qN hc10 hb40
    have ne46 := qN hc29 hb40
    replace hc4 := g42.heap hc4
    replace hc10 := g42.heap hc10
    replace g0 := g0.tr g42
    replace K := K.tr (NkP.of_grow g42)
    replace st := st.grow g42
    replace hc29 := g42.heap hc29
    clear g42 hb40
    refine qZ 2 ?_
    have hwb : w.heap.size ≤ b38 := hge43
    have hb0 : w0.heap.size ≤ b38 := Nat.le_trans g0w hwb
    refine qZ 3 ?_
    refine stp (qJ3 (vs := [.pointer (some ⟨b38, 0, none⟩)]) (us := []) rfl rfl ?_)
    refine qZ 6 ?_
    refine stp ?_
    refine zD2 rfl (qQ5 _ hc41 (by omega) (zK1 hr0_)) ?_
    rintro v_ w47 ⟨rfl, hb48, K_⟩
    replace st := st.kp K_ hc41 (by decide) (by decide)
    replace hc4 := K_.heap hc4 (fun hm_ => by simp only [List.mem_singleton] at hm_; exact zP2 hc4 hc41 (by decide) hm_)
    replace hc10 := K_.heap hc10 (fun hm_ => by simp only [List.mem_singleton] at hm_; exact zP2 hc10 hc41 (by decide) hm_)
    replace hc29 := K_.heap hc29 (fun hm_ => by simp only [List.mem_singleton] at hm_; exact zP2 hc29 hc41 (by decide) hm_)
    replace g0 := g0.trK K_ (fun x_ hx_ => by simp only [List.mem_singleton] at hx_; subst hx_; exact hb0)
    replace K := K.new_kp K_ (fun x_ hx_ => by simp only [List.mem_singleton] at hx_; subst hx_; exact .inl hwb)
    clear K_ hc41
    obtain ⟨e49, he49⟩ : ∃ x, x = (if left0 - (1 + zC8 (zA0 s 0 0).1) < 0 then (22 : Int) else 0) := ⟨_, rfl⟩
    rw [← he49]
    have hqe49 : (left0 - (1 + zC8 (zA0 s 0 0).1) < 0 ∧ e49 = 22) ∨ (¬ left0 - (1 + zC8 (zA0 s 0 0).1) < 0 ∧ e49 = 0) := by rw [he49]; split <;> omega
    refine qZ 5 ?_
    refine stp (zI1 rfl rfl ?_)
    refine zA6 ?_
    refine zA2 (b := (decide (e49 ≠ 0))) rfl (fun h5 => ?_) (fun h5 => ?_)
    ·
     replace h5 := qT h5
     have he_ : e49 = 22 := by omega
     refine qZ 2 ?_
     refine stp (zB0 (v := .agg #[.int .i64 0, .int .i64 0, .int .i64 0, .int .i64 0, .int .u64 0]) (fun w => by kernel_rfl) ?_)
     refine qZ 1 ?_
     refine stn (qS hc10 ?_)
     intro w50 hc51 u52
     replace hc4 := u52.heap hc4 ne13
     replace g0 := (by first | exact Grow.upd g0 u52 (Nat.le_trans g0w (by assumption)) | exact Grow.upd g0 u52 hbn | exact Grow.upd g0 u52 hb0)
     replace K := (by first | exact K.upd_new u52 (by assumption) | exact K.tr (NkP.of_upd u52 (by simp)))
     replace st := st.upd u52 hc10 (by decide) (by decide)
     replace hc29 := u52.heap hc29 ne34.symm
     replace hb48 := u52.heap hb48 ne45.symm
     clear u52 hc10
     refine qZ 3 ?_
     have h9 : (zJ6 s steps a cost) = (Vl0, 22) := by unfold zJ6; rw [if_neg hno, if_neg h3, if_neg h4, ← hl0, if_pos (by omega)]
     refine ret2 (zA5 rfl hc51 (by rfl)) (zA1 (v := .int .u16 e49) rfl) ⟨by rw [h9, he_] <;> rfl, _, fun h_ => absurd h_ (by rw [h9]; simp), st, K⟩
    ·
     replace h5 := qF h5
     have hw0 : (zJ6 s steps a cost) = qM3 s a (steps.drop 0) (zA0 s 0 0).1 (left0 - (1 + zC8 (zA0 s 0 0).1)) := by unfold zJ6; rw [if_neg hno, if_neg h3, if_neg h4, ← hl0, if_neg (by omega)]; rfl
     have hL1 : L1 = (zG1 A L 0 0) := he1 (by omega)
     refine qZ 12 ?_
     have hlw := zK1 hr0_
     have hst32 : steps.length ≤ 32 := by omega
     refine zF4 (fun m_ e_ w_ => ∃ (k : Nat) (o : Ob) (left : Int) (l : List Spn), m_ = steps.length - k ∧ Fr [(4, .pointer (some ⟨b1, 0, none⟩)), (6, .pointer (some ⟨b7, 0, none⟩)), (11, .int .u16 ((zA0 s 0 0).2)), (12, .pointer (some ⟨b38, 0, none⟩)), (13, .func (.func 53) #[.pointer (some ⟨b38, 0, none⟩)] #[]), (59, .slice ad steps.length c), (60, .int .i64 (steps.length : Int)), (61, .int .i64 (k : Int))] e_ ∧ (k ≤ steps.length) ∧ (ObR o) ∧ (ObK o) ∧ (0 ≤ left ∧ left ≤ 9223372036854775807) ∧ ((zJ6 s steps a cost) = qM3 s a (steps.drop k) o left) ∧ (l.length ≤ L.length + 3 + 3 * k) ∧ ((endT A (goT A steps (zG1 A L 0 0) (zA0 s 0 0).1).1 (goT A steps (zG1 A L 0 0) (zA0 s 0 0).1).2 a) = endT A (goT A (steps.drop k) l o).1 (goT A (steps.drop k) l o).2 a) ∧ (w_.heap[b1]? = some (.cells #[.slice ad steps.length c, .int .i64 a] 30 (0, 0))) ∧ (w_.heap[b7]? = some (.cells #[.int .i64 0, .int .i64 0, .int .i64 0, .int .i64 0, .int .u64 0] 40 (0, 0))) ∧ (Grow w0 w_) ∧ (NkP [bn] 61 w0.heap.size w w_) ∧ (w_.heap[b23]? = some (.cells #[.int .i64 ((zA0 s 0 0).1.kind), .int .i64 ((zA0 s 0 0).1.seg), .int .i64 ((zA0 s 0 0).1.at_), .int .i64 ((zA0 s 0 0).1.data), .int .i64 ((zA0 s 0 0).1.ptrs), .int .i64 ((zA0 s 0 0).1.size), .int .i64 ((zA0 s 0 0).1.count)] 112 (0, 0))) ∧ (w_.heap[b38]? = some (.cells #[.iface 74 (.pointer (some ⟨bn, 0, none⟩)), .int .i64 o.kind, .int .i64 o.seg, .int .i64 o.at_, .int .i64 o.data, .int .i64 o.ptrs, .int .i64 o.size, .int .i64 o.count, .int .i64 left] 117 (0, 0))) ∧ (NtS 110 79 61 w0.heap.size w_ u bn l)) _ ⟨0, (zA0 s 0 0).1, (left0 - (1 + zC8 (zA0 s 0 0).1)), L1, rfl, zD3 ⟨rfl, rfl, rfl, rfl, rfl, rfl, rfl, rfl, trivial⟩, by omega, hr0_, zU3 s 0 0, by omega, hw0, by omega, by rw [hL1]; rfl, hc4, hc10, g0, K, hc29, hb48, st⟩ ?_
     clear hc4 hc10 g0 K st hc29 hb48
     rintro m_ e_ w53 ⟨k, o, left, l, rfl, ⟨e54, rfl⟩, hk2, ho, hok, hlf, hw, hll, htt, hc4, hc10, g0, K, hc29, hb48, st⟩
     refine qZ 2 ?_
     refine stp (zG5 rfl rfl ?_)
     refine qZ 2 ?_
     refine zA2 (b := (decide ((k : Int) < (steps.length : Int)))) rfl (fun hlt => ?_) (fun hlt => ?_)
     ·
      replace hlt := qT hlt
      have hi : k < steps.length := by omega
      have hdr : steps.drop k = (steps.getD k 0) :: steps.drop (k + 1) := by rw [List.drop_eq_getElem_cons hi, zE4 hi]
      have hkk := hnn k hi
      have hso := yW9 (fun x_ y_ => fol9 hs hr hx x_ y_) ho (steps.getD k 0)
      have hsw := zK1 hso
      refine qZ 5 ?_
      refine stp (zF1 (R.grow g0) rfl rfl ?_ ?_); omega
      refine stp (zE8 (v := .int .i64 (steps.getD k 0)) (m := 0) (R.grow g0) rfl (zM6 0 (by omega)) ?_)
      refine qZ 6 ?_
      refine stp ?_
      refine zD2 rfl (qX6 _ hA hr hx hs g0 hbn st (by omega) hb0 hb48 ho hok hkk) ?_
      rintro v_ w55 ⟨rfl, L2, he2, hl2, hb56, st2_, rel_⟩
      replace hc4 := rel_.hpN2 st hb48 hc4 (by decide) (by decide) (by decide)
      replace hc10 := rel_.hpN2 st hb48 hc10 (by decide) (by decide) (by decide)
      replace hc29 := rel_.hpN2 st hb48 hc29 (by decide) (by decide) (by decide)
      replace g0 := NkP.to_grow rel_ g0 (fun x_ hx_ => by simp only [List.mem_cons, List.mem_singleton, List.not_mem_nil, or_false] at hx_; (first | (subst hx_; first | assumption | exact hbn) | (rcases hx_ with rfl | rfl <;> assumption)))  (Nat.le_refl _)
      replace K := K.new_nk rel_ (fun x_ hx_ => by simp only [List.mem_cons, List.mem_singleton, List.not_mem_nil, or_false] at hx_; (first | (rcases hx_ with rfl | rfl <;> first | (right; simp; done) | (left; assumption)) | (subst hx_; first | (right; simp; done) | (left; assumption))))
      clear rel_ st hb48
      have st := st2_
      clear st2_
      refine qZ 6 ?_
      refine stp (zD5 rfl rfl ?_)
      refine zA6 ?_
      refine zA2 (b := (decide (((zH6 s o (steps.getD k 0)).2) = 0))) rfl (fun h7 => ?_) (fun h7 => ?_)
      ·
       replace h7 := qT h7
       refine qZ 2 ?_
       refine stp ?_
       refine zD2 rfl (qQ5 _ hb56 (by omega) (zK1 hso)) ?_
       rintro v_ w57 ⟨rfl, hb58, K_⟩
       replace st := st.kp K_ hb56 (by decide) (by decide)
       replace hc4 := K_.heap hc4 (fun hm_ => by simp only [List.mem_singleton] at hm_; exact zP2 hc4 hb56 (by decide) hm_)
       replace hc10 := K_.heap hc10 (fun hm_ => by simp only [List.mem_singleton] at hm_; exact zP2 hc10 hb56 (by decide) hm_)
       replace hc29 := K_.heap hc29 (fun hm_ => by simp only [List.mem_singleton] at hm_; exact zP2 hc29 hb56 (by decide) hm_)
       replace g0 := g0.trK K_ (fun x_ hx_ => by simp only [List.mem_singleton] at hx_; subst hx_; exact hb0)
       replace K := K.new_kp K_ (fun x_ hx_ => by simp only [List.mem_singleton] at hx_; subst hx_; exact .inl hwb)
       clear K_ hb56
       obtain ⟨e59, he59⟩ : ∃ x, x = (if left - (1 + zC8 (zH6 s o (steps.getD k 0)).1) < 0 then (22 : Int) else 0) := ⟨_, rfl⟩
       rw [← he59]
       have hqe59 : (left - (1 + zC8 (zH6 s o (steps.getD k 0)).1) < 0 ∧ e59 = 22) ∨ (¬ left - (1 + zC8 (zH6 s o (steps.getD k 0)).1) < 0 ∧ e59 = 0) := by rw [he59]; split <;> omega
       refine qZ 6 ?_
       refine stp (zD5 rfl rfl ?_)
       refine zA6 ?_
       refine zA2 (b := (decide (e59 = 0))) rfl (fun h8 => ?_) (fun h8 => ?_)
       ·
        replace h8 := qT h8
        refine qZ 2 ?_
        refine stp (zB9 rfl rfl ?_ ?_); constructor <;> omega
        refine qZ 2 ?_
        have hz7 : (zH6 s o (steps.getD k 0)).2 = 0 := by omega
        refine ⟨_, ?_, k + 1, (zH6 s o (steps.getD k 0)).1, left - (1 + zC8 (zH6 s o (steps.getD k 0)).1), L2, rfl, zD3 ⟨rfl, rfl, rfl, rfl, rfl, rfl, rfl, rfl, trivial⟩, by omega, hso, yW8 s hok _, by omega, by rw [hw, hdr, qM3, if_neg (by omega), if_neg (by omega)], by omega, by rw [htt, hdr, yR8 hs hz7, he2 hz7], hc4, hc10, g0, K, hc29, hb58, st⟩
        omega
       ·
        replace h8 := qF h8
        have he_ : e59 = 22 := by omega
        refine qZ 3 ?_
        refine stp (zB0 (v := .agg #[.int .i64 0, .int .i64 0, .int .i64 0, .int .i64 0, .int .u64 0]) (fun w => by kernel_rfl) ?_)
        refine qZ 1 ?_
        refine stn (qS hc10 ?_)
        intro w60 hc61 u62
        replace hc4 := u62.heap hc4 ne13
        replace hc29 := u62.heap hc29 ne34.symm
        replace g0 := (by first | exact Grow.upd g0 u62 (Nat.le_trans g0w (by assumption)) | exact Grow.upd g0 u62 hbn | exact Grow.upd g0 u62 hb0)
        replace K := (by first | exact K.upd_new u62 (by assumption) | exact K.tr (NkP.of_upd u62 (by simp)))
        replace st := st.upd u62 hc10 (by decide) (by decide)
        replace hb58 := u62.heap hb58 ne45.symm
        clear u62 hc10
        refine qZ 3 ?_
        have h9 : (zJ6 s steps a cost) = (Vl0, 22) := by rw [hw, hdr, qM3, if_neg (by omega), if_pos (by omega)]
        refine ret2 (zA5 rfl hc61 (by rfl)) (zA1 (v := .int .u16 e59) rfl) ⟨by rw [h9, he_] <;> rfl, _, fun h_ => absurd h_ (by rw [h9]; simp), st, K⟩
      ·
       replace h7 := qF h7
       refine qZ 5 ?_
       refine stp (qG0 rfl rfl (by omega) ?_)
       refine zA6 ?_
       refine zQ4 rfl ?_
       refine qZ 3 ?_
       refine stp (zB0 (v := .agg #[.int .i64 0, .int .i64 0, .int .i64 0, .int .i64 0, .int .u64 0]) (fun w => by kernel_rfl) ?_)
       refine qZ 1 ?_
       refine stn (qS hc10 ?_)
       intro w63 hc64 u65
       replace hc4 := u65.heap hc4 ne13
       replace hc29 := u65.heap hc29 ne34.symm
       replace g0 := (by first | exact Grow.upd g0 u65 (Nat.le_trans g0w (by assumption)) | exact Grow.upd g0 u65 hbn | exact Grow.upd g0 u65 hb0)
       replace K := (by first | exact K.upd_new u65 (by assumption) | exact K.tr (NkP.of_upd u65 (by simp)))
       replace st := st.upd u65 hc10 (by decide) (by decide)
       replace hb56 := u65.heap hb56 ne45.symm
       clear u65 hc10
       refine qZ 3 ?_
       have h9 : (zJ6 s steps a cost) = (Vl0, (zH6 s o (steps.getD k 0)).2) := by rw [hw, hdr, qM3, if_pos h7]
       refine ret2 (zA5 rfl hc64 (by rfl)) (zA1 (v := .int .u16 ((zH6 s o (steps.getD k 0)).2)) rfl) ⟨by rw [h9] <;> rfl, _, fun h_ => absurd h_ (by rw [h9]; first | decide | (simp; done) | assumption | omega), st, K⟩
     ·
      replace hlt := qF hlt
      have hk9 : k = steps.length := by omega
      have hv : (zJ6 s steps a cost) = valS s o a := by rw [hw, hk9, List.drop_length, qM3]
      rw [hk9, List.drop_length, goT] at htt
      refine qZ 6 ?_
      refine stp (zG5 rfl rfl ?_)
      refine zA6 ?_
      refine zA2 (b := (decide (a < 0))) rfl (fun h6 => ?_) (fun h6 => ?_)
      ·
       replace h6 := qT h6
       refine qZ 3 ?_
       refine stp (zA4 (v := .agg #[.int .i64 ((isS o).kind), .int .i64 ((isS o).size), .int .i64 ((isS o).words), .int .i64 ((isS o).kids), .int .u64 ((isS o).word)]) rfl (yQ0 _ hb48) ?_)
       intro w66 g67
       replace hc4 := g67.heap hc4
       replace hc10 := g67.heap hc10
       replace g0 := g0.tr g67
       replace K := K.tr (NkP.of_grow g67)
       replace hc29 := g67.heap hc29
       replace hb48 := g67.heap hb48
       replace st := st.grow g67
       clear g67
       refine stn (qS hc10 ?_)
       intro w68 hc69 u70
       replace hc4 := u70.heap hc4 ne13
       replace g0 := (by first | exact Grow.upd g0 u70 (Nat.le_trans g0w (by assumption)) | exact Grow.upd g0 u70 hbn | exact Grow.upd g0 u70 hb0)
       replace K := (by first | exact K.upd_new u70 (by assumption) | exact K.tr (NkP.of_upd u70 (by simp)))
       replace hc29 := u70.heap hc29 ne34.symm
       replace hb48 := u70.heap hb48 ne45.symm
       replace st := st.upd u70 hc10 (by decide) (by decide)
       clear u70 hc10
       refine qZ 3 ?_
       have h9 : (zJ6 s steps a cost) = (isS o, 0) := by rw [hv, valS, if_pos h6]
       refine ret2 (zA5 rfl hc69 (by rfl)) (zA1 (v := .int .u16 0) rfl) ⟨by rw [h9] <;> rfl, _, fun _ => by rw [htt]; unfold endT; rw [if_pos (.inl h6)], st, K⟩
      ·
       replace h6 := qF h6
       refine qZ 6 ?_
       refine stp ?_
       refine zD2 rfl (qS0 _ hA hr hx hs g0 hbn st (by omega) hb0 hb48 ho hok (by omega) (by omega)) ?_
       rintro v_ w71 ⟨rfl, L3, he3, st2_, rel_⟩
       replace hc4 := rel_.hpN st hc4 (by decide) (by decide)
       replace hc10 := rel_.hpN st hc10 (by decide) (by decide)
       replace hc29 := rel_.hpN st hc29 (by decide) (by decide)
       replace hb48 := rel_.hpN st hb48 (by decide) (by decide)
       replace g0 := NkP.to_grow rel_ g0 (fun x_ hx_ => by simp only [List.mem_cons, List.mem_singleton, List.not_mem_nil, or_false] at hx_; (first | (subst hx_; first | assumption | exact hbn) | (rcases hx_ with rfl | rfl <;> assumption)))  (Nat.le_refl _)
       replace K := K.new_nk rel_ (fun x_ hx_ => by simp only [List.mem_cons, List.mem_singleton, List.not_mem_nil, or_false] at hx_; (first | (rcases hx_ with rfl | rfl <;> first | (right; simp; done) | (left; assumption)) | (subst hx_; first | (right; simp; done) | (left; assumption))))
       clear rel_ st
       have st := st2_
       clear st2_
       refine qZ 10 ?_
       refine stp (zI1 rfl rfl ?_)
       refine zA6 ?_
       refine zA2 (b := (decide (((atS s o a).2) ≠ 0))) rfl (fun h7 => ?_) (fun h7 => ?_)
       ·
        replace h7 := qT h7
        refine qZ 2 ?_
        refine stp (zB0 (v := .agg #[.int .i64 0, .int .i64 0, .int .i64 0, .int .i64 0, .int .u64 0]) (fun w => by kernel_rfl) ?_)
        refine qZ 1 ?_
        refine stn (qS hc10 ?_)
        intro w72 hc73 u74
        replace hc4 := u74.heap hc4 ne13
        replace hc29 := u74.heap hc29 ne34.symm
        replace hb48 := u74.heap hb48 ne45.symm
        replace g0 := (by first | exact Grow.upd g0 u74 (Nat.le_trans g0w (by assumption)) | exact Grow.upd g0 u74 hbn | exact Grow.upd g0 u74 hb0)
        replace K := (by first | exact K.upd_new u74 (by assumption) | exact K.tr (NkP.of_upd u74 (by simp)))
        replace st := st.upd u74 hc10 (by decide) (by decide)
        clear u74 hc10
        refine qZ 3 ?_
        have h9 : (zJ6 s steps a cost) = (Vl0, (atS s o a).2) := by rw [hv, valS, if_neg h6, if_pos h7]
        refine ret2 (zA5 rfl hc73 (by rfl)) (zA1 (v := .int .u16 ((atS s o a).2)) rfl) ⟨by rw [h9] <;> rfl, _, fun h_ => absurd h_ (by rw [h9]; first | decide | (simp; done) | assumption | omega), st, K⟩
       ·
        replace h7 := qF h7
        refine qZ 9 ?_
        refine stp (zB0 (v := .agg #[.int .i64 o.kind, .int .i64 0, .int .i64 0, .int .i64 0, .int .u64 ((atS s o a).1)]) (fun w => by kernel_rfl) ?_)
        refine stn (qS hc10 ?_)
        intro w75 hc76 u77
        replace hc4 := u77.heap hc4 ne13
        replace hc29 := u77.heap hc29 ne34.symm
        replace hb48 := u77.heap hb48 ne45.symm
        replace g0 := (by first | exact Grow.upd g0 u77 (Nat.le_trans g0w (by assumption)) | exact Grow.upd g0 u77 hbn | exact Grow.upd g0 u77 hb0)
        replace K := (by first | exact K.upd_new u77 (by assumption) | exact K.tr (NkP.of_upd u77 (by simp)))
        replace st := st.upd u77 hc10 (by decide) (by decide)
        clear u77 hc10
        refine qZ 3 ?_
        have h9 : (zJ6 s steps a cost) = (⟨o.kind, 0, 0, 0, (atS s o a).1⟩, 0) := by rw [hv, valS, if_neg h6, if_neg h7]
        refine ret2 (zA5 rfl hc76 (by rfl)) (zA1 (v := .int .u16 0) rfl) ⟨by rw [h9] <;> rfl, _, fun _ => by rw [htt]; exact he3 (by omega), st, K⟩
end Go.Proofs.YtkkbbhpbcfcplaaGreat.K
namespace Go.Proofs.YtkkbbhpbcfcplaaGreat.K
open Go Go.RowKit
def OblQ (P : Program) (ops : Array Oper) (F : KpQ) (S : Nat → World → Prop) (w0 : World) (e : Env) (o : Oper) (s : Sp) (l : List (Option Nat × Sp)) : Option Nat → Prop
  | none => ∀ w, F.r w0 w → OblEnv l e w fun e' => OpG P ops o e' w fun v w' => F.g w w' ∧ s.holds w' v
  | some k => ∀ w, F.r w0 w → S k w → OblEnv l e w fun e' => OpG P ops o e' w fun v w' => F.r w w' ∧ S (k + 1) w' ∧ s.holds w' v
def AOQ (P : Program) (ops : Array Oper) (F : KpQ) (S : Nat → World → Prop) (ms : List Nat) (w0 : World) (e : Env) (K : List Dn → Prop) : List Oper → List (List Nat) → List Dn → Prop
  | [], _, rdone => K rdone.reverse
  | o :: r, an, rdone => ∃ s : Sp, s.StabQ F ∧ OblQ P ops F S w0 e o s (selB rdone (an.headD [])) (zN2 ms 0 rdone.length) ∧
      AOQ P ops F S ms w0 e K r an.tail (⟨o, s, an.headD []⟩ :: rdone)
section
variable {P : Program} {ops : Array Oper} {F : KpQ} {S : Nat → World → Prop} {ms : List Nat} {w0 : World} {e : Env} {K : List Dn → Prop} {o : Oper} {r : List Oper} {a : List Nat} {an : List (List Nat)} {rdone : List Dn}
theorem zW5 (x : Value) (hm : zN2 ms 0 rdone.length = none) (h : ∀ w, F.r w0 w → OblEnv (selB rdone a) e w fun e' => OpG P ops o e' w fun v w' => F.g w w' ∧ v = x)
    (next : AOQ P ops F S ms w0 e K r an (⟨o, .ex x, a⟩ :: rdone)) : AOQ P ops F S ms w0 e K (o :: r) (a :: an) rdone := ⟨.ex x, trivial, by rw [hm]; exact h, next⟩
theorem yX3 {an : List (List Nat)} (h : K rdone.reverse) : AOQ P ops F S ms w0 e K [] an rdone := h
end
def yX4 (P : Program) (ops : Array Oper) (F : KpQ) (S : Nat → World → Prop) (ms : List Nat) (w0 : World) (e : Env) (D : List Dn) : Prop :=
  ∀ i d, D[i]? = some d → d.s.StabQ F ∧ OblQ P ops F S w0 e d.o d.s (selB (D.take i).reverse d.anc) (zN2 ms 0 i)
theorem yN1 {P : Program} {ops : Array Oper} {F : KpQ} {S : Nat → World → Prop} {ms : List Nat} {w0 : World} {e : Env} {K : List Dn → Prop} : ∀ (r : List Oper) (an : List (List Nat)) (rdone : List Dn), r.length = an.length →
    AOQ P ops F S ms w0 e K r an rdone → yX4 P ops F S ms w0 e rdone.reverse → ∃ D, K D ∧ yX4 P ops F S ms w0 e D ∧ D.map Dn.o = rdone.reverse.map Dn.o ++ r ∧ D.map Dn.anc = rdone.reverse.map Dn.anc ++ an
  | [], [], rdone, _, h, hg => ⟨rdone.reverse, h, hg, by simp, by simp⟩
  | [], _ :: _, _, hl, _, _ => by simp at hl
  | _ :: _, [], _, hl, _, _ => by simp at hl
  | o :: r, a :: an, rdone, hl, ⟨s, hs, ho, hn⟩, hg => by
    simp only [List.headD_cons, List.tail_cons] at ho hn
    obtain ⟨D, hK, hG, hD, hA⟩ := yN1 r an (⟨o, s, a⟩ :: rdone) (by simpa using hl) hn (by
      intro i d hd
      simp only [List.reverse_cons] at hd ⊢
      rcases Nat.lt_or_ge i rdone.reverse.length with hi | hi
      · rw [List.getElem?_append_left hi] at hd
        rw [List.take_append_of_le_length (by omega)]
        exact hg i d hd
      · rw [List.getElem?_append_right hi] at hd
        have h0 : i - rdone.reverse.length = 0 := by
          rcases Nat.eq_zero_or_pos (i - rdone.reverse.length) with h | h
          · exact h
          · rw [List.getElem?_eq_none (by simp only [List.length_cons, List.length_nil]; omega)] at hd; cases hd
        rw [h0] at hd
        have hi' : i = rdone.reverse.length := by omega
        subst hi'
        simp only [List.getElem?_cons_zero, Option.some.injEq] at hd
        subst hd
        have ht : (rdone.reverse ++ [(⟨o, s, a⟩ : Dn)]).take rdone.reverse.length = rdone.reverse := by simp
        rw [ht, List.reverse_reverse]
        rw [List.length_reverse]
        exact ⟨hs, ho⟩)
    exact ⟨D, hK, hG, by rw [hD]; simp, by rw [hA]; simp⟩
section main
variable {P : Program} {N : Nat} {hd tl : List Oper} {Q : Ex → Env → World → Prop} {F : KpQ} {S : Nat → World → Prop} {ms : List Nat}
structure InvQ (F : KpQ) (S : Nat → World → Prop) (ms : List Nat) (P : Program) (hd tl : List Oper) (D : List Dn) (w0 : World) (e : Env) (L : Array Bool) (E : Env) (w : World) : Prop where
  msro : E.ms = e.ms ∧ E.ro = e.ro
  down : Down (hd ++ tl) L
  head : ∀ i, Ls L i → i < hd.length
  grow : F.r w0 w
  st : ∃ k, k ≤ ms.length ∧ S k w ∧ ∀ (j p : Nat), ms[j]? = some p → (Ls L p ↔ j < k)
  got : ∀ (i : Nat) (d : Dn), D[i]? = some d → Ls L i → ∃ v, d.s.holds w v ∧ ∀ t, d.o.dst = some t → E t = v
  off : ∀ u, (∀ (i : Nat) (o : Oper), (hd ++ tl)[i]? = some o → Ls L i → o.dst ≠ some u) → E u = e u
theorem yX5 (sh : Shape hd tl) {D : List Dn} {w0 : World} {e : Env} (hD : D.map Dn.o = hd) (hA : D.map Dn.anc = ancB (hd ++ tl) hd.length) (hg : yX4 P (hd ++ tl).toArray F S ms w0 e D)
    (hS : ∀ k w w', F.g w w' → S k w → S k w') (hmo : qO5 (ancL (hd ++ tl) []) [] ms = true) (hml : ∀ (j p : Nat), ms[j]? = some p → p < hd.length)
    (hfin : ∀ w, F.r w0 w → S ms.length w → Fin (fun e w => WL P (hd ++ tl).toArray Q tl e w) D e w) : ∀ (fuel : Nat) (L : Array Bool) (E : Env) (w : World),
    InvQ F S ms P hd tl D w0 e L E w → left L ≤ fuel → AnyE P (hd ++ tl).toArray Q fuel L E w := by
  have hlen : D.length = hd.length := by rw [← hD]; simp
  have hDo : ∀ (i : Nat) (d : Dn), D[i]? = some d → (hd ++ tl)[i]? = some d.o := fun i d h => by
    have hi : i < D.length := (List.getElem?_eq_some_iff.1 h).1
    rw [List.getElem?_append_left (by omega), ← hD]; simp [h]
  have hanc := qT2 sh hlen hA
  -- with all of the head listed, what follows stands
  have fin : ∀ (L : Array Bool) (E : Env) (w : World), InvQ F S ms P hd tl D w0 e L E w → (∀ i, i < hd.length → Ls L i) → WL P (hd ++ tl).toArray Q tl E w := by
    intro L E w inv hall
    have hSl : S ms.length w := by
      obtain ⟨k0, hk0, hSk, hch⟩ := inv.st
      rcases Nat.lt_or_ge k0 ms.length with hlt | hge
      · have hp := List.getElem?_eq_getElem hlt
        have := (hch k0 _ hp).1 (hall _ (hml k0 _ hp))
        omega
      · rw [show ms.length = k0 from by omega]; exact hSk
    obtain ⟨e', hG, hmr, hu⟩ := qE5 E D e (hfin w inv.grow hSl) (fun d hd' => by
      obtain ⟨i, hi, rfl⟩ := List.getElem_of_mem hd'
      exact inv.got i _ (List.getElem?_eq_getElem hi) (hall i (by omega)))
    have : e' = E := by
      refine Env.ext' (fun u => ?_) (by rw [hmr.1, inv.msro.1]) (by rw [hmr.2, inv.msro.2])
      by_cases hin : ∃ d ∈ D, d.o.dst = some u
      · exact (hu u).1 hin
      · rw [(hu u).2 (fun d hd' he => hin ⟨d, hd', he⟩)]
        refine (inv.off u fun i o ho hl hou => hin ?_).symm
        have hi := inv.head i hl
        have hiD : i < D.length := by omega
        have := hDo i _ (List.getElem?_eq_getElem hiD)
        rw [ho] at this
        exact ⟨D[i], List.getElem_mem hiD, by rw [← Option.some.inj this]; exact hou⟩
    rw [← this]; exact hG
  -- and so the rest of the region
  have rest : ∀ (fuel : Nat) (L : Array Bool) (E : Env) (w : World), InvQ F S ms P hd tl D w0 e L E w → (∀ i, i < hd.length → Ls L i) → left L ≤ fuel →
      AnyE P (hd ++ tl).toArray Q fuel L E w := by
    intro fuel L E w inv hall hf
    refine yH3 sh fuel hd.length L E w inv.down (fun i => ⟨inv.head i, hall i⟩) (Nat.le_refl _) (by simp) hf ?_
    rw [List.drop_left]
    exact fin L E w inv hall
  intro fuel
  induction fuel with
  | zero =>
    intro L E w inv hf
    refine rest 0 L E w inv (fun i hi => ?_) hf
    by_cases hl : Ls L i
    · exact hl
    · have := zM4 (L := L) (i := i) (by rw [inv.down.size]; simp; omega) hl; omega
  | succ fuel ih =>
    intro L E w inv hf
    by_cases hall : ∀ i, i < hd.length → Ls L i
    · exact rest _ L E w inv hall hf
    refine ⟨fun hr => absurd (fun i hi => zR0 inv.down.size sh.back hr i (by simp; omega)) hall, fun i hi o' ho' => ?_⟩
    obtain ⟨hn, o, ho, hedge⟩ := (zM8 inv.down.size).1 hi
    have hin : i < (hd ++ tl).length := (List.getElem?_eq_some_iff.1 ho).1
    have hal := zJ9 inv.down i o ho hedge
    have hih : i < hd.length := by
      rcases Nat.lt_or_ge i hd.length with h' | h'
      · exact h'
      · exact absurd (fun j hj => hal j (sh.tail i h' hin j (by omega))) hall
    have hi' : i < L.size := by rw [inv.down.size]; exact hin
    have hiD : i < D.length := by omega
    have hd' := List.getElem?_eq_getElem hiD
    generalize hdd : D[i] = d at hd'
    have hod : d.o = o := by have := hDo i d hd'; rw [ho] at this; exact (Option.some.inj this).symm
    obtain ⟨hst, hob⟩ := hg i d hd'
    have ha := hanc i d hd'
    rw [ha] at hob
    have hanI : (ancL (hd ++ tl) []).getD i [] = ancI (hd ++ tl) i := rfl
    have step : OblEnv (sel (D.take i) (ancI (hd ++ tl) i)) e w fun e' => OpG P (hd ++ tl).toArray d.o e' w fun v w' => F.r w w' ∧ (zN2 ms 0 i = none → F.g w w') ∧ (∃ k, k ≤ ms.length ∧ S k w' ∧ ∀ (j p : Nat), ms[j]? = some p → (Ls (L.setIfInBounds i true) p ↔ j < k)) ∧ d.s.holds w' v := by
      obtain ⟨k0, hk0, hSk, hch⟩ := inv.st
      cases hmu : zN2 ms 0 i with
      | none =>
        rw [hmu] at hob
        refine zM1 (fun e' h => h.mono fun v w' ⟨g, hv⟩ => ⟨F.grow g, fun _ => g, ⟨k0, hk0, hS _ _ _ g hSk, fun j p hj => ?_⟩, hv⟩) _ _ (hob w inv.grow)
        rw [zK9 hi', ← hch j p hj]
        have : p ≠ i := fun h => qB5 hmu j (h ▸ hj)
        simp [this]
      | some k =>
        rw [hmu] at hob
        obtain ⟨_, hms⟩ := zR1 hmu
        rw [Nat.sub_zero] at hms
        have hkl : k < ms.length := (List.getElem?_eq_some_iff.1 hms).1
        have hkk : k0 = k := by
          have h1 : ¬ k < k0 := fun h => hn ((hch k i hms).2 h)
          rcases Nat.lt_or_ge k0 k with hlt | hge
          · have hq := List.getElem?_eq_getElem (show k0 < ms.length by omega)
            have h2 := (zV3 hmo k i hms).2 k0 _ hlt hq
            rw [hanI] at h2
            have := (hch k0 _ hq).1 (hal _ h2)
            omega
          · omega
        subst hkk
        refine zM1 (fun e' h => h.mono fun v w' ⟨g, hs', hv⟩ => ⟨g, nofun, ⟨k0 + 1, hkl, hs', fun j p hj => ?_⟩, hv⟩) _ _ (hob w inv.grow hSk)
        rw [zK9 hi', hch j p hj]
        have anc_lt : ∀ q, q ∈ ancI (hd ++ tl) i → q < i := fun q hq => ((zS2 ho).1 hq).1
        constructor
        · rintro (rfl | h)
          · rcases Nat.lt_trichotomy j k0 with h | h | h
            · omega
            · omega
            · have h2 := (zV3 hmo j p hj).2 k0 p h hms
              exact absurd (anc_lt p h2) (by omega)
          · omega
        · intro h
          rcases Nat.lt_or_ge j k0 with h' | h'
          · exact .inr h'
          · have : j = k0 := by omega
            subst this
            rw [hms] at hj
            exact .inl (Option.some.inj hj).symm
    -- the obligation, at the frame that is there
    obtain ⟨e', hG, hu⟩ := zS1 E _ e (by
      intro p hp
      unfold sel at hp
      rw [List.mem_filterMap] at hp
      obtain ⟨j, hj, hp⟩ := hp
      rw [List.getElem?_take] at hp
      split at hp
      · cases hdj : D[j]? with
        | none => rw [hdj] at hp; simp at hp
        | some dj =>
          rw [hdj] at hp
          simp only [Option.map_some, Option.some.injEq] at hp
          subst hp
          exact inv.got j dj hdj (hal j hj)
      · simp at hp) step
    have hmem : ∀ u, (∃ p ∈ sel (D.take i) (ancI (hd ++ tl) i), p.1 = some u) ↔ ∃ j ∈ ancI (hd ++ tl) i, ∃ dj, D[j]? = some dj ∧ dj.o.dst = some u := by
      intro u
      unfold sel
      constructor
      · rintro ⟨p, hp, hpu⟩
        rw [List.mem_filterMap] at hp
        obtain ⟨j, hj, hp⟩ := hp
        rw [List.getElem?_take] at hp
        split at hp
        · cases hdj : D[j]? with
          | none => rw [hdj] at hp; simp at hp
          | some dj =>
            rw [hdj] at hp
            simp only [Option.map_some, Option.some.injEq] at hp
            subst hp
            exact ⟨j, hj, dj, hdj, hpu⟩
        · simp at hp
      · rintro ⟨j, hj, dj, hdj, hdu⟩
        refine ⟨(dj.o.dst, dj.s), ?_, hdu⟩
        rw [List.mem_filterMap]
        refine ⟨j, hj, ?_⟩
        rw [List.getElem?_take, if_pos ((zS2 ho).1 hj).1, hdj]
        rfl
    have hG2 : OpG P (hd ++ tl).toArray o E w fun v w' => F.r w w' ∧ (zN2 ms 0 i = none → F.g w w') ∧ (∃ k, k ≤ ms.length ∧ S k w' ∧ ∀ (j p : Nat), ms[j]? = some p → (Ls (L.setIfInBounds i true) p ↔ j < k)) ∧ d.s.holds w' v := by
      rw [hod] at hG
      refine qF8 (sh.nosel i o ho) (fun u hu' => ?_) hG
      by_cases hin' : ∃ p ∈ sel (D.take i) (ancI (hd ++ tl) i), p.1 = some u
      · exact (hu u).1 hin'
      · rw [(hu u).2 (fun p hp he => hin' ⟨p, hp, he⟩)]
        refine (inv.off u fun k p hp hl hpu => ?_).symm
        have hki : i ≠ k := fun h => hn (h ▸ hl)
        rcases sh.read i k o p ho hp hki u hpu hu' with h | h
        · refine hin' ((hmem u).2 ⟨k, h, ?_⟩)
          have hk := inv.head k hl
          have hkD : k < D.length := by omega
          have := hDo k _ (List.getElem?_eq_getElem hkD)
          rw [hp] at this
          exact ⟨_, List.getElem?_eq_getElem hkD, by rw [← Option.some.inj this]; exact hpu⟩
        · exact hn (zJ9 inv.down k p hp (inv.down.down k p hp hl) i h)
    have hoo : o = o' := by rw [List.getElem?_toArray, ho] at ho'; exact Option.some.inj ho'
    subst hoo
    refine OpG.mono ?_ hG2
    rintro v w' ⟨hgr, hgw, hst', hv⟩
    refine ih _ _ w' ⟨⟨by rw [qZ0]; exact inv.msro.1, by rw [qZ1]; exact inv.msro.2⟩, inv.down.set ho hedge, fun j hj => ?_, F.tr inv.grow hgr, hst', fun j dj hdj hl => ?_, fun u hu' => ?_⟩ (by have := zM4 hi' hn; omega)
    · rw [zK9 hi'] at hj
      rcases hj with rfl | hj
      · exact hih
      · exact inv.head j hj
    · rw [zK9 hi'] at hl
      by_cases hji : j = i
      · subst hji
        rw [hd'] at hdj
        cases hdj
        refine ⟨v, hv, fun t ht => ?_⟩
        rw [hod] at ht
        rw [ht]; exact zN5 _ _ _
      · have hlj := hl.resolve_left hji
        obtain ⟨vj, hvj, htj⟩ := inv.got j dj hdj hlj
        have hkeep : dj.s.holds w' vj := by
          have hsj := (hg j dj hdj).1
          exact Sp.keepQ hsj hgr hvj
        refine ⟨vj, hkeep, fun t ht => ?_⟩
        rw [← htj t ht]
        cases hdst' : o.dst with
        | none => rfl
        | some t' =>
          refine zM7 _ _ fun htt => ?_
          exact sh.uniq i j o dj.o ho (hDo j dj hdj) (Ne.symm hji) t' hdst' (by rw [ht, htt])
    · have hne : o.dst ≠ some u := hu' i o ho ((zK9 hi').2 (.inl rfl))
      have : E.put o.dst v u = E u := by
        cases hdst' : o.dst with
        | none => rfl
        | some t' => exact zM7 _ _ fun htt => hne (by rw [hdst', htt])
      rw [this]
      exact inv.off u fun k p hp hl => hu' k p hp ((zK9 hi').2 (.inr hl))
theorem yZ9 {id : Nat} {e : Env} {w : World} {l : List Oper} (m : Nat) (an : List (List Nat)) (ms : List Nat) (F : KpQ) (S : Nat → World → Prop) (hm : P.follows .mixedOrders = true) (hsh : zT7 (l.take m) (l.drop m) = true)
    (han : ancB l (l.take m).length = an) (hdst : qI6 N l = true) (hmo : (qO5 (ancL l []) [] ms && ms.all fun p => Nat.blt p (l.take m).length) = true) (hS : ∀ k w w', F.g w w' → S k w → S k w') (h0 : ∀ w0, F.g w w0 → S 0 w0)
    (h : ∀ w0, F.g w w0 → AOQ P l.toArray F S ms w0 e (fun D => ∀ w', F.r w0 w' → S ms.length w' → Fin (fun e w => WL P l.toArray Q (l.drop m) e w) D e w') (l.take m) an []) :
    W P N (.region id l.toArray true) Q e w := by
  have hl := List.take_append_drop m l
  generalize hhd : l.take m = hd at *
  generalize htl : l.drop m = tl at *
  subst hl
  have h := h { w with drawn := w.drawn + 1 } (F.gdrew w)
  have h0 := h0 { w with drawn := w.drawn + 1 } (F.gdrew w)
  simp only [Bool.and_eq_true, List.all_eq_true] at hmo
  have hml : ∀ (j p : Nat), ms[j]? = some p → p < hd.length := fun j p hj => by
    have := hmo.2 p (List.mem_of_getElem? hj)
    simpa [Nat.blt_eq] using this
  intro b a k cs hs he
  subst he
  have sh := qE4 hsh
  obtain ⟨D, hK, hG, hDo, hDa⟩ := yN1 _ _ _ (by rw [← han]; simp [ancB, zL8]) h (fun i d hd' => by simp at hd')
  have hDo' : D.map Dn.o = hd := by simpa using hDo
  have hDa' : D.map Dn.anc = ancB (hd ++ tl) hd.length := by rw [hDa, han]; simp
  have hno : ∀ i, ¬ Ls (Array.replicate (hd ++ tl).toArray.size false) i := fun i => by simp [Ls, Array.getD_eq_getD_getElem?, Array.getElem?_replicate]; split <;> simp
  have hany : AnyE P (hd ++ tl).toArray Q (hd ++ tl).toArray.size (Array.replicate (hd ++ tl).toArray.size false) (env b.roundOf a) { w with drawn := w.drawn + 1 } := by
    refine yX5 sh hDo' hDa' hG hS hmo.1 hml hK _ _ _ _ ⟨⟨rfl, rfl⟩, ⟨by simp, fun i o ho hl => absurd hl (hno i)⟩, fun i hl => absurd hl (hno i), F.refl _, ⟨0, Nat.zero_le _, h0, fun j p hj => ⟨fun hl => absurd hl (hno p), fun h => by omega⟩⟩, fun i d hd' hl => absurd hl (hno i), fun u _ => rfl⟩ ?_
    unfold Go.Proofs.YtkkbbhpbcfcplaaGreat.K.left
    have := List.countP_le_length (p := (!·)) (l := (Array.replicate (hd ++ tl).toArray.size false).toList)
    simpa using this
  have hs2 := zU9 _ ((w.tape w.drawn (.order b.fn id))) _ _ _ hany
  obtain ⟨x, a', w', h1, h2, h3⟩ := zO4 hdst (k := k) (cs := cs) _ a _ hs hs2
  refine ⟨x, a', w', h1, h2, .of (.one stepR_region_draw) ?_⟩
  simp only [Region.schedule, hm, Bool.true_or, if_true]
  exact h3
end main
def Exa (w w' : World) : Prop := ∃ q os, w' = Sort.grow (w.drewN q) os
theorem Exa.refl (w : World) : Exa w w := ⟨0, #[], by simp [Sort.grow, World.drewN]⟩
theorem Exa.tr {a b c : World} (h : Exa a b) (k : Exa b c) : Exa a c := by
  obtain ⟨q, os, rfl⟩ := h
  obtain ⟨p, ps, rfl⟩ := k
  exact ⟨q + p, os ++ ps, by simp [Sort.grow, World.drewN, Array.append_assoc, Nat.add_assoc]⟩
theorem Exa.drew (w : World) : Exa w { w with drawn := w.drawn + 1 } := ⟨1, #[], by rw [Sort.grow_empty]; rfl⟩
theorem Exa.alloc (w : World) (o : Obj) : Exa w (w.alloc o) := ⟨0, #[o], by
  show w.alloc o = { w with heap := w.heap ++ #[o] }
  rw [show w.heap ++ #[o] = w.heap.push o from by simp]
  rfl⟩
theorem Exa.grow {w w' : World} (h : Exa w w') : Grow w w' := by
  obtain ⟨q, os, rfl⟩ := h
  refine ⟨rfl, rfl, rfl, by simp [Sort.grow, World.drewN], fun k hk => ?_⟩
  simp only [Sort.grow, World.drewN]
  rw [Array.getElem?_append_left hk]
abbrev exQ : KpQ := ⟨Exa, Exa, Exa.drew, Exa.refl, Exa.tr, id⟩
section
variable {P : Program} {e : Env} {w : World} {K : Value → World → Prop} {d : Option Nat} {ty : TypeId} {pos : String} {af : Array Edge} {g : Option (Nat × Bool)} {t : TypeId} {x y : Operand}
theorem yT4 {cs : Array Value} (hx : ev e x = .agg cs)
    (h : ∀ (b : Nat) (w' : World), w.heap.size ≤ b → w'.heap[b]? = some (.cells cs t (0, 0)) → Exa w w' → K (.pointer (some ⟨b, 0, none⟩)) w') : Run1 P ⟨d, .box t x, ty, pos, af, g⟩ e w K := by
  refine zD4 (v := .pointer (some ⟨w.heap.size, 0, none⟩)) (w' := w.alloc (.cells cs t (0, 0))) ?_ (h _ _ (Nat.le_refl _) (heap_alloc_new w _) (Exa.alloc w _))
  simp [execOp, Instr.box, newVar, newRow, newObj, Sem.run, hx, Value.cells]
theorem qN5 {parts : Array (Nat × Operand)} {n : Nat} {cs : Array Value} {el : TypeId}
    (hv : ∀ w : World, (Instr.buildSlice t n (parts.map fun (i, x) => (i, ev e x))).run P w = .ok (.slice (some ⟨w.heap.size, 0, none⟩) n n) (w.alloc (.cells cs el (0, 0))))
    (h : ∀ (b : Nat) (w' : World), w.heap.size ≤ b → w'.heap[b]? = some (.cells cs el (0, 0)) → Exa w w' → K (.slice (some ⟨b, 0, none⟩) n n) w') : Run1 P ⟨d, .buildSlice t n parts, ty, pos, af, g⟩ e w K :=
  zD4 (v := .slice (some ⟨w.heap.size, 0, none⟩) n n) (w' := w.alloc (.cells cs el (0, 0))) (by simp only [execOp, Sem.run_bind]; rw [hv w]; rfl) (h _ _ (Nat.le_refl _) (heap_alloc_new w _) (Exa.alloc w _))
theorem yX6 {xs_ : Array Operand} {at_ : Array TypeId} (hxs : xs_ = #[x]) (hat : at_ = #[t]) {el T : TypeId} {sz by_ : Nat} {z : Value} [hz : ElzI P t el sz by_ z] {ad : Option Addr} {b o n c : Nat} {cs : Array Value}
    (hx : ev e x = .slice ad n c) (had : n ≠ 0 → ad = some ⟨b, o, none⟩) (hb : w.heap[b]? = some (.cells cs T (0, 0))) (hf : o + n * sz ≤ cs.size) (hzs : z.cells.size = sz) (h1 : ∀ q ∈ z.cells.toList, q.oneCell' = true)
    (h : ∀ (w' : World) (cs' : Array Value), w'.heap[b]? = some (.cells cs' T (0, 0)) → cs'.size = cs.size → cs'.toList.take o = cs.toList.take o → Upd b w w' → K (.tuple #[]) w') : Run1 P ⟨d, .call ⟨.builtin .clear, xs_, at_⟩, ty, pos, af, g⟩ e w K := by
  subst hxs hat
  obtain ⟨h1t, i, h2, hzz, h3, h4, h5, h6⟩ := qJ6 hz.h
  by_cases hn : n = 0
  · subst hn
    refine zD4 (v := .tuple #[]) (w' := w) ?_ (h w cs hb rfl rfl ⟨rfl, rfl, rfl, rfl, fun _ _ => rfl⟩)
    simp only [execOp, resolve, invoke, Sem.run_bind, Sem.run_pure, Result.andThen_ok]
    cases ad <;> simp [builtin, Builtin.clear_, hx, run_underlying h1t]
  · have := had hn
    subst this
    have hzc : (Builtin.zeroCells z.cells n).size = n * sz := by simp [Builtin.zeroCells, hzs]
    have ho : ∀ q ∈ (Builtin.zeroCells z.cells n).toList, q.oneCell' = true := by
      intro q hq
      simp only [Builtin.zeroCells, Array.toList_map, List.mem_map, Array.mem_toList_iff, Array.mem_range] at hq
      obtain ⟨j, hj, rfl⟩ := hq
      refine h1 _ ?_
      have hpos : 0 < z.cells.size := by
        rcases Nat.eq_zero_or_pos z.cells.size with h0 | h0
        · rw [h0] at hj; omega
        · exact h0
      have hlt := Nat.mod_lt j hpos
      rw [getElem!_pos z.cells _ hlt]
      exact Array.getElem_mem_toList hlt
    have hst := run_storeCells_at P b o T (Builtin.zeroCells z.cells n).toList 0 cs w hb (by rw [Array.length_toList, hzc]; omega) ho
    simp only [Nat.add_zero, Array.length_toList] at hst
    refine zD4 (v := .tuple #[]) (w' := w.setRow b (cs.toList.take o ++ (Builtin.zeroCells z.cells n).toList ++ cs.toList.drop (o + (Builtin.zeroCells z.cells n).size)).toArray) ?_ (h _ _ (setRow_heap w b cs _ T (0, 0) hb) ?_ ?_ ⟨rfl, rfl, rfl, by simp, fun k hk => ?_⟩)
    · obtain ⟨m, rfl⟩ : ∃ m, n = m + 1 := ⟨n - 1, by omega⟩
      simp only [execOp, resolve, invoke, Sem.run_bind, Sem.run_pure, Result.andThen_ok]
      simp [builtin, Builtin.clear_, hx, run_underlying h1t, zeroValue, typeInfo, program, Sem.run, h2, hzz, hst]
    · simp only [List.size_toArray, List.length_append, List.length_take, Array.length_toList, List.length_drop, hzc]; omega
    · simp only [List.append_assoc]
      rw [List.take_append_of_le_length (by simp; omega), List.take_take, Nat.min_self]
    · simp only [World.setRow, Array.getElem?_modify]
      rw [if_neg (fun h => hk h.symm)]
end
def cmpI (a b : Int) : Int := if a < b then -1 else if a > b then 1 else 0
def orS : List Int → Int
  | [] => 0
  | x :: r => if x ≠ 0 then x else orS r
def cfS (x y : Spn) : Int := orS [cmpI x.1 y.1, cmpI x.2 y.2]
theorem jA0 (x y : Spn) : cfS x y < 0 ↔ x.1 < y.1 ∨ (x.1 = y.1 ∧ x.2 < y.2) := by
  unfold cfS orS orS orS cmpI
  by_cases h1 : x.1 < y.1
  · simp [h1]
  · by_cases h2 : x.1 > y.1
    · simp [h1, h2]; omega
    · by_cases h3 : x.2 < y.2
      · simp [h1, h2, h3]; omega
      · by_cases h4 : x.2 > y.2
        · simp [h1, h2, h3, h4]
        · simp [h1, h2, h3, h4]
theorem ltS (x y : Spn) : ltOf cfS x y = decide (x.1 < y.1 ∨ (x.1 = y.1 ∧ x.2 < y.2)) := by
  unfold ltOf
  exact decide_eq_decide.2 (jA0 x y)
theorem swoS : Sort.SWO (ltOf cfS) where
  irrefl x := by rw [ltS]; simp
  trans x y z h1 h2 := by rw [ltS] at *; simp only [decide_eq_true_eq] at *; omega
  ntrans x y z h1 h2 := by rw [ltS] at *; simp only [decide_eq_false_iff_not] at *; omega
theorem yX7 {d d' : Array Spn} (h : Sort.PermIn 0 d.size d d') : d'.toList.Perm d.toList := by
  have h2 := h.2.2
  rw [show d'.extract 0 d.size = d' from by rw [← h.1]; simp, show d.extract 0 d.size = d from by simp] at h2
  exact h2
theorem yX8 {d d' : Array Spn} (hs : d'.size = d.size) (h : Sort.SortedIn (ltOf cfS) 0 d.size d') : d'.toList.Pairwise (fun a b => a.1 ≤ b.1) := by
  rw [List.pairwise_iff_getElem]
  intro i j hi hj hij
  simp only [Array.length_toList] at hi hj
  have := h i j (Nat.zero_le _) hij (by omega)
  rw [getElem!_pos d' j hj, getElem!_pos d' i hi, ltS] at this
  simp only [decide_eq_false_iff_not] at this
  simp only [Array.getElem_toList]
  omega
theorem yB6 (d : Array Spn) : (Sort.flatK encS 2 d).toList = encL d.toList := by
  refine List.ext_getElem? fun t => ?_
  rcases Nat.lt_or_ge t (d.size * 2) with ht | ht
  · have h1 := Sort.get_flatK encS 2 d t ht
    have hs : t < (Sort.flatK encS 2 d).size := by simpa using ht
    have hi : t / 2 < d.size := by omega
    have hc : t % 2 < 2 := by omega
    rw [Array.getElem?_toList, Array.getElem?_eq_getElem hs, ← getElem!_pos _ t hs, h1, getElem!_pos d _ hi]
    have h2 := yB3 (L := d.toList) (i := t / 2) (c := t % 2) (by simpa using hi) hc
    rw [show t / 2 * 2 + t % 2 = t from by omega] at h2
    rw [h2, Array.getElem_toList]
    have h3 : t % 2 < (encS d[t / 2]).length := hc
    rw [List.getElem?_eq_getElem h3, getElem!_pos (encS d[t / 2]) _ h3]
  · rw [List.getElem?_eq_none (by simpa using ht), List.getElem?_eq_none (by rw [zJ5]; simpa using ht)]
theorem yG0 {w : World} {b : Nat} {T : TypeId} {cur : Array Value} {d : Array Spn} (hb : w.heap[b]? = some (.cells cur T (0, 0))) (h : cur.toList.take (d.size * 2) = encL d.toList) : Sort.HoldsK encS 2 w b 0 d := by
  intro j hj
  have hj' : j < d.size * 2 := by simpa using hj
  constructor
  · rw [Nat.zero_add, zT9 hb, getElem!_pos _ j hj]
    have h2 : (cur.toList.take (d.size * 2))[j]? = (encL d.toList)[j]? := by rw [h]
    rw [List.getElem?_take, if_pos hj', Array.getElem?_toList] at h2
    rw [h2, ← yB6, Array.getElem?_toList, Array.getElem?_eq_getElem hj]; rfl
  · simp [World.frozen?, hb]
theorem yG1 {w : World} {b n : Nat} {T : TypeId} {cur : Array Value} {d : Array Spn} {os : Array Obj} (hb : w.heap[b]? = some (.cells cur T (0, 0))) (hf : d.size * 2 ≤ cur.size) :
    ∃ cur' : Array Value, (sortWorldK encS 2 w b 0 n d os).heap[b]? = some (.cells cur' T (0, 0)) ∧ cur'.size = cur.size ∧ cur'.toList.take (d.size * 2) = encL d.toList ∧ Kp [b] w (sortWorldK encS 2 w b 0 n d os) := by
  have hlt := zC2 hb
  have hheap : ∀ k, k < w.heap.size → (sortWorldK encS 2 w b 0 n d os).heap[k]? = (w.heap.modify b (Sort.onCells (Sort.putCells id 0 (Sort.flatK encS 2 d))))[k]? := by
    intro k hk
    show ((w.heap.modify b (Sort.onCells (Sort.putCells id 0 (Sort.flatK encS 2 d)))) ++ os)[k]? = _
    rw [Array.getElem?_append_left (by simpa using hk)]
  refine ⟨Sort.putCells id 0 (Sort.flatK encS 2 d) cur, ?_, ?_, ?_, ⟨rfl, rfl, rfl, ?_, ?_⟩⟩
  · rw [hheap b hlt, Array.getElem?_modify, if_pos rfl, hb]; rfl
  · simp [Sort.putCells]
  · rw [← yB6]
    refine List.ext_getElem? fun t => ?_
    rw [List.getElem?_take]
    split
    · rename_i ht
      have hs : t < (Sort.flatK encS 2 d).size := by simpa using ht
      have hc : t < cur.size := by omega
      rw [Array.getElem?_toList, Array.getElem?_toList, Array.getElem?_eq_getElem hs]
      simp only [Sort.putCells, Array.getElem?_mapIdx, Array.getElem?_eq_getElem hc, Option.map_some]
      rw [if_pos ⟨Nat.zero_le _, by omega⟩, Nat.sub_zero, getElem!_pos _ t hs]; rfl
    · rename_i ht
      rw [List.getElem?_eq_none (by simp; omega)]
  · show w.heap.size ≤ ((w.heap.modify b (Sort.onCells (Sort.putCells id 0 (Sort.flatK encS 2 d)))) ++ os).size
    simp
  · intro k hk hne
    rw [hheap k hk, Array.getElem?_modify, if_neg (fun h => hne (by simp [h]))]
theorem qI0 {cs vs : Array Value} {o : Nat} (h : o + vs.size ≤ cs.size) : (zT5 cs o vs).toList.take (o + vs.size) = cs.toList.take o ++ vs.toList := by
  unfold zT5
  simp only []
  rw [List.take_append_of_le_length (by simp; omega), List.take_of_length_le (by simp; omega)]
theorem qX8 {cs vs : Array Value} {o m : Nat} (h : o + vs.size ≤ cs.size) (hm : o + vs.size ≤ m) : (zT5 cs o vs).toList.drop m = cs.toList.drop m := by
  unfold zT5
  simp only [List.drop_append, List.length_append, List.length_take, Array.length_toList, Nat.min_eq_left (show o ≤ cs.size by omega)]
  rw [List.drop_eq_nil_of_le (by simp; omega), List.drop_eq_nil_of_le (by simp; omega), List.nil_append, List.nil_append, List.drop_drop]
  congr 1; omega
abbrev keepS (s : Spn) : Bool := !zT2 s
structure DelSt (L : List Spn) (cap j : Nat) (K : List Spn) (cur : Array Value) : Prop where
  hj : j ≤ L.length
  hK : K = (L.take j).filter keepS
  lt : K.length < j
  sz : cur.size = cap * 2
  cap : L.length ≤ cap
  hd : cur.toList.take (K.length * 2) = encL K
  tl : (cur.toList.drop (j * 2)).take ((L.length - j) * 2) = encL (L.drop j)
theorem DelSt.load {L K : List Spn} {cap j : Nat} {cur : Array Value} (h : DelSt L cap j K cur) (hj : j < L.length) : ((cur.toList.take (L.length * 2)).drop (j * 2)).take 2 = [.int .i64 (gS L j).1, .int .i64 (gS L j).2] := by
  have h1 : ((cur.toList.drop (j * 2)).take ((L.length - j) * 2)).take 2 = (encL (L.drop j)).take 2 := by rw [h.tl]
  rw [List.take_take, Nat.min_eq_left (by omega), List.drop_eq_getElem_cons hj] at h1
  rw [List.drop_take, List.take_take, Nat.min_eq_left (by omega), h1, qE1 hj]
  rfl
theorem DelSt.tail {L K : List Spn} {cap j : Nat} {cur : Array Value} (h : DelSt L cap j K cur) (hj : j < L.length) : (cur.toList.drop ((j + 1) * 2)).take ((L.length - (j + 1)) * 2) = encL (L.drop (j + 1)) := by
  have h1 : ((cur.toList.drop (j * 2)).take ((L.length - j) * 2)).drop 2 = (encL (L.drop j)).drop 2 := by rw [h.tl]
  rw [List.drop_eq_getElem_cons hj, List.drop_take, List.drop_drop] at h1
  rw [show (j + 1) * 2 = j * 2 + 2 from by omega, show (L.length - (j + 1)) * 2 = (L.length - j) * 2 - 2 from by omega, h1]
  rfl
theorem zY1 {L : List Spn} {j : Nat} (hj : j < L.length) : (L.take (j + 1)).filter keepS = (L.take j).filter keepS ++ (if keepS (gS L j) then [gS L j] else []) := by
  rw [List.take_succ_eq_append_getElem hj, List.filter_append, qE1 hj]
  simp [List.filter_cons]
theorem DelSt.skip {L K : List Spn} {cap j : Nat} {cur : Array Value} (h : DelSt L cap j K cur) (hj : j < L.length) (hn : zT2 (gS L j) = true) : DelSt L cap (j + 1) K cur :=
  ⟨hj, by rw [zY1 hj, keepS, hn, h.hK]; simp, by have := h.lt; omega, h.sz, h.cap, h.hd, h.tail hj⟩
theorem DelSt.put {L K : List Spn} {cap j : Nat} {cur : Array Value} (h : DelSt L cap j K cur) (hj : j < L.length) (hn : zT2 (gS L j) = false) : DelSt L cap (j + 1) (K ++ [gS L j]) (zT5 cur (0 + K.length * 2) #[.int .i64 (gS L j).1, .int .i64 (gS L j).2]) := by
  have h1 := h.lt; have h2 := h.sz; have h3 := h.cap
  have hs : 0 + K.length * 2 + (#[Value.int .i64 (gS L j).1, .int .i64 (gS L j).2] : Array Value).size ≤ cur.size := by simp only [List.size_toArray, List.length_cons, List.length_nil]; omega
  refine ⟨hj, by rw [zY1 hj, keepS, hn, h.hK]; simp, by simp; omega, by rw [qG1 hs]; exact h.sz, h.cap, ?_, ?_⟩
  · have h4 := qI0 hs
    simp only [List.size_toArray, List.length_cons, List.length_nil] at h4
    rw [List.length_append, List.length_singleton, show (K.length + 1) * 2 = 0 + K.length * 2 + (0 + 1 + 1) from by omega, h4, Nat.zero_add, h.hd, zJ8]
    simp [encL, encS]
  · rw [qX8 hs (by simp only [List.size_toArray, List.length_cons, List.length_nil]; omega)]
    exact h.tail hj
theorem DelSt.start {L : List Spn} {cap i : Nat} {cur : Array Value} (hs : cur.size = cap * 2) (hc : L.length ≤ cap) (hx : cur.toList.take (L.length * 2) = encL L) (hi : i < L.length) (hn : zT2 (gS L i) = true) (hno : ∀ j, j < i → zT2 (gS L j) = false) : DelSt L cap (i + 1) (L.take i) cur := by
  have hf : (L.take i).filter keepS = L.take i := by
    refine List.filter_eq_self.2 fun s hs => ?_
    obtain ⟨j, hj, rfl⟩ := List.getElem_of_mem hs
    simp only [List.length_take] at hj
    have := hno j (by omega)
    rw [qE1 (show j < L.length by omega)] at this
    simp [keepS, this]
  refine ⟨hi, by rw [zY1 hi, keepS, hn, hf]; simp, by simp; omega, hs, hc, ?_, ?_⟩
  · have : (cur.toList.take (L.length * 2)).take ((L.take i).length * 2) = (encL L).take ((L.take i).length * 2) := by rw [hx]
    rw [List.take_take, Nat.min_eq_left (by simp; omega)] at this
    rw [this]
    conv => lhs; rw [← List.take_append_drop i L, zJ8, List.take_append_of_le_length (by rw [zJ5, List.take_append_drop]; omega)]
    rw [List.take_of_length_le (by rw [zJ5, List.take_append_drop]; omega)]
  · have : (cur.toList.take (L.length * 2)).drop ((i + 1) * 2) = (encL L).drop ((i + 1) * 2) := by rw [hx]
    rw [List.drop_take] at this
    rw [show (L.length - (i + 1)) * 2 = L.length * 2 - (i + 1) * 2 from by omega, this]
    conv => lhs; rw [← List.take_append_drop (i + 1) L, zJ8, List.drop_append, List.drop_eq_nil_of_le (by rw [zJ5]; simp; omega), zJ5]
    rw [List.length_take, Nat.min_eq_left (by omega), Nat.sub_self]; rfl
theorem DelSt.row {w : World} {g : Nat} {T : TypeId} {L K : List Spn} {cap j : Nat} {cur : Array Value} (h : DelSt L cap j K cur) (hb : w.heap[g]? = some (.cells cur T (0, 0))) (hl : L.length ≤ 140737488355328) : RowAt w 2 (some ⟨g, 0, none⟩) L.length (cur.toList.take (L.length * 2)) := by
  have h1 := h.sz; have h2 := h.cap
  exact ⟨by simp; omega, hl, fun _ => ⟨g, 0, cur, T, (0, 0), rfl, hb, by simp⟩⟩
theorem yR9 (p : Nat → Bool) (n : Nat) : (zR4 p n 0 = -1 ∧ ∀ j, j < n → p j = false) ∨ ∃ i : Nat, i < n ∧ zR4 p n 0 = i ∧ p i = true ∧ ∀ j, j < i → p j = false := by
  have key : ∀ (m i : Nat), (zR4 p m i = -1 ∧ ∀ j, i ≤ j → j < i + m → p j = false) ∨ ∃ k : Nat, i ≤ k ∧ k < i + m ∧ zR4 p m i = k ∧ p k = true ∧ ∀ j, i ≤ j → j < k → p j = false := by
    intro m
    induction m with
    | zero => intro i; exact .inl ⟨rfl, fun j _ _ => by omega⟩
    | succ m ih =>
      intro i
      cases hp : p i with
      | true => exact .inr ⟨i, Nat.le_refl _, by omega, by simp [zR4, hp], hp, fun j _ _ => by omega⟩
      | false =>
        rcases ih (i + 1) with ⟨h1, h2⟩ | ⟨k, h1, h2, h3, h4, h5⟩
        · refine .inl ⟨by simp [zR4, hp, h1], fun j h3 h4 => ?_⟩
          rcases Nat.eq_or_lt_of_le h3 with rfl | h3
          · exact hp
          · exact h2 j h3 (by omega)
        · refine .inr ⟨k, by omega, by omega, by simp [zR4, hp, h3], h4, fun j h6 h7 => ?_⟩
          rcases Nat.eq_or_lt_of_le h6 with rfl | h6
          · exact hp
          · exact h5 j h6 h7
  rcases key n 0 with ⟨h1, h2⟩ | ⟨k, -, h2, h3, h4, h5⟩
  · exact .inl ⟨h1, fun j hj => h2 j (Nat.zero_le _) (by omega)⟩
  · exact .inr ⟨k, by omega, h3, h4, fun j hj => h5 j (Nat.zero_le _) hj⟩
/-! ### the row that Norm makes: its last span stands at its list's head -/
abbrev hdS (O : List Spn) : Spn := O.headD (0, 0)
theorem yB7 {O : List Spn} (h : 0 < O.length) (c : Nat) (hc : c < 2) : (encL O.reverse)[((O.length : Int) - 1).toNat * 2 + c]? = (encS (hdS O))[c]? := by
  cases O with
  | nil => simp at h
  | cons s r =>
    have := yB3 (L := (s :: r).reverse) (i := r.length) (c := c) (by simp) hc
    rw [show (((s :: r).length : Int) - 1).toNat = r.length from by simp, this]
    congr 2
    simp
theorem yN2 {O : List Spn} {s : Spn} (h : ¬ (0 < O.length ∧ s.1 ≤ (hdS O).2)) : zN3 O s = s :: O := by
  cases O with
  | nil => rfl
  | cons t r => exact if_neg (fun h2 => h ⟨by simp, h2⟩)
theorem yB8 {O : List Spn} {s : Spn} (h : 0 < O.length) (h2 : s.1 ≤ (hdS O).2) : zN3 O s = ((hdS O).1, max (hdS O).2 s.2) :: O.tail := by
  cases O with
  | nil => simp at h
  | cons t r => exact if_pos h2
theorem yS0 {O : List Spn} {s : Spn} : (zN3 O s).length ≤ O.length + 1 := by
  cases O with
  | nil => simp [zN3]
  | cons t r => show (if s.1 ≤ t.2 then _ else _ : List Spn).length ≤ _; split <;> simp
theorem yS1 {w w' : World} {base g c : Nat} {T : TypeId} {O : List Spn} {x : Int} {cur : Array Value} (h : w.ownsRow base T 2 (.slice (some ⟨g, 0, none⟩) O.length c) O.length (encL O.reverse)) (hn : 0 < O.length) (hb : w.heap[g]? = some (.cells cur T (0, 0)))
    (hb' : w'.heap[g]? = some (.cells (zT5 cur (0 + ((O.length : Int) - 1).toNat * 2 + 1) #[.int .i64 x]) T (0, 0))) : w'.ownsRow base T 2 (.slice (some ⟨g, 0, none⟩) O.length c) O.length (encL (((hdS O).1, x) :: O.tail).reverse) := by
  cases O with
  | nil => simp at hn
  | cons t r =>
    rcases h.2 with ⟨h0, _⟩ | ⟨q, cap, cur0, hv, hq, hg, h3, h4, h5, h6⟩
    · cases h0
    · simp only [Value.slice.injEq, Option.some.injEq, Addr.mk.injEq, and_true, true_and] at hv
      obtain ⟨rfl, rfl⟩ := hv
      rw [hb] at hg
      simp only [Option.some.injEq, Obj.cells.injEq, and_true] at hg
      subst hg
      have ho : 0 + (((t :: r).length : Int) - 1).toNat * 2 + 1 = r.length * 2 + 1 := by simp
      rw [ho] at hb'
      simp only [List.length_cons] at h3 h6
      have hs : r.length * 2 + 1 + (#[Value.int .i64 x] : Array Value).size ≤ cur.size := by simp only [List.size_toArray, List.length_cons, List.length_nil]; omega
      refine ⟨by rw [zJ5]; simp, .inr ⟨g, c, _, rfl, hq, hb', h3, h4, by rw [qG1 hs]; exact h5, ?_⟩⟩
      have h7 := qI0 hs
      simp only [List.size_toArray, List.length_cons, List.length_nil] at h7
      rw [List.length_cons, show (r.length + 1) * 2 = r.length * 2 + 1 + (0 + 1) from by omega, h7]
      have h8 : (cur.toList.take ((r.length + 1) * 2)).take (r.length * 2 + 1) = (encL (t :: r).reverse).take (r.length * 2 + 1) := by rw [h6]
      rw [List.take_take, Nat.min_eq_left (by omega)] at h8
      rw [h8, List.reverse_cons, zJ8, List.reverse_cons, zJ8, List.take_append, zJ5, List.take_of_length_le (by rw [zJ5]; simp)]
      simp [encL, encS]
theorem yS2 {w : World} {base : Nat} {T : TypeId} {v : Value} {O : List Spn} {s : Spn} (h : w.ownsRow base T 2 v (O.length + 1) (encL O.reverse ++ [.int .i64 s.1, .int .i64 s.2])) : w.ownsRow base T 2 v (s :: O).length (encL (s :: O).reverse) := by
  rw [List.reverse_cons, zJ8]
  exact h
theorem qC8 {M : List Spn} {k : Nat} (h : k < M.length) : (M.take (k + 1)).foldl zN3 [] = zN3 ((M.take k).foldl zN3 []) (gS M k) := by
  rw [List.take_succ_eq_append_getElem h, List.foldl_append, qE1 h]; rfl
abbrev normO (M : List Spn) (k : Nat) : List Spn := (M.take k).foldl zN3 []
theorem qI1 : ∀ (M O : List Spn), (M.foldl zN3 O).length ≤ O.length + M.length
  | [], O => by simp
  | s :: M, O => by
    have h1 := qI1 M (zN3 O s)
    have h2 := yS0 (O := O) (s := s)
    simp only [List.foldl_cons, List.length_cons]
    omega
end Go.Proofs.YtkkbbhpbcfcplaaGreat.K
namespace Go.Proofs.YtkkbbhpbcfcplaaGreat.K
open Go Go.RowKit Go.Proofs
attribute [local irreducible] Run1 OpG WL W AO zB6
theorem qL3 (w : World) (a b : Int) : zB6 Tryz.prog 59 #[.agg #[.int .i64 a, .int .i64 b]] w (.bool (zT2 (a, b))) := by
 have G := Grow.rfl' w
 refine zA7 Tryz.func59 Tryz.ntmps59 Tryz.results59 rfl rfl ?_
 refine qZ 2 ?_
 refine stp ?_
 refine qC ?_
 intro b1 w2 hb3 hc4 g5
 have hge6 := Nat.le_trans G.size hb3
 replace G := G.tr g5
 clear g5 hb3
 refine qZ 8 ?_
 refine stp (zW8 rfl rfl ?_)
 refine qZ 3 ?_
 refine ret1 (zA1 (v := .bool (decide (b ≤ a))) rfl) ⟨?_, G⟩
 rfl
theorem qI2 (w : World) (a : Int) : Calls Tryz.prog 97 #[.int .i64 a] w (Ret fun v w' => v = .bool false ∧ w' = w) := by
 refine zB8 Tryz.func97 Tryz.ntmps97 Tryz.results97 rfl rfl ?_
 refine qZ 8 ?_
 refine stp (qT3 rfl rfl (by simp) ?_)
 refine qZ 3 ?_
 refine ret1 (zA1 (v := .bool false) rfl) ⟨rfl, rfl⟩
theorem qA9 (w : World) (a b : Int) : Calls Tryz.prog 63 #[.int .i64 a, .int .i64 b] w (Ret fun v w' => v = .int .i64 (cmpI a b) ∧ w' = w) := by
 refine zB8 Tryz.func63 Tryz.ntmps63 Tryz.results63 rfl rfl ?_
 refine qZ 7 ?_
 refine stp ?_
 refine zD2 rfl (qI2 _ _) ?_
 rintro _ _ ⟨rfl, rfl⟩
 refine qZ 5 ?_
 refine stp ?_
 refine zD2 rfl (qI2 _ _) ?_
 rintro _ _ ⟨rfl, rfl⟩
 refine qZ 7 ?_
 refine zQ4 rfl ?_
 refine qZ 6 ?_
 refine zQ4 rfl ?_
 refine qZ 6 ?_
 refine stp (zG5 rfl rfl ?_)
 refine zA6 ?_
 refine zA2 (b := (decide (a < b))) rfl (fun h1 => ?_) (fun h1 => ?_)
 ·
  replace h1 := qT h1
  refine qZ 5 ?_
  refine ret1 (zA1 (v := .int .i64 (-1)) rfl) ⟨?_, rfl⟩
  unfold cmpI; (try simp only [gt_iff_lt] at *); simp [*]
 ·
  replace h1 := qF h1
  refine qZ 6 ?_
  refine stp (zQ5 rfl rfl ?_)
  refine zA6 ?_
  refine zA2 (b := (decide (a > b))) rfl (fun h2 => ?_) (fun h2 => ?_)
  ·
   replace h2 := qT h2
   refine qZ 5 ?_
   refine ret1 (zA1 (v := .int .i64 1) rfl) ⟨?_, rfl⟩
   unfold cmpI; (try simp only [gt_iff_lt] at *); simp [*]
  ·
   replace h2 := qF h2
   refine qZ 6 ?_
   refine ret1 (zA1 (v := .int .i64 0) rfl) ⟨?_, rfl⟩
   unfold cmpI; (try simp only [gt_iff_lt] at *); simp [*]
theorem yS3 (w : World) {ad : Option Addr} {n c : Nat} {xs : List Int} (R : RowAt w 1 ad n (xs.map (.int .i64))) : Calls Tryz.prog 62 #[.slice ad n c] w (Ret fun v w' => v = .int .i64 (orS xs) ∧ w' = w) := by
 have ln := R.len
 have lm := R.lim
 simp only [List.length_map, Nat.mul_one] at ln
 refine zB8 Tryz.func62 Tryz.ntmps62 Tryz.results62 rfl rfl ?_
 refine qZ 16 ?_
 have hw : w = w := rfl
 refine zF4 (fun m_ e_ w_ => ∃ (k : Nat), m_ = n - k ∧ Fr [(3, .int .i64 0), (6, .slice ad n c), (7, .int .i64 (n : Int)), (8, .int .i64 (k : Int))] e_ ∧ (k ≤ n) ∧ (orS xs = orS (xs.drop k)) ∧ (RowAt w_ 1 ad n (xs.map (.int .i64))) ∧ (w_ = w)) _ ⟨0, rfl, zD3 ⟨rfl, rfl, rfl, rfl, trivial⟩, by omega, by simp, R, hw⟩ ?_
 clear R hw
 rintro m_ e_ w1 ⟨k, rfl, ⟨e2, rfl⟩, hk, hor, R, hw⟩
 refine qZ 2 ?_
 refine stp (zG5 rfl rfl ?_)
 refine qZ 2 ?_
 refine zA2 (b := (decide ((k : Int) < (n : Int)))) rfl (fun hlt => ?_) (fun hlt => ?_)
 ·
  replace hlt := qT hlt
  refine qZ 5 ?_
  refine stp (zF1 R rfl rfl ?_ ?_); omega
  refine stp (zE8 (v := .int .i64 (xs.getD k 0)) (m := 0) R rfl (zM6 0 (by omega)) ?_)
  refine qZ 6 ?_
  refine stp (zI1 rfl rfl ?_)
  refine zA6 ?_
  refine zA2 (b := (decide ((xs.getD k 0) ≠ 0))) rfl (fun hx => ?_) (fun hx => ?_)
  ·
   replace hx := qT hx
   refine qZ 6 ?_
   refine ret1 (zA1 (v := .int .i64 (xs.getD k 0)) rfl) ⟨?_, hw⟩
   rw [hor, List.drop_eq_getElem_cons (show k < xs.length by omega), orS, if_pos (by rw [List.getD_eq_getElem?_getD, List.getElem?_eq_getElem (by omega)] at hx; exact hx)]
   simp [List.getD_eq_getElem?_getD, List.getElem?_eq_getElem (show k < xs.length by omega)]
  ·
   replace hx := qF hx
   refine qZ 2 ?_
   refine stp (zB9 rfl rfl ?_ ?_); constructor <;> omega
   refine qZ 2 ?_
   refine ⟨_, ?_, k + 1, rfl, zD3 ⟨rfl, rfl, rfl, rfl, trivial⟩, by omega, by rw [hor, List.drop_eq_getElem_cons (show k < xs.length by omega), orS, if_neg (by rw [List.getD_eq_getElem?_getD, List.getElem?_eq_getElem (by omega)] at hx; exact hx)], R, hw⟩
   omega
 ·
  replace hlt := qF hlt
  have hk2 : xs.drop k = [] := by rw [List.drop_eq_nil_iff]; omega
  refine qZ 7 ?_
  refine ret1 (zA1 (v := .int .i64 0) rfl) ⟨?_, hw⟩
  rw [hor, hk2]; rfl
theorem qS1 (w : World) {ad : Option Addr} {c n fid : Nat} {fst cap : Array Value} {kc : List Value} [FuncI Tryz.prog fid] (R : RowAt w 2 ad n kc) (p : Nat → Bool) (hf : ∀ i, i < n → ∀ w', Grow w w' → zB6 Tryz.prog fid (fst.toList ++ ([Value.agg ((kc.drop (i * 2)).take 2).toArray] ++ cap.toList)).toArray w' (.bool (p i))) : zB6 Tryz.prog 94 #[.slice ad n c, .func (.func fid) fst cap] w (.int .i64 (zR4 p n 0)) := by
 have ln := R.lim
 have G := Grow.rfl' w
 refine zA7 Tryz.func94 Tryz.ntmps94 Tryz.results94 rfl rfl ?_
 refine qZ 12 ?_
 refine zF4 (fun m_ e_ w_ => ∃ (k : Nat), m_ = n - k ∧ Fr [(0, .slice ad n c), (1, .func (.func fid) fst cap), (7, .int .i64 (n : Int)), (8, .int .i64 (k : Int))] e_ ∧ (k ≤ n) ∧ (∀ j, j < k → p j = false) ∧ Grow w w_) _ ⟨0, rfl, zD3 ⟨rfl, rfl, rfl, rfl, trivial⟩, by omega, fun j hj => by omega, G⟩ ?_
 clear G
 rintro m_ e_ w1 ⟨k, rfl, ⟨e2, rfl⟩, hk, hno, G⟩
 refine qZ 2 ?_
 refine stp (zG5 rfl rfl ?_)
 refine qZ 2 ?_
 refine zA2 (b := (decide ((k : Int) < (n : Int)))) rfl (fun hlt => ?_) (fun hlt => ?_)
 ·
  replace hlt := qT hlt
  refine qZ 13 ?_
  refine stp (zF1 (R.grow G) rfl rfl ?_ ?_); omega
  refine stp (zN8 (R.grow G) rfl (by decide) (by rw [R.len]; omega) rfl ?_)
  refine stp (zA4 (v := .bool (p k)) rfl (hf k (by omega) _ G) ?_)
  intro w3 g4
  replace G := G.tr g4
  clear g4
  refine zA6 ?_
  refine zA2 (b := (p k)) rfl (fun hpk => ?_) (fun hpk => ?_)
  ·
   refine qZ 6 ?_
   refine ret1 (zA1 (v := .int .i64 (k : Int)) rfl) ⟨?_, G⟩
   rw [qB8 n 0 k (by omega) (by omega) hpk (fun j _ hj => hno j hj)]
  ·
   refine qZ 2 ?_
   refine stp (zB9 rfl rfl ?_ ?_); constructor <;> omega
   refine qZ 2 ?_
   refine ⟨_, ?_, k + 1, rfl, zD3 ⟨rfl, rfl, rfl, rfl, trivial⟩, by omega, fun j hj => by rcases Nat.lt_succ_iff_lt_or_eq.1 hj with h | h; exact hno j h; subst h; exact hpk, G⟩
   omega
 ·
  replace hlt := qF hlt
  have hk2 : k = n := by omega
  subst hk2
  refine qZ 6 ?_
  refine ret1 (zA1 (v := .int .i64 (-1)) rfl) ⟨?_, G⟩
  rw [qB7 _ _ (fun j _ hj => hno j (by omega))]
theorem qX9 (w : World) (a b c d : Int) : Calls Tryz.prog 61 #[.agg #[.int .i64 a, .int .i64 b], .agg #[.int .i64 c, .int .i64 d]] w (Ret fun v w' => v = .int .i64 (cfS (a, b) (c, d)) ∧ Exa w w') := by
 refine zB8 Tryz.func61 Tryz.ntmps61 Tryz.results61 rfl rfl ?_
 have X := Exa.refl w
 refine qZ 2 ?_
 refine stp (yT4 rfl ?_)
 intro b1 wb1 hge1 hb1 gb1
 replace X := X.tr gb1
 refine stp (yT4 rfl ?_)
 intro b2 wb2 hge2 hb2 gb2
 replace X := X.tr gb2
 replace hb1 := gb2.grow.heap hb1
 refine qZ 3 ?_
 have kb_hb1 : ∀ w_, exQ.r wb2 w_ → w_.heap[b1]? = some (.cells #[.int .i64 a, .int .i64 b] 61 (0, 0)) := fun w_ k_ => (Exa.grow k_).heap hb1
 have kb_hb2 : ∀ w_, exQ.r wb2 w_ → w_.heap[b2]? = some (.cells #[.int .i64 c, .int .i64 d] 61 (0, 0)) := fun w_ k_ => (Exa.grow k_).heap hb2
 refine yZ9 10 [[], [0], [], [0], [3, 2, 1, 0], [], [0], [], [0], [8, 7, 6, 5, 4, 3, 2, 1, 0]] [] exQ (fun k_ w_ => match k_ with | _ => True) mixed (by kernel_rfl) (by kernel_rfl) (by kernel_rfl) (by kernel_rfl) (fun _ _ _ _ _ => trivial) (fun _ _ => trivial) ?_
 intro w1 g2
 replace kb_hb1 : ∀ w_, exQ.r w1 w_ → w_.heap[b1]? = some (.cells #[.int .i64 a, .int .i64 b] 61 (0, 0)) := fun w_ k_ => kb_hb1 w_ (exQ.tr (exQ.grow g2) k_)
 replace kb_hb2 : ∀ w_, exQ.r w1 w_ → w_.heap[b2]? = some (.cells #[.int .i64 c, .int .i64 d] 61 (0, 0)) := fun w_ k_ => kb_hb2 w_ (exQ.tr (exQ.grow g2) k_)
 have k0_ : exQ.r wb2 w1 := (exQ.grow g2)
 apply zW5 (hm := by rfl)
 ·intro w_ g_; refine og rfl ?_; refine zE0 rfl ?_; exact ⟨Exa.refl _, rfl⟩
 apply zW5 (hm := by rfl)
 ·intro w_ g_; refine og rfl ?_; refine zG3 (v := .int .i64 a) rfl (kb_hb1 _ g_) rfl ?_; exact ⟨Exa.refl _, rfl⟩
 apply zW5 (hm := by rfl)
 ·intro w_ g_; refine og rfl ?_; refine zE0 rfl ?_; exact ⟨Exa.refl _, rfl⟩
 apply zW5 (hm := by rfl)
 ·intro w_ g_; refine og rfl ?_; refine zG3 (v := .int .i64 c) rfl (kb_hb2 _ g_) rfl ?_; exact ⟨Exa.refl _, rfl⟩
 apply zW5 (hm := by rfl)
 ·intro w_ g_; refine og rfl ?_; refine zD2 rfl (qA9 _ _ _) ?_; rintro _ _ ⟨rfl, rfl⟩; exact ⟨Exa.refl _, rfl⟩
 apply zW5 (hm := by rfl)
 ·intro w_ g_; refine og rfl ?_; refine zE0 rfl ?_; exact ⟨Exa.refl _, rfl⟩
 apply zW5 (hm := by rfl)
 ·intro w_ g_; refine og rfl ?_; refine zG3 (v := .int .i64 b) rfl (kb_hb1 _ g_) rfl ?_; exact ⟨Exa.refl _, rfl⟩
 apply zW5 (hm := by rfl)
 ·intro w_ g_; refine og rfl ?_; refine zE0 rfl ?_; exact ⟨Exa.refl _, rfl⟩
 apply zW5 (hm := by rfl)
 ·intro w_ g_; refine og rfl ?_; refine zG3 (v := .int .i64 d) rfl (kb_hb2 _ g_) rfl ?_; exact ⟨Exa.refl _, rfl⟩
 apply zW5 (hm := by rfl)
 ·intro w_ g_; refine og rfl ?_; refine zD2 rfl (qA9 _ _ _) ?_; rintro _ _ ⟨rfl, rfl⟩; exact ⟨Exa.refl _, rfl⟩
 refine yX3 ?_
 intro w3 g4 S_
 replace k0_ := (exQ.tr k0_ g4)
 replace X := X.tr k0_
 replace hb1 := kb_hb1 _ g4
 clear kb_hb1
 replace hb2 := kb_hb2 _ g4
 clear kb_hb2
 refine stp (qN5 (cs := #[.int .i64 (cmpI a c), .int .i64 (cmpI b d)]) (el := 3) (fun w => by kernel_rfl) ?_)
 intro b3 wb3 hge3 hb3 gb3
 replace X := X.tr gb3
 refine stp ?_
 refine zD2 rfl (yS3 _ (xs := [cmpI a c, cmpI b d]) ?_) ?_
 ·obtain ⟨ad_, c_, he_, -, -, R_⟩ := Row.of_block (sz := 1) (n := 2) hb3 rfl rfl (by omega)
  simp only [Value.slice.injEq] at he_
  obtain ⟨rfl, -, rfl⟩ := he_
  exact R_
 rintro _ _ ⟨rfl, rfl⟩
 refine qZ 3 ?_
 refine ret1 (zA1 (v := .int .i64 (orS [cmpI a c, cmpI b d])) rfl) ⟨rfl, X⟩
end Go.Proofs.YtkkbbhpbcfcplaaGreat.K
namespace Go.Proofs.YtkkbbhpbcfcplaaGreat.K
open Go Go.RowKit Go.Proofs Go.Shelf
attribute [local irreducible] Run1 OpG WL W AO zB6
def yN3 : Go.Shelf.Ren := ⟨fun | 6 => 60 | 15 => 96 | 14 => 95 | 28 => 128 | 29 => 129 | 20 => 120 | 21 => 121 | 22 => 122 | 23 => 123 | 24 => 124 | 25 => 125 | 26 => 126 | 27 => 127 | 46 => 152 | 47 => 153 | 48 => 154 | 49 => 155 | 50 => 156 | 57 => 162 | n => n, fun | 22 => 32 | 24 => 61 | 25 => 128 | 3 => 3 | 39 => 96 | 0 => 0 | 53 => 194 | 55 => 23 | 4 => 4 | 46 => 188 | 45 => 187 | 50 => 151 | 5 => 5 | 9 => 9 | 66 => 208 | 70 => 212 | 76 => 223 | 77 => 167 | n => n, fun | n => n⟩
theorem jA1 : Go.Proofs.SlLaysF0.n6 Tryz.prog yN3 := {
  mixed := by kernel_rfl
  f6 := ⟨Tryz.f60.name, by decide, Tryz.func60.trans (congrArg some (by kernel_rfl))⟩
  f14 := ⟨Tryz.f95.name, by decide, Tryz.func95.trans (congrArg some (by kernel_rfl))⟩
  f15 := Tryz.func96.trans (congrArg some (by kernel_rfl))
  f20 := ⟨Tryz.f120.name, by decide, Tryz.func120.trans (congrArg some (by kernel_rfl))⟩
  f21 := ⟨Tryz.f121.name, by decide, Tryz.func121.trans (congrArg some (by kernel_rfl))⟩
  f22 := ⟨Tryz.f122.name, by decide, Tryz.func122.trans (congrArg some (by kernel_rfl))⟩
  f23 := ⟨Tryz.f123.name, by decide, Tryz.func123.trans (congrArg some (by kernel_rfl))⟩
  f24 := ⟨Tryz.f124.name, by decide, Tryz.func124.trans (congrArg some (by kernel_rfl))⟩
  f25 := ⟨Tryz.f125.name, by decide, Tryz.func125.trans (congrArg some (by kernel_rfl))⟩
  f26 := ⟨Tryz.f126.name, by decide, Tryz.func126.trans (congrArg some (by kernel_rfl))⟩
  f27 := ⟨Tryz.f127.name, by decide, Tryz.func127.trans (congrArg some (by kernel_rfl))⟩
  f28 := Tryz.func128.trans (congrArg some (by kernel_rfl))
  f29 := Tryz.func129.trans (congrArg some (by kernel_rfl))
  f46 := ⟨Tryz.f152.name, by decide, Tryz.func152.trans (congrArg some (by kernel_rfl))⟩
  f47 := Tryz.func153.trans (congrArg some (by kernel_rfl))
  f48 := Tryz.func154.trans (congrArg some (by kernel_rfl))
  f49 := ⟨Tryz.f155.name, by decide, Tryz.func155.trans (congrArg some (by kernel_rfl))⟩
  f50 := ⟨Tryz.f156.name, by decide, Tryz.func156.trans (congrArg some (by kernel_rfl))⟩
  f57 := ⟨Tryz.f162.name, by decide, Tryz.func162.trans (congrArg some (by kernel_rfl))⟩
  t0 := Tryz.underlying0
  a0 := Tryz.isAgg0
  z0 := Tryz.sizeOf0
  v0 := Tryz.zeroValue0
  t3 := Tryz.underlying3
  a3 := Tryz.isAgg3
  z3 := Tryz.sizeOf3
  v3 := Tryz.zeroValue3
  t4 := Tryz.underlying4
  a4 := Tryz.isAgg4
  z4 := Tryz.sizeOf4
  v4 := Tryz.zeroValue4
  t5 := Tryz.underlying5
  a5 := Tryz.isAgg5
  z5 := Tryz.sizeOf5
  v5 := Tryz.zeroValue5
  t9 := Tryz.underlying9
  a9 := Tryz.isAgg9
  z9 := Tryz.sizeOf9
  v9 := Tryz.zeroValue9
  t22 := Tryz.underlying32
  a22 := Tryz.isAgg32
  z22 := Tryz.sizeOf32
  v22 := Tryz.zeroValue32
  t25 := Tryz.underlying128
  a25 := Tryz.isAgg128
  z25 := Tryz.sizeOf128
  v25 := Tryz.zeroValue128
  t39 := Tryz.underlying96
  a39 := Tryz.isAgg96
  z39 := Tryz.sizeOf96
  v39 := Tryz.zeroValue96
  t45 := Tryz.underlying187
  a45 := Tryz.isAgg187
  z45 := Tryz.sizeOf187
  v45 := Tryz.zeroValue187
  t46 := Tryz.underlying188
  a46 := Tryz.isAgg188
  z46 := Tryz.sizeOf188
  v46 := Tryz.zeroValue188
  t50 := Tryz.underlying151
  a50 := Tryz.isAgg151
  z50 := Tryz.sizeOf151
  v50 := Tryz.zeroValue151
  t53 := Tryz.underlying194
  a53 := Tryz.isAgg194
  z53 := Tryz.sizeOf194
  v53 := Tryz.zeroValue194
  t55 := Tryz.underlying23
  a55 := Tryz.isAgg23
  z55 := Tryz.sizeOf23
  v55 := Tryz.zeroValue23
  t66 := Tryz.underlying208
  a66 := Tryz.isAgg208
  z66 := Tryz.sizeOf208
  v66 := Tryz.zeroValue208
  t70 := Tryz.underlying212
  a70 := Tryz.isAgg212
  z70 := Tryz.sizeOf212
  v70 := Tryz.zeroValue212
  t76 := Tryz.underlying223
  a76 := Tryz.isAgg223
  z76 := Tryz.sizeOf223
  v76 := Tryz.zeroValue223
  t77 := Tryz.underlying167
  a77 := Tryz.isAgg167
  z77 := Tryz.sizeOf167
  v77 := Tryz.zeroValue167 }
theorem yG2 (w : World) {g cap : Nat} {cur : Array Value} {L : List Spn} (hb : w.heap[g]? = some (.cells cur 61 (0, 0))) (hx : cur.toList.take (L.length * 2) = encL L) (hf : L.length * 2 ≤ cur.size) (hl : L.length ≤ 140737488355328) :
    Calls Tryz.prog 60 #[.slice (some ⟨g, 0, none⟩) L.length cap, .func (.func 61) #[] #[]] w (Ret fun v w' => ∃ (M : List Spn) (cur' : Array Value), M.Perm L ∧ M.Pairwise (fun a b => a.1 ≤ b.1) ∧ w'.heap[g]? = some (.cells cur' 61 (0, 0)) ∧ cur'.size = cur.size ∧ cur'.toList.take (L.length * 2) = encL M ∧ Kp [g] w w') := by
  have eg : ∀ args w, (callFunc 61 args).run Tryz.prog w = .ok (.enter 61 args) w := enters_of Tryz.func61 (by kernel_rfl) rfl
  have hc : CmpLays Tryz.prog 61 #[] encS 2 cfS g 0 L.toArray.size w := fun m os dk hs x y => by
    refine (qX9 _ x.1 x.2 y.1 y.2).mono ?_
    rintro e w' ⟨v, rfl, rfl, q, os', hq⟩
    exact ⟨rfl, q, os', hq⟩
  have hH : Sort.HoldsK encS 2 w g 0 L.toArray := yG0 hb (by simpa using hx)
  have h := AnyQ.slices_SortFunc jA1 2 (fun w => by kernel_rfl) (fun w => by kernel_rfl) encS (fun _ => rfl) (fun x v hv => by simp [encS] at hv; rcases hv with rfl | rfl <;> rfl) cfS swoS 61 #[] g 0 cap L.toArray w eg hc hH (zC2 hb) (by simp; omega)
  change Calls Tryz.prog 60 _ _ _ at h
  refine Calls.mono h ?_
  rintro e w' ⟨rfl, d', n, os, hp, hs, rfl⟩
  have hsz : d'.size = L.length := by have := hp.1; simpa using this
  obtain ⟨cur', h1, h2, h3, h4⟩ := yG1 (n := n) (d := d') (os := os) hb (by omega)
  exact ⟨_, rfl, d'.toList, cur', by simpa using yX7 hp, yX8 hp.1 hs, h1, h2, by rw [← hsz]; exact h3, h4⟩
theorem qN6 (w : World) (p : Option Addr) (cap : Nat) (fv : Value) : Calls Tryz.prog 60 #[.slice p 0 cap, fv] w (Ret fun v w' => w' = w) := by
  have h := AnyF.slices_SortFunc_none { jA1 with } p cap fv w
  change Calls Tryz.prog 60 _ _ _ at h
  refine Calls.mono h ?_
  rintro e w' ⟨rfl, rfl⟩
  exact ⟨_, rfl, rfl⟩
theorem qY0 (w : World) {base c : Nat} {ad : Option Addr} {L : List Spn} (own : w.ownsRow base 61 2 (.slice ad L.length c) L.length (encL L)) (hbase : base ≤ w.heap.size) (hl : L.length ≤ 140737488355328) :
    Calls Tryz.prog 60 #[.slice ad L.length c, .func (.func 61) #[] #[]] w (Ret fun v w' => ∃ M : List Spn, M.Perm L ∧ M.Pairwise (fun a b => a.1 ≤ b.1) ∧ w'.ownsRow base 61 2 (.slice ad L.length c) L.length (encL M) ∧ Below base w w') := by
  rcases Nat.eq_zero_or_pos L.length with h0 | h0
  · have hn := List.eq_nil_of_length_eq_zero h0
    subst hn
    refine Calls.mono (qN6 w ad c _) ?_
    rintro e w' ⟨v, rfl, rfl⟩
    exact ⟨_, rfl, [], List.Perm.refl _, List.Pairwise.nil, own, Below.refl _ _⟩
  · obtain ⟨q, cap, cur, hv, hq, hgc, hn1, hn2, hcs, hct⟩ := qB9 own h0
    simp only [Value.slice.injEq, true_and] at hv
    obtain ⟨rfl, rfl⟩ := hv
    refine Calls.mono (yG2 w hgc hct (by omega) hl) ?_
    rintro e w' ⟨v, rfl, M, cur', hp, hs, hg', hz, hx, hk⟩
    exact ⟨_, rfl, M, hp, hs, ⟨by rw [zJ5, hp.length_eq], .inr ⟨q, c, cur', rfl, hq, hg', hn1, hn2, by rw [hz, hcs], hx⟩⟩, hk.below (fun x hx => by simp at hx; omega) hbase⟩
theorem qS2 (w : World) {b : Addr} {n c : Nat} {xs : List Value} (hc : n ≤ c) (hc2 : c ≤ maxLen) (R : RowAt w 2 (some b) n xs) (h1 : ∀ q ∈ xs, q.oneCell' = true) (hb : n ≤ 8796093022208) : Calls Tryz.prog 58 #[.slice (some b) n c] w (Ret fun v w' => w'.ownsRow w.heap.size 61 2 v n xs ∧ Grow w w') := by
 have G := Grow.rfl' w
 refine zB8 Tryz.func58 Tryz.ntmps58 Tryz.results58 rfl rfl ?_
 refine qZ 8 ?_
 refine stp (qZ7 rfl rfl ?_)
 refine zA6 ?_
 refine zQ4 rfl ?_
 refine qZ 3 ?_
 refine stp (zB5 (cs := #[]) (el := 61) (fun w => by kernel_rfl) ?_)
 intro bs_ w5_ hbs_ hcs_ g5_
 replace G := G.tr g5_
 clear g5_
 have own0 := yO7 (base := w.heap.size) (sz := 2) hcs_ (by have := G.size; omega)
 refine qZ 1 ?_
 refine stp (zF8 rfl rfl rfl rfl own0 ⟨_, c, rfl, hc, hc2, R.grow G⟩ h1 (by simp only [maxLen]; omega) (by omega) G.size ?_)
 intro v6 w6 own6 gr6
 have G6 := G.grown gr6 (zI3 own0)
 rw [Nat.zero_add, List.nil_append] at own6
 refine stp (zJ0 (v := v6) rfl ?_)
 refine qZ 2 ?_
 exact ret1 (zA1 rfl) ⟨own6, G6⟩
theorem qS3 (w : World) {c : Nat} : Calls Tryz.prog 58 #[.slice none 0 c] w (Ret fun v w' => v = .slice none 0 0 ∧ Grow w w') := by
 have G := Grow.rfl' w
 refine zB8 Tryz.func58 Tryz.ntmps58 Tryz.results58 rfl rfl ?_
 refine qZ 8 ?_
 refine stp (qZ7 rfl rfl ?_)
 refine zA6 ?_
 refine zY3 rfl ?_
 refine qZ 5 ?_
 refine ret1 (zA1 (v := .slice none 0 0) rfl) ⟨rfl, G⟩
theorem qS4 (w : World) {ad : Option Addr} {n c : Nat} {L : List Spn} (hc : n ≤ c) (hc2 : c ≤ maxLen) (R : RowAt w 2 ad n (encL L)) (hb : n ≤ 8796093022208) : Calls Tryz.prog 58 #[.slice ad n c] w (Ret fun v w' => w'.ownsRow w.heap.size 61 2 v n (encL L) ∧ Grow w w') := by
  cases ad with
  | some b => exact qS2 w hc hc2 R yQ9 hb
  | none =>
    have hn : n = 0 := by
      rcases Nat.eq_zero_or_pos n with h | h
      · exact h
      · obtain ⟨b, o, cs, T, fr, h1, _⟩ := R.at_ h; cases h1
    subst hn
    have hl := yB4 R
    have := List.eq_nil_of_length_eq_zero hl
    subst this
    refine Calls.mono (qS3 w) ?_
    rintro e w' ⟨v, rfl, rfl, G⟩
    exact ⟨_, rfl, World.ownsRow_nil _ _ _ _, G⟩
end Go.Proofs.YtkkbbhpbcfcplaaGreat.K
namespace Go.Proofs.YtkkbbhpbcfcplaaGreat.K
open Go Go.RowKit Go.Proofs
attribute [local irreducible] Run1 OpG WL W AO zB6
theorem qS5 (w : World) {base c : Nat} {ad : Option Addr} {L : List Spn} (own : w.ownsRow base 61 2 (.slice ad L.length c) L.length (encL L)) (hbase : base ≤ w.heap.size) (hl : L.length ≤ 8796093022208) : Calls Tryz.prog 57 #[.slice ad L.length c, .func (.func 59) #[] #[]] w (Ret fun v w' => w'.ownsRow base 61 2 v (L.filter keepS).length (encL (L.filter keepS)) ∧ Below base w w') := by
 refine zB8 Tryz.func57 Tryz.ntmps57 Tryz.results57 rfl rfl ?_
 have hB := Below.refl base w
 have hsz := hbase
 obtain ⟨ad', c', he, hc1, hc2, R⟩ := zH3 own (by omega)
 simp only [Value.slice.injEq, true_and] at he
 obtain ⟨rfl, rfl⟩ := he
 refine qZ 8 ?_
 refine stp (zA4 (v := .int .i64 (zR4 (fun i => zT2 (gS L i)) L.length 0)) rfl (qS1 _ R (fun i => zT2 (gS L i)) (fun i hi w' g' => by rw [yT2 R hi]; exact qL3 w' _ _)) ?_)
 intro w1 g2
 replace hB := Below.trans hB (Below.mono g2 hsz)
 replace hsz := Nat.le_trans hsz g2.size
 replace own := zB7 own g2
 clear g2
 refine qZ 6 ?_
 refine stp (zD5 rfl rfl ?_)
 refine zA6 ?_
 rcases yR9 (fun i => zT2 (gS L i)) L.length with ⟨hfi, hno⟩ | ⟨i, hi, hfi, hpi, hno⟩
 ·
  refine zY3 (show _ = Value.bool true from congrArg Value.bool (by rw [hfi]; rfl)) ?_
  refine qZ 6 ?_
  have hfl : L.filter keepS = L := List.filter_eq_self.2 fun s hs => by
   obtain ⟨j, hj, rfl⟩ := List.getElem_of_mem hs
   have := hno j hj
   rw [qE1 hj] at this
   simp [keepS, this]
  rw [hfl]
  refine ret1 (zA1 (v := .slice ad L.length c) rfl) ⟨own, hB⟩
 ·
  refine zQ4 (show _ = Value.bool false from congrArg Value.bool (by rw [hfi]; exact decide_eq_false (by omega))) ?_
  obtain ⟨q, cap, cur, hv, hq, hgc, hn1, hn2, hcs, hct⟩ := qB9 own (by omega)
  simp only [Value.slice.injEq, true_and] at hv
  obtain ⟨rfl, rfl⟩ := hv
  clear own R
  have D0 := DelSt.start hcs hn1 hct hi hpi hno
  refine qZ 5 ?_
  refine stp (zB9 rfl rfl ?_ ?_); constructor <;> omega
  refine qZ 3 ?_
  refine zF4 (fun m_ e_ w_ => ∃ (j : Nat) (K : List Spn) (cur' : Array Value), m_ = L.length - j ∧ Fr [(0, .slice (some ⟨q, 0, none⟩) L.length c), (1, .func (.func 59) #[] #[]), (4, .slice none 0 0), (6, .int .i64 (j : Int)), (5, .int .i64 (K.length : Int))] e_ ∧ (DelSt L c j K cur') ∧ (Below base w w_) ∧ (base ≤ w_.heap.size) ∧ (w_.heap[q]? = some (.cells cur' 61 (0, 0)))) _ ⟨i + 1, L.take i, cur, rfl, zD3 ⟨rfl, rfl, rfl, congrArg (Value.int .i64) (by rw [hfi]; omega), congrArg (Value.int .i64) (by rw [hfi, List.length_take]; omega), trivial⟩, D0, hB, hsz, hgc⟩ ?_
  clear hB hsz hgc
  rintro m_ e_ w3 ⟨j, K, cur', rfl, ⟨e4, rfl⟩, D, hB, hsz, hgc⟩
  refine qZ 6 ?_
  refine stp (zG5 rfl rfl ?_)
  refine zA6 ?_
  refine zA2 (b := (decide ((j : Int) < (L.length : Int)))) rfl (fun hlt => ?_) (fun hlt => ?_)
  ·
   replace hlt := qT hlt
   have hj : j < L.length := by omega
   have RC := D.row hgc (by omega)
   have hld := D.load hj
   have hlt1 := D.lt
   refine qZ 7 ?_
   refine stp (zF1 RC rfl rfl ?_ ?_); omega
   refine stp (zN8 RC rfl (by decide) (by rw [RC.len]; omega) hld ?_)
   refine stp (zA8 ?_)
   intro b5 w6 hb7 hc8 g9
   refine stn (qS hc8 ?_)
   intro w10 hc11 u12
   have g13 := g9.upd u12 hb7
   replace hB := Below.trans hB (Below.mono g13 hsz)
   replace hsz := Nat.le_trans hsz g13.size
   replace hgc := g13.heap hgc
   replace RC := RC.grow g13
   clear u12 g9 hb7 hc8
   refine qZ 5 ?_
   refine stp (zA4 (v := .bool (zT2 (gS L j))) rfl (qL3 _ _ _) ?_)
   intro w14 g15
   replace hB := Below.trans hB (Below.mono g15 hsz)
   replace hsz := Nat.le_trans hsz g15.size
   replace hgc := g15.heap hgc
   replace RC := RC.grow g15
   replace hc11 := g15.heap hc11
   clear g15
   refine stp (zQ6 rfl ?_)
   refine zA6 ?_
   refine zA2 (b := (!(zT2 (gS L j)))) rfl (fun hk => ?_) (fun hk => ?_)
   ·
    simp only [sb] at hk
    have hkp : zT2 (gS L j) = false := by simpa using hk
    refine qZ 5 ?_
    refine stp (zH8 (b := q) (o := 0) (i := (K.length : Int)) rfl rfl ?_ ?_ ?_); omega; omega
    refine stn (zW9 (b := q) (o := 0 + K.length * 2) (n := 2) rfl rfl rfl hgc rfl (Nat.ble_eq_true_of_le (by have := D.sz; have := D.cap; omega)) rfl rfl ?_)
    intro w16 hgc2 u2
    replace hB := Below.trans hB (u2.below hq)
    replace hsz : base ≤ w16.heap.size := by rw [u2.size]; exact hsz
    clear RC
    refine qZ 3 ?_
    refine stp (zB9 rfl rfl ?_ ?_); constructor <;> omega
    refine qZ 4 ?_
    refine stp (zB9 rfl rfl ?_ ?_); constructor <;> omega
    refine qZ 2 ?_
    refine ⟨_, ?_, j + 1, K ++ [gS L j], _, rfl, zD3 ⟨rfl, rfl, rfl, rfl, by simp; rfl, trivial⟩, D.put hj hkp, hB, hsz, hgc2⟩
    omega
   ·
    simp only [sb] at hk
    have hkp : zT2 (gS L j) = true := by simpa using hk
    refine qZ 3 ?_
    refine stp (zB9 rfl rfl ?_ ?_); constructor <;> omega
    refine qZ 2 ?_
    refine ⟨_, ?_, j + 1, K, cur', rfl, zD3 ⟨rfl, rfl, rfl, rfl, rfl, trivial⟩, D.skip hj hkp, hB, hsz, hgc⟩
    omega
  ·
   replace hlt := qF hlt
   have hj9 : j = L.length := by have := D.hj; omega
   have hlt1 := D.lt
   have hK9 : K = L.filter keepS := by rw [D.hK, hj9, List.take_length]
   refine qZ 5 ?_
   refine stp (qZ5 rfl rfl ?_ ?_ ?_); omega; omega
   refine stn (yX6 (b := q) (o := K.length * 2) (T := 61) (sz := 2) (z := .agg #[.int .i64 0, .int .i64 0]) (n := L.length - (K.length : Int).toNat) rfl rfl rfl ?_ hgc ?_ rfl ?_ ?_)
   ·intro _
    rw [if_neg (by omega), Int.toNat_natCast]
    simp [add_lit]
   ·rw [Int.toNat_natCast]; have := D.sz; have := D.cap; omega
   ·intro q_ hq_
    have hq2_ : q_ = .int .i64 0 := by simpa [Value.cells] using hq_
    rw [hq2_]; rfl
   intro w17 cs9 hgc9 hs9 ht9 u9
   replace hB := Below.trans hB (u9.below hq)
   refine qZ 5 ?_
   refine stp (qE6 rfl rfl ?_ ?_ ?_); omega; omega
   refine qZ 3 ?_
   have hsl : (Value.slice (if c = 0 then some ⟨q, 0, none⟩ else (some (⟨q, 0, none⟩ : Addr)).map (·.add (0 * 2))) (K.length : Int).toNat c) = .slice (some ⟨q, 0, none⟩) K.length c := by rw [if_neg (by omega), Int.toNat_natCast]; simp [add_lit]
   rw [← hK9]
   refine ret1 (zA1 (v := .slice (if c = 0 then some ⟨q, 0, none⟩ else (some (⟨q, 0, none⟩ : Addr)).map (·.add (0 * 2))) (K.length : Int).toNat c) rfl) ⟨by rw [hsl]; exact ⟨zJ5 _, .inr ⟨q, c, cs9, rfl, hq, hgc9, by omega, hn2, by rw [hs9, D.sz], by rw [ht9, D.hd]⟩⟩, hB⟩
end Go.Proofs.YtkkbbhpbcfcplaaGreat.K
namespace Go.Proofs.YtkkbbhpbcfcplaaGreat.K
open Go Go.RowKit
def nrm4 (L : List Spn) : List Spn := qX0 ((L.filter keepS).mergeSort fun a b => decide (a.1 ≤ b.1))
theorem yN4 (L : List Spn) : NormOf L (nrm4 L) := by
  refine yM7 (List.mergeSort_perm _ _) ?_
  have := List.pairwise_mergeSort (le := fun a b : Spn => decide (a.1 ≤ b.1)) (fun a b c h1 h2 => by simp only [decide_eq_true_eq] at *; omega) (fun a b => by simp only [Bool.or_eq_true, decide_eq_true_eq]; omega) (L.filter keepS)
  exact this.imp fun h => by simpa using h
theorem NormOf.eq {L N : List Spn} (h : NormOf L N) : N = nrm4 L := h.same (yN4 L) fun _ => Iff.rfl
def hls (L : List Spn) (s : Spn) : List Spn := yT1 (nrm4 L) s.1 s.2
/-! ### right? -/
/-! ### the document's answers -/
/-! ### what is kept while a row grows behind a box -/
end Go.Proofs.YtkkbbhpbcfcplaaGreat.K
namespace Go.Proofs.YtkkbbhpbcfcplaaGreat.K
open Go Go.RowKit Go.Proofs
attribute [local irreducible] Run1 OpG WL W AO zB6
theorem yG3 (w : World) {ad : Option Addr} {c n : Nat} {L : List Spn} (hc : n ≤ c) (hc2 : c ≤ maxLen) (R : RowAt w 2 ad n (encL L)) (hb : n ≤ 8796093022208) : Calls Tryz.prog 33 #[.slice ad n c] w (Ret fun v w' => w'.ownsRow w.heap.size 61 2 v (nrm4 L).length (encL (nrm4 L)) ∧ Grow w w') := by
 refine zB8 Tryz.func33 Tryz.ntmps33 Tryz.results33 rfl rfl ?_
 have hLn := yB4 R
 refine qZ 7 ?_
 refine stp ?_
 refine zD2 rfl (qS4 w hc hc2 R hb) ?_
 rintro v1 w1 ⟨own1, G1⟩
 obtain ⟨ad1, n1, c1, rfl⟩ := zD6 own1
 have hn1 := qA8 own1
 rw [← hLn] at hn1 own1
 subst hn1
 refine stp ?_
 refine zD2 rfl (qS5 w1 own1 G1.size (by omega)) ?_
 rintro v2 w2 ⟨own2, B2⟩
 obtain ⟨ad2, n2, c2, rfl⟩ := zD6 own2
 have hn2 := qA8 own2
 subst hn2
 have G2 : Grow w w2 := Below.trans G1 B2
 refine qZ 5 ?_
 refine stp ?_
 have hfl : (L.filter keepS).length ≤ L.length := List.length_filter_le _ _
 refine zD2 rfl (qY0 w2 own2 G2.size (by omega)) ?_
 rintro v3 w3 ⟨M, hperm, hpair, own3, B3⟩
 have G3 : Grow w w3 := Below.trans G2 B3
 have hML := hperm.length_eq
 obtain ⟨ad3, c3, he3, -, -, R3⟩ := zH3 own3 (by omega)
 simp only [Value.slice.injEq, true_and] at he3
 obtain ⟨rfl, rfl⟩ := he3
 have G0 := Grow.rfl' w3
 have ownO : w3.ownsRow w3.heap.size 61 2 (.slice none 0 0) 0 (encL ([] : List Spn).reverse) := World.ownsRow_nil _ _ _ _
 refine qZ 13 ?_
 refine zF4 (fun m_ e_ w_ => ∃ (k : Nat) (ado : Option Addr) (co : Nat), m_ = (L.filter keepS).length - k ∧ Fr [(2, .slice none 0 0), (14, .slice ad2 ((L.filter keepS).length) c2), (15, .int .i64 ((L.filter keepS).length : Int)), (16, .int .i64 (k : Int)), (4, .slice ado ((normO M k).length) co)] e_ ∧ (k ≤ (L.filter keepS).length) ∧ (Grow w3 w_) ∧ (w_.ownsRow w3.heap.size 61 2 (.slice ado (normO M k).length co) (normO M k).length (encL (normO M k).reverse))) _ ⟨0, _, _, rfl, zD3 ⟨rfl, rfl, rfl, rfl, rfl, trivial⟩, by omega, G0, ownO⟩ ?_
 clear G0 ownO
 rintro m_ e_ w1 ⟨k, ado, co, rfl, ⟨e2, rfl⟩, hk, G0, ownO⟩
 refine qZ 2 ?_
 refine stp (zG5 rfl rfl ?_)
 refine qZ 2 ?_
 refine zA2 (b := (decide ((k : Int) < ((L.filter keepS).length : Int)))) rfl (fun hlt => ?_) (fun hlt => ?_)
 ·
  replace hlt := qT hlt
  have hkM : k < M.length := by omega
  have hlen := qI1 (M.take k) []
  rw [List.length_take] at hlen
  have hln : (normO M k).length ≤ k := by unfold normO; simp only [List.length_nil] at hlen; omega
  obtain ⟨ado', co', heo, -, -, RO⟩ := zH3 ownO (by omega)
  simp only [Value.slice.injEq, true_and] at heo
  obtain ⟨rfl, rfl⟩ := heo
  refine qZ 5 ?_
  refine stp (zF1 (R3.grow G0) rfl rfl ?_ ?_); omega
  refine stp (zN8 (R3.grow G0) rfl (by decide) (by rw [R3.len]; omega) (yT2 R3 (by omega)) ?_)
  refine stp (zA8 ?_)
  intro b3 w4 hb5 hc6 g7
  refine stn (qS hc6 ?_)
  intro w8 hc9 u10
  have g11 := g7.upd u10 hb5
  replace G0 := G0.tr g11
  replace ownO := zB7 ownO g11
  replace RO := RO.grow g11
  clear u10 g7 hb5 hc6
  refine qZ 9 ?_
  refine zO5 13 [[], [0], [1, 0], [2, 1, 0], [3, 2, 1, 0], [4, 3, 2], [5, 4, 3], [6, 5, 4, 0], [7, 6, 5, 2, 1, 0], [8, 7, 6, 3, 2, 1, 0], [9, 8, 7, 4, 3, 2, 1, 0], [10, 9, 8, 7, 6, 5, 4, 3, 2, 1, 0], [11, 10, 9, 8, 7, 6, 5, 4, 3, 2, 1, 0]] mixed (by kernel_rfl) (by kernel_rfl) (by kernel_rfl) ?_
  intro w12 g13
  replace G0 := G0.tr g13
  replace ownO := zB7 ownO g13
  replace RO := RO.grow g13
  replace hc9 := g13.heap hc9
  clear g13
  refine qA 1 ?_
  apply zC3
  ·intro w_ g_; exact og rfl (zQ5 rfl rfl qX)
  refine qA 1 ?_
  apply zC3
  ·intro w_ g_; 
   refine zB3 (s := .bool _) (v := .pointer (some ⟨b3, 0, none⟩)) rfl (zF0 _) (fun hc14 => ?_) ?_
   ·
    have hc14_ := qT hc14
    refine zE0 rfl ?_
    exact ⟨rfl, rfl⟩
   exact qX
  apply zC3
  ·intro w_ g_; 
   refine zB3 (s := .bool _) (v := .int .i64 ((gS M k).1)) rfl (zF0 _) (fun hc15 => ?_) ?_
   ·
    have hc15_ := qT hc15
    refine zG3 (v := .int .i64 ((gS M k).1)) (gvt hc15) (g_.heap hc9) rfl ?_
    exact ⟨rfl, rfl⟩
   exact qX
  apply zC3
  ·intro w_ g_; 
   refine zB3 (s := .bool _) (v := .slice ado ((normO M k).length) co) rfl (zF0 _) (fun hc16 => ?_) ?_
   ·
    have hc16_ := qT hc16
    refine zI7 rfl ?_
    exact ⟨rfl, rfl⟩
   exact qX
  apply zC3
  ·intro w_ g_; 
   refine zB3 (s := .bool _) (v := .int .i64 ((normO M k).length : Int)) rfl (zF0 _) (fun hc17 => ?_) ?_
   ·
    have hc17_ := qT hc17
    refine zE3 rfl ?_
    exact ⟨rfl, rfl⟩
   exact qX
  apply zC3
  ·intro w_ g_; 
   refine zB3 (s := .bool _) (v := .int .i64 (((normO M k).length : Int) - 1)) rfl (zF0 _) (fun hc18 => ?_) ?_
   ·
    have hc18_ := qT hc18
    refine zO6 (gvt hc18) rfl ?_ ?_; constructor <;> omega
    exact ⟨rfl, rfl⟩
   exact qX
  apply zC3
  ·intro w_ g_; 
   refine zB3 (s := .bool _) (v := .pointer (some (eadr ado ((((normO M k).length : Int) - 1).toNat * 2)))) rfl (zF0 _) (fun hc19 => ?_) ?_
   ·
    have hc19_ := qT hc19
    refine zH1 (RO.grow g_) (gvt hc19) (gvt hc19) ?_ ?_ ?_; omega; omega
    exact ⟨rfl, rfl⟩
   exact qX
  apply zC3
  ·intro w_ g_; 
   refine zB3 (s := .bool _) (v := .pointer (some (eadr ado ((((normO M k).length : Int) - 1).toNat * 2 + 1)))) rfl (zF0 _) (fun hc20 => ?_) ?_
   ·
    have hc20_ := qT hc20
    refine qL9 (gvt hc20) ?_
    exact ⟨rfl, rfl⟩
   exact qX
  apply zC3
  ·intro w_ g_; 
   refine zB3 (s := .bool _) (v := .int .i64 ((hdS (normO M k)).2)) rfl (zF0 _) (fun hc21 => ?_) ?_
   ·
    have hc21_ := qT hc21
    refine zE8 (v := .int .i64 ((hdS (normO M k)).2)) (m := 0) (RO.grow g_) (gvt hc21) (yB7 (by omega) 1 (by omega)) ?_
    exact ⟨rfl, rfl⟩
   exact qX
  apply zC3
  ·intro w_ g_; 
   refine zB3 (s := .bool _) (v := .bool (decide (((gS M k).1) ≤ ((hdS (normO M k)).2)))) rfl (zF0 _) (fun hc22 => ?_) ?_
   ·
    have hc22_ := qT hc22
    refine zW8 (gvt hc22) (gvt hc22) ?_
    exact ⟨rfl, rfl⟩
   exact qX
  apply zC3
  ·intro w_ g_; exact og rfl (zH4 rfl rfl rfl qX)
  refine zI6 ?_
  intro w23 g24
  replace G0 := G0.tr g24
  replace ownO := zB7 ownO g24
  replace RO := RO.grow g24
  replace hc9 := g24.heap hc9
  clear g24
  refine zA6 ?_
  refine zA2 (b := ((decide (((normO M k).length : Int) > 0)) && (decide (((gS M k).1) ≤ ((hdS (normO M k)).2))))) rfl (fun hj => ?_) (fun hj => ?_)
  ·
   simp only [sb] at hj
   have hpos : 0 < (normO M k).length := by omega
   have hle : (gS M k).1 ≤ (hdS (normO M k)).2 := hj.2
   obtain ⟨q, cap, cur, hv, hq, hgc, hn1, hn2, hcs, hct⟩ := qB9 ownO hpos
   simp only [Value.slice.injEq, true_and] at hv
   obtain ⟨rfl, rfl⟩ := hv
   have hjl : (normO M (k + 1)).length = (normO M k).length := by rw [show normO M (k + 1) = zN3 (normO M k) (gS M k) from qC8 hkM, yB8 hpos hle]; simp; omega
   refine qZ 4 ?_
   refine stp (zO6 rfl rfl ?_ ?_); constructor <;> omega
   refine stp (zH1 RO rfl rfl ?_ ?_ ?_); omega; omega
   refine qZ 3 ?_
   refine zO5 10 [[], [], [0], [1, 0], [2, 1, 0], [], [0], [5, 4, 3, 2, 1, 0], [7, 6, 5, 4, 3, 2, 1, 0], [8, 7, 6, 5, 4, 3, 2, 1, 0]] mixed (by kernel_rfl) (by kernel_rfl) (by kernel_rfl) ?_
   intro w25 g26
   replace G0 := G0.tr g26
   replace ownO := zB7 ownO g26
   replace RO := RO.grow g26
   replace hc9 := g26.heap hc9
   replace hgc := g26.heap hgc
   clear g26
   refine qA 3 ?_
   apply zC3
   ·intro w_ g_; exact og rfl (qL9 rfl qX)
   apply zC3
   ·intro w_ g_; exact og rfl (zE8 (v := .int .i64 ((hdS (normO M k)).2)) (m := 0) (RO.grow g_) rfl (yB7 (by omega) 1 (by omega)) qX)
   refine qA 2 ?_
   apply zC3
   ·intro w_ g_; exact og rfl (qO2 rfl rfl rfl qX)
   refine qA 1 ?_
   apply zC3
   ·intro w_ g_; exact og rfl (qL9 rfl qX)
   refine zI6 ?_
   intro w27 g28
   replace G0 := G0.tr g28
   replace ownO := zB7 ownO g28
   replace RO := RO.grow g28
   replace hc9 := g28.heap hc9
   replace hgc := g28.heap hgc
   clear g28
   refine stn (zW9 (b := q) (o := 0 + (((normO M k).length : Int) - 1).toNat * 2 + 1) (n := 1) (v := .int .i64 (max (hdS (normO M k)).2 (gS M k).2)) rfl (congrArg (Value.int .i64) (by simp only [Int.max_def]; split <;> split <;> omega)) rfl hgc rfl (Nat.ble_eq_true_of_le (by omega)) rfl rfl ?_)
   intro w29 hgc2 u2
   have own9 := yS1 ownO hpos hgc hgc2
   rw [← yB8 hpos hle, show zN3 (normO M k) (gS M k) = normO M (k + 1) from (qC8 hkM).symm] at own9
   have G9 := G0.upd u2 hq
   refine qZ 3 ?_
   refine stp (zB9 rfl rfl ?_ ?_); constructor <;> omega
   refine qZ 2 ?_
   rw [← hjl] at own9
   refine ⟨_, ?_, k + 1, _, _, rfl, zD3 ⟨rfl, rfl, rfl, congrArg (Value.int .i64) (by omega), by rw [hjl]; rfl, trivial⟩, by omega, G9, own9⟩
   omega
  ·
   simp only [sb] at hj
   have hnj : ¬ (0 < (normO M k).length ∧ (gS M k).1 ≤ (hdS (normO M k)).2) := by rintro ⟨h1, h2⟩; rcases hj with hj | hj <;> omega
   refine qZ 4 ?_
   refine stp (zB5 (cs := #[.int .i64 ((gS M k).1), .int .i64 ((gS M k).2)]) (el := 61) (fun w => by kernel_rfl) ?_)
   intro bs30 w31 hb32 hc33 g34
   replace G0 := G0.tr g34
   replace ownO := zB7 ownO g34
   replace RO := RO.grow g34
   replace hc9 := g34.heap hc9
   clear g34
   refine stp (zF8 rfl rfl rfl rfl ownO (Row.of_block (n := 1) hc33 rfl rfl (by omega)) (fun q_ hq_ => by simp at hq_; rcases hq_ with rfl | rfl <;> rfl) (by simp only [maxLen]; omega) (by omega) G0.size ?_)
   intro v9 w9 own9 gr9
   have G9 := G0.grown gr9 (zI3 ownO)
   replace own9 := yS2 own9
   rw [← yN2 hnj, show zN3 (normO M k) (gS M k) = normO M (k + 1) from (qC8 hkM).symm] at own9
   obtain ⟨ad9, n9, c9, rfl⟩ := zD6 own9
   have hn9 := qA8 own9
   subst hn9
   refine qZ 3 ?_
   refine stp (zB9 rfl rfl ?_ ?_); constructor <;> omega
   refine qZ 2 ?_
   refine ⟨_, ?_, k + 1, _, _, rfl, zD3 ⟨rfl, rfl, rfl, congrArg (Value.int .i64) (by omega), rfl, trivial⟩, by omega, G9, own9⟩
   omega
 ·
  replace hlt := qF hlt
  have hk9 : k = M.length := by omega
  have hO : normO M k = yM5 M := by unfold normO yM5; rw [hk9, List.take_length]
  have hlen := qI1 M []
  refine qZ 7 ?_
  rw [hO] at ownO
  refine ret1 (zA1 (v := .slice ado ((normO M k).length) co) rfl) ⟨?_, Below.trans G3 (Below.mono G0 G3.size)⟩
  rw [← (yM7 hperm hpair).eq]
  unfold qX0
  rw [List.length_reverse, hO]
  exact qE7 ownO G3.size
theorem yX9 (L : List Spn) : nrm4 L = nrm L := (yN4 L).same (yZ6 L) (fun _ => Iff.rfl)
theorem qJ0 (w : World) {u : Value} {A : List (List Int)} (hA : zF3 w u A) (hr : zD9 A = true) (hx : AllU A) {ad : Option Addr} {c : Nat} {ks : List Int} {a : Int} (R : RowAt w 1 ad ks.length (ks.map (.int .i64))) (ha : inR .i64 a) : Calls Tryz.prog 12 #[u, .agg #[.slice ad ks.length c, .int .i64 a]] w (Ret fun v w' => ∃ adn n cn, v = .tuple #[.slice adn n cn, .int .u16 (zJ6 (zB1 A) ks a 8192).2] ∧ ((zJ6 (zB1 A) ks a 8192).2 = 0 → n = (nrm (zW3 A ks a)).length ∧ n ≤ cn ∧ cn ≤ maxLen ∧ RowAt w' 2 adn (nrm (zW3 A ks a)).length (encL (nrm (zW3 A ks a)))) ∧ ((zJ6 (zB1 A) ks a 8192).2 ≠ 0 → n = 0) ∧ Grow w w') := by
 obtain ⟨hlen16, -⟩ := zO2 hr
 have G := Grow.rfl' w
 refine zB8 Tryz.func12 Tryz.ntmps12 Tryz.results12 rfl rfl ?_
 refine qZ 2 ?_
 refine stp ?_
 refine qC ?_
 intro b1 w2 hb3 hc4 g5
 have hge6 := Nat.le_trans G.size hb3
 replace G := G.tr g5
 clear g5 hb3
 refine qZ 6 ?_
 refine stp (zG8 (v := u) rfl ?_)
 refine stp (zA4 (v := .bool true) rfl (zJ1 (qD9 _ (hA.grow G) (by omega)) (y := .bool true) (by rw [hr])) ?_)
 intro w7 g8
 replace hc4 := g8.heap hc4
 replace G := G.tr g8
 clear g8
 refine stp (yU6 rfl rfl ?_)
 refine zA6 ?_
 refine zQ4 rfl ?_
 refine qZ 3 ?_
 refine stp (zG8 (v := u) rfl ?_)
 refine stp (zA4 (v := .iface 110 (.agg #[u])) rfl (by obtain ⟨adu_, nu_, cu_, rfl⟩ := hA.slice; exact qH6 _) ?_)
 intro w9 g10
 replace hc4 := g10.heap hc4
 replace G := G.tr g10
 clear g10
 refine stp (zB0 (v := .agg #[.iface 110 (.agg #[u]), .slice none 0 0]) (fun w => by kernel_rfl) ?_)
 refine stp ?_
 refine qC ?_
 intro b11 w12 hb13 hc14 g15
 have hge16 := Nat.le_trans G.size hb13
 replace hc4 := g15.heap hc4
 replace G := G.tr g15
 clear g15 hb13
 refine qZ 2 ?_
 have hbn : w.heap.size ≤ b11 := hge16
 have st0 : NtS 110 79 61 w.heap.size w12 u b11 [] := ⟨none, 0, hc14, World.ownsRow_nil _ _ _ _⟩
 refine qZ 4 ?_
 refine stp (qG2 (v := .pointer (some ⟨b11, 0, none⟩)) rfl ?_)
 refine qZ 1 ?_
 refine stp ?_
 refine zD2 rfl (qX7 _ hA hr hx rfl G hbn st0 (L := []) (by simp) R ha (by simp [inR])) ?_
 rintro v_ w17 ⟨rfl, L2, he2, st2, rel_⟩
 replace hc4 := rel_.hpN st0 hc4 (by decide) (by decide)
 replace G := NkP.to_grow rel_ G (fun x_ hx_ => by simp only [List.mem_singleton] at hx_; subst hx_; exact hbn) (Nat.le_refl _)
 clear rel_ st0 hc14
 obtain ⟨ad1, c1, hcn1, own1⟩ := st2
 refine qZ 3 ?_
 refine stp (zA8 ?_)
 intro b18 w19 hb20 hc21 g22
 refine stn (qS hc21 ?_)
 intro w23 hc24 u25
 have g26 := g22.upd u25 hb20
 have hge27 := Nat.le_trans G.size hb20
 have ne28 := qN hc4 hb20
 have ne29 := qN hcn1 hb20
 replace hc4 := g26.heap hc4
 replace hcn1 := g26.heap hcn1
 replace own1 := zB7 own1 g26
 replace G := G.tr g26
 clear u25 g22 hb20 hc21
 refine qZ 5 ?_
 refine stp (zI1 rfl rfl ?_)
 refine zA6 ?_
 refine zA2 (b := (decide (((zJ6 (zB1 A) ks a 8192).2) ≠ 0))) rfl (fun h1 => ?_) (fun h1 => ?_)
 ·
  replace h1 := qT h1
  refine qZ 7 ?_
  refine ret2 (zA1 (v := .slice none 0 0) rfl) (zA1 (v := .int .u16 ((zJ6 (zB1 A) ks a 8192).2)) rfl) ⟨none, 0, 0, rfl, fun h_ => absurd h_ (by omega), fun _ => rfl, G⟩
 ·
  replace h1 := qF h1
  have hz0 : (zJ6 (zB1 A) ks a 8192).2 = 0 := by omega
  have h9 := he2 hz0
  have h8 : L2 = (zW3 A ks a) := h9
  have h7 := (yM8 hr ks a).2
  obtain ⟨hnn, hk32, -⟩ := jB1 hz0
  rw [← h8] at h7
  obtain ⟨_, _, hs9, hq1, hm1, R1⟩ := zH3 own1 (by omega)
  cases hs9
  clear own1
  refine qZ 7 ?_
  refine stp ?_
  have hcal := yG3 _ hq1 hm1 R1 (by omega)
  rw [yX9] at hcal
  refine zD2 rfl hcal ?_
  rintro v_ w30 ⟨ownN, g_⟩
  clear hcal
  rw [h8] at ownN
  replace hc4 := g_.heap hc4
  replace hcn1 := g_.heap hcn1
  replace hc24 := g_.heap hc24
  replace R1 := R1.grow g_
  replace G := G.tr g_
  clear g_
  have hnl := yW7 (zW3 A ks a)
  obtain ⟨adn, n9, cn, rfl⟩ := zD6 ownN
  have hn9 := qA8 ownN
  subst hn9
  obtain ⟨_, _, hs9, hq2, hm2, R2⟩ := zH3 ownN (by rw [h8] at h7; omega)
  cases hs9
  refine qZ 4 ?_
  refine ret2 (zA1 (v := .slice adn ((nrm (zW3 A ks a)).length) cn) rfl) (zA1 (v := .int .u16 0) rfl) ⟨adn, _, cn, by rw [hz0], fun _ => ⟨rfl, hq2, hm2, R2⟩, fun h_ => absurd hz0 h_, G⟩
theorem zO0 (w : World)  : zB6 Tryz.prog 9 #[] w (.bool true) := by
 have G := Grow.rfl' w
 refine zA7 Tryz.func9 Tryz.ntmps9 Tryz.results9 rfl rfl ?_
 refine qZ 6 ?_
 refine stp (zB5 (cs := #[.int .u64 7]) (el := 23) (fun w => by kernel_rfl) ?_)
 intro bs1 w2 hb3 hc4 g5
 have hge6 := Nat.le_trans G.size hb3
 replace G := G.tr g5
 clear g5
 refine stp (zB0 (v := .agg #[.int .i64 1, .int .i64 0, .slice (some ⟨bs1, 0, none⟩) 1 1, .slice none 0 0, .slice none 0 0]) (fun w => by kernel_rfl) ?_)
 refine stp ?_
 have hT : NodeR w2 [.int .i64 1, .int .i64 0, .slice (some ⟨bs1, 0, none⟩) 1 1, .slice none 0 0, .slice none 0 0] qH7 := .mk (by simp [inR]) (by simp [inR]) (Row.of_block (n := 1) hc4 rfl rfl (by decide)) (by simp [inR]) (Row.nil _ _) (by simp) (Row.nil _ _) .nil
 refine zD2 rfl (qD6 _ hT 9) ?_
 rw [show qH7.build 9 = (zR5, 0) from qP5]
 rintro v_ w7 ⟨so_, segs_, rfl, hO_, g_⟩
 replace hc4 := g_.heap hc4
 replace G := G.tr g_
 clear g_
 have hA : zF3 w7 so_ zR5 := hO_.arena (by decide) (by decide)
 obtain ⟨ad1, n1, c1, rfl⟩ := zD6 hO_.out
 clear hO_
 refine qZ 9 ?_
 refine stp (zB0 (v := .agg #[.slice none 0 0, .int .i64 0]) (fun w => by kernel_rfl) ?_)
 refine stp ?_
 refine zD2 rfl (qJ0 _ hA qR7 qF4 (ks := []) (a := 0) (RowAt.empty _ _ _) (by simp [inR])) ?_
 rintro v_ w8 ⟨adt, nt, ct, rfl, ht_, -, g_⟩
 obtain ⟨hnt, -, -, Rt⟩ := ht_ qH9
 rw [qR6] at hnt Rt
 replace Rt : RowAt w8 2 adt 1 [.int .i64 0, .int .i64 2] := Rt
 replace hnt : nt = 1 := hnt
 subst hnt
 rw [qH9]
 replace hc4 := g_.heap hc4
 replace hA := hA.grow g_
 replace G := G.tr g_
 clear g_
 refine qZ 9 ?_
 refine stp (zM0 rfl rfl (by first | decide | rfl) ?_)
 refine qZ 3 ?_
 refine stp (zM0 rfl rfl (by first | decide | rfl) ?_)
 refine stp (zG4 (v := .bool true) rfl rfl rfl ?_)
 refine qZ 2 ?_
 refine stp (zH1 Rt rfl rfl ?_ ?_ ?_); omega; omega
 refine stp (zN8 Rt rfl (by decide) (by decide) (by rfl) ?_)
 refine stp (zB0 (v := .agg #[.int .i64 0, .int .i64 2]) (fun w => by kernel_rfl) ?_)
 refine stp (r_eqlS' (r' := true) rfl rfl (by rfl) (by decide) ?_)
 refine stp (zG4 (v := .bool true) rfl rfl rfl ?_)
 refine qZ 2 ?_
 refine stp (zA4 (v := .int .u16 0) rfl (zJ1 (zI9 _ hA (by decide) qF4) (y := .int .u16 0) (by rw [qH8])) ?_)
 intro w9 g10
 replace hc4 := g10.heap hc4
 replace hA := hA.grow g10
 replace Rt := Rt.grow g10
 replace G := G.tr g10
 clear g10
 refine stp (zM0 rfl rfl (by first | decide | rfl) ?_)
 refine stp (zG4 (v := .bool true) rfl rfl rfl ?_)
 refine qZ 1 ?_
 refine stp (zA4 (v := .int .u16 1) rfl (zJ1 (zI9 _ (A := []) ⟨[], ⟨none, 0, rfl, by simp, by simp [maxLen], RowAt.empty _ _ _⟩, fun i s h => by simp at h⟩ (by decide) (by simp)) (y := .int .u16 1) (by rw [yR6])) ?_)
 intro w11 g12
 replace hc4 := g12.heap hc4
 replace hA := hA.grow g12
 replace Rt := Rt.grow g12
 replace G := G.tr g12
 clear g12
 refine stp (zM0 rfl rfl (by first | decide | rfl) ?_)
 refine stp (zG4 (v := .bool true) rfl rfl rfl ?_)
 refine qZ 3 ?_
 refine stp (zA4 (v := .bool true) rfl (zJ1 (qX3 _ hA (by decide) qF4 hA (by decide) qF4) (y := .bool true) (by rw [yF6])) ?_)
 intro w13 g14
 replace hc4 := g14.heap hc4
 replace hA := hA.grow g14
 replace Rt := Rt.grow g14
 replace G := G.tr g14
 clear g14
 refine stp (zG4 (v := .bool true) rfl rfl rfl ?_)
 refine qZ 3 ?_
 refine ret1 (zA1 (v := .bool true) rfl) ⟨?_, G⟩
 rfl
end Go.Proofs.YtkkbbhpbcfcplaaGreat.K
namespace Go.Proofs.YtkkbbhpbcfcplaaGreat.K
open Go Go.RowKit
mutual
/-- How a tree lies in one segment: its pointer at i, what it has from lo on, up to hi. -/
def Lies (f : List Int) : Nd → Nat → Nat → Nat → Prop
  | .mk k z w b ks, i, lo, hi =>
    if k = 0 then f.getD i 0 = 0 ∧ hi = lo
    else if (Nd.mk k z w b ks).need = 0 then f.getD i 0 = (Nd.mk k z w b ks).near (if k = 1 then -1 else 0) ∧ hi = lo
    else f.getD i 0 = (Nd.mk k z w b ks).near ((lo : Int) - i - 1) ∧ (∀ j, j < (w ++ zC7 b).length → f.getD (lo + j) 0 = (w ++ zC7 b).getD j 0) ∧ zW1 f ks (lo + (w ++ zC7 b).length) (lo + (Nd.mk k z w b ks).need.toNat) hi
def zW1 (f : List Int) : List Nd → Nat → Nat → Nat → Prop
  | [], _, lo, hi => hi = lo
  | t :: ts, j, lo, hi => ∃ mid, Lies f t j lo mid ∧ zW1 f ts (j + 1) mid hi
end
mutual
theorem qN7 {f : List Int} : ∀ (t : Nd) (i lo hi : Nat), Lies f t i lo hi → lo ≤ hi
  | .mk k z w b ks, i, lo, hi, h => by
    rw [Lies] at h
    split at h
    · omega
    · split at h
      · omega
      · have := zQ3 ks _ _ _ h.2.2; omega
theorem zQ3 {f : List Int} : ∀ (ts : List Nd) (j lo hi : Nat), zW1 f ts j lo hi → lo ≤ hi
  | [], j, lo, hi, h => by rw [zW1] at h; omega
  | t :: ts, j, lo, hi, h => by
    rw [zW1] at h
    obtain ⟨mid, h1, h2⟩ := h
    have := qN7 t j lo mid h1
    have := zQ3 ts (j + 1) mid hi h2
    omega
end
mutual
theorem qS6 {f g : List Int} : ∀ (t : Nd) (i lo hi : Nat), t.fine → Lies f t i lo hi → g.getD i 0 = f.getD i 0 → (∀ j, lo ≤ j → j < hi → g.getD j 0 = f.getD j 0) → Lies g t i lo hi
  | .mk k z w b ks, i, lo, hi, hf, h, hi0, hg => by
    rw [Lies] at h ⊢
    by_cases hk : k = 0
    · rw [if_pos hk] at h ⊢; rw [hi0]; exact h
    · rw [if_neg hk] at h ⊢
      by_cases hn : (Nd.mk k z w b ks).need = 0
      · rw [if_pos hn] at h ⊢; rw [hi0]; exact h
      · rw [if_neg hn] at h ⊢
        obtain ⟨h1, h2, h3⟩ := h
        have hbl := zT1 (Nd.fine_own hf) hk
        have hle := zQ3 ks _ _ _ h3
        exact ⟨by rw [hi0]; exact h1, fun j hj => by rw [hg (lo + j) (by omega) (by omega)]; exact h2 j hj,
          qL4 ks _ _ _ (zU7 hf) h3 (by omega) (fun j h5 h6 => hg j (by omega) (by omega)) (fun j h5 h6 => hg j (by omega) (by omega))⟩
theorem qL4 {f g : List Int} : ∀ (ts : List Nd) (j lo hi : Nat), (∀ t ∈ ts, t.fine) → zW1 f ts j lo hi → j + ts.length ≤ lo → (∀ q, j ≤ q → q < j + ts.length → g.getD q 0 = f.getD q 0) → (∀ q, lo ≤ q → q < hi → g.getD q 0 = f.getD q 0) → zW1 g ts j lo hi
  | [], j, lo, hi, _, h, _, _, _ => h
  | t :: ts, j, lo, hi, hf, h, hjl, hp, hg => by
    rw [zW1] at h ⊢
    obtain ⟨mid, h1, h2⟩ := h
    simp only [List.length_cons] at hjl hp
    have a1 := qN7 t j lo mid h1
    have a2 := zQ3 ts (j + 1) mid hi h2
    exact ⟨mid, qS6 t j lo mid (hf t (by simp)) h1 (hp j (by omega) (by omega)) (fun q q1 q2 => hg q q1 (by omega)),
      qL4 ts (j + 1) mid hi (fun u hu => hf u (by simp [hu])) h2 (by omega) (fun q q1 q2 => hp q (by omega) (by omega)) (fun q q1 q2 => hg q (by omega) q2)⟩
end
theorem qY1 (s : List Int) (i j : Nat) (x : Int) (hi : i < s.length) : (s.set i x).getD j 0 = if j = i then x else s.getD j 0 := qE9 s i j x 0 hi
mutual
theorem yB9 (size : Int) : ∀ (t : Nd) (s : List Int) (i : Nat), t.fine → i < s.length → s.getD i 0 = 0 → (s.length : Int) + t.needs ≤ size → (s.length : Int) + t.needs ≤ 4096 →
    ∃ s', t.lay size ⟨[s], false⟩ 0 i = ⟨[s'], false⟩ ∧ (s'.length : Int) = s.length + t.needs ∧ (∀ j, j < s.length → j ≠ i → s'.getD j 0 = s.getD j 0) ∧ Lies s' t i s.length s'.length
  | .mk k z w b ks, s, i, hR, hi, hz, h1, h2 => by
    have ho := Nd.fine_own hR
    obtain ⟨hkd, hlw, hlb, hlk, hnn, hnm, hkn, hb1⟩ := Nd.own_b ho
    have hnl := Nd.needsL_nn ks
    simp only [Nd.needs] at h1 h2
    simp only [Nd.lay, Bool.false_eq_true, or_false]
    by_cases hk : k = 0
    · have hks : ks = [] := qE8 ho (by omega)
      subst hks
      rw [if_pos hk]
      exact ⟨s, rfl, by simp [Nd.needs, Nd.need, hk, Nd.needsL], fun _ _ _ => rfl, by rw [Lies, if_pos hk]; exact ⟨hz, rfl⟩⟩
    · rw [if_neg hk]
      by_cases hn : (Nd.mk k z w b ks).need = 0
      · rw [if_pos hn, yZ1]
        have hks : ks = [] := List.eq_nil_of_length_eq_zero (by have := hkn hk; omega)
        subst hks
        refine ⟨_, rfl, by rw [List.length_set]; simp [Nd.needs, hn, Nd.needsL], fun j hj hji => by rw [qY1 _ _ _ _ hi, if_neg hji], ?_⟩
        rw [Lies, if_neg hk, if_pos hn, qY1 _ _ _ _ hi, if_pos rfl, List.length_set]
        exact ⟨rfl, rfl⟩
      · rw [if_neg hn]
        have hp : zC5 size (.mk k z w b ks) ⟨[s], false⟩ 0 i = ⟨⟨[s.set i ((Nd.mk k z w b ks).near ((s.length : Int) - i - 1))], false⟩, 0, s.length⟩ := by
          unfold zC5
          rw [if_pos (by refine ⟨rfl, ?_⟩; show ((s.length : Nat) : Int) + _ ≤ _; omega)]
          show (⟨⟨setP [s] 0 i _, false⟩, 0, _⟩ : Plc) = _
          rw [yZ1]
          rfl
        have hco : ((Nd.mk k z w b ks).content.length : Int) = (Nd.mk k z w b ks).need := Nd.content_length _ (by simp only [Nd.kind]; omega) (by simpa only [Nd.kind, Nd.bytes] using hb1)
        have hbl := zT1 ho hk
        rw [hp]
        obtain ⟨x, hx⟩ : ∃ x, x = (Nd.mk k z w b ks).near ((s.length : Int) - i - 1) := ⟨_, rfl⟩
        rw [← hx]
        have hm : zI8 size ⟨[s.set i x], false⟩ 0 (Nd.mk k z w b ks).content = ⟨[s.set i x ++ (Nd.mk k z w b ks).content], false⟩ := by
          simp only [zI8, yZ0, Bool.false_or]
          rw [jA7 (by rw [List.length_append, List.length_set]; omega) (by rw [List.length_append, List.length_set]; omega)]
        simp only [hm]
        obtain ⟨u, hu⟩ : ∃ u, u = s.set i x ++ (Nd.mk k z w b ks).content := ⟨_, rfl⟩
        rw [← hu]
        have hul : u.length = s.length + (Nd.mk k z w b ks).need.toNat := by rw [hu, List.length_append, List.length_set]; omega
        have hu1 : ∀ j, j < s.length → u.getD j 0 = if j = i then x else s.getD j 0 := fun j hj => by
          rw [hu, zT0, if_neg (by rw [List.length_set]; omega), qY1 _ _ _ _ hi]
        have hu2 : ∀ j, u.getD (s.length + j) 0 = (Nd.mk k z w b ks).content.getD j 0 := fun j => by
          rw [hu, zT0, if_pos (by rw [List.length_set]; omega), List.length_set, show s.length + j - s.length = j from by omega]
        have hc : (Nd.mk k z w b ks).content = (w ++ zC7 b) ++ List.replicate ks.length 0 := rfl
        obtain ⟨s', h3, h4, h5, h6⟩ := qS7 size ks u (s.length + ((Nd.mk k z w b ks).need.toNat - ks.length)) (fun t ht => zU7 hR t ht) (by have := hkn hk; omega)
          (fun j hj => by
            rw [show s.length + ((Nd.mk k z w b ks).need.toNat - ks.length) + j = s.length + ((w ++ zC7 b).length + j) from by omega, hu2, hc, zT0, if_pos (by omega), show (w ++ zC7 b).length + j - (w ++ zC7 b).length = j from by omega, zE4 (by rw [List.length_replicate]; exact hj), List.getElem_replicate])
          (by omega) (by omega)
        refine ⟨s', h3, by rw [h4, hul]; simp only [Nd.needs]; omega, fun j hj hji => by rw [h5 j (by omega) (by omega), hu1 j hj, if_neg hji], ?_⟩
        rw [Lies, if_neg hk, if_neg hn]
        refine ⟨by rw [h5 i (by omega) (by omega), hu1 i hi, if_pos rfl, hx], fun j hj => ?_, ?_⟩
        · rw [h5 (s.length + j) (by omega) (by omega), hu2, hc, zT0, if_neg (by omega)]
        · rw [hul, show s.length + ((Nd.mk k z w b ks).need.toNat - ks.length) = s.length + (w ++ zC7 b).length from by omega] at h6
          exact h6
theorem qS7 (size : Int) : ∀ (ts : List Nd) (s : List Int) (i : Nat), (∀ t ∈ ts, t.fine) → i + ts.length ≤ s.length → (∀ j, j < ts.length → s.getD (i + j) 0 = 0) → (s.length : Int) + Nd.needsL ts ≤ size → (s.length : Int) + Nd.needsL ts ≤ 4096 →
    ∃ s', Nd.lays size ts ⟨[s], false⟩ 0 i = ⟨[s'], false⟩ ∧ (s'.length : Int) = s.length + Nd.needsL ts ∧ (∀ j, j < s.length → ¬ (i ≤ j ∧ j < i + ts.length) → s'.getD j 0 = s.getD j 0) ∧ zW1 s' ts i s.length s'.length
  | [], s, i, _, _, _, _, _ => ⟨s, rfl, by simp [Nd.needsL], fun _ _ _ => rfl, rfl⟩
  | t :: ts, s, i, hR, hi, hz, h1, h2 => by
    have ha := Nd.needs_nn t
    have hb := Nd.needsL_nn ts
    simp only [Nd.needsL, List.length_cons] at h1 h2 hi hz
    obtain ⟨s1, a1, a2, a3, a4⟩ := yB9 size t s i (hR t (by simp)) (by omega) (by simpa using hz 0 (by omega)) (by omega) (by omega)
    obtain ⟨s2, b1, b2, b3, b4⟩ := qS7 size ts s1 (i + 1) (fun u hu => hR u (by simp [hu])) (by omega) (fun j hj => by
      rw [a3 (i + 1 + j) (by omega) (by omega), show i + 1 + j = i + (j + 1) from by omega]; exact hz (j + 1) (by omega)) (by omega) (by omega)
    refine ⟨s2, by simp only [Nd.lays, a1, b1], by simp only [Nd.needsL]; omega, fun j hj hji => ?_, ?_⟩
    · simp only [List.length_cons] at hji
      rw [b3 j (by omega) (by omega), a3 j hj (by omega)]
    · rw [zW1]
      exact ⟨s1.length, qS6 t i s.length s1.length (hR t (by simp)) a4 (b3 i (by omega) (by omega)) (fun j q1 q2 => b3 j q2 (by omega)), b4⟩
end
/-! ### what lies wholly there is decoded as it is -/
theorem qS8 (f : List Int) (m j : Nat) (h : j < m) : (f.take m).getD j 0 = f.getD j 0 := by
  rw [List.getD_eq_getElem?_getD, List.getD_eq_getElem?_getD, List.getElem?_take_of_lt h]
mutual
theorem yC0 {f : List Int} {m : Nat} (hm : m ≤ f.length) : ∀ (t : Nd) (i lo hi : Nat), t.fine → Lies f t i lo hi → i < lo → hi ≤ m → i < m → Rep [f.take m] (fun _ => 0) t 0 i
  | .mk k z w b ks, i, lo, hi, hf, h, hil, him, hi0 => by
    have ho := Nd.fine_own hf
    have hl : len2 [f.take m] 0 = m := by simp [len2]; omega
    have hw : ∀ j, j < m → w2 [f.take m] 0 j = f.getD j 0 := fun j hj => qS8 f m j hj
    rw [Lies] at h
    rw [Rep]
    refine ⟨by omega, by simp, ?_⟩
    by_cases hk : k = 0
    · rw [if_pos hk] at h ⊢; rw [hw i hi0]; exact h.1
    · rw [if_neg hk] at h ⊢
      have hbl := zT1 ho hk
      by_cases hn : (Nd.mk k z w b ks).need = 0
      · rw [if_pos hn] at h
        obtain ⟨h1, -⟩ := h
        obtain ⟨hkd, hlw, hlb, hlk, hnn, hnm, hkn, hb1⟩ := Nd.own_b ho
        have hks : ks = [] := List.eq_nil_of_length_eq_zero (by have := hkn hk; omega)
        have hlen : (w ++ zC7 b).length = 0 := by omega
        refine ⟨0, if k = 1 then i else i + 1, .inl ⟨rfl, ?_⟩, by simp, fun h => absurd hn h, fun _ h => ⟨rfl, by rw [if_pos h]⟩, ?_, fun j hj => by omega, by subst hks; trivial⟩
        · rw [hw i hi0, h1]
          congr 1
          split <;> omega
        · rw [hl, hn]; split <;> simp <;> omega
      · rw [if_neg hn] at h
        obtain ⟨h1, h2, h3⟩ := h
        have hle := zQ3 ks _ _ _ h3
        refine ⟨0, lo, .inl ⟨rfl, by rw [hw i hi0]; exact h1⟩, by simp, fun _ => Nat.zero_le _, fun h => absurd h hn, by rw [hl]; omega, fun j hj => by rw [hw (lo + j) (by omega)]; exact h2 j hj, qS9 hm ks _ _ _ (zU7 hf) h3 (by omega) him⟩
theorem qS9 {f : List Int} {m : Nat} (hm : m ≤ f.length) : ∀ (ts : List Nd) (j lo hi : Nat), (∀ t ∈ ts, t.fine) → zW1 f ts j lo hi → j + ts.length ≤ lo → hi ≤ m → Reps [f.take m] (fun _ => 0) ts 0 j
  | [], j, lo, hi, _, _, _, _ => trivial
  | t :: ts, j, lo, hi, hf, h, hjl, him => by
    rw [zW1] at h
    obtain ⟨mid, h1, h2⟩ := h
    simp only [List.length_cons] at hjl
    have a1 := qN7 t j lo mid h1
    have a2 := zQ3 ts (j + 1) mid hi h2
    rw [Reps]
    exact ⟨⟨Nat.zero_le _, yC0 hm t j lo mid (hf t (by simp)) h1 (by omega) (by omega) (by omega)⟩, qS9 hm ts (j + 1) mid hi (fun u hu => hf u (by simp [hu])) h2 (by omega) him⟩
end
/-! ### what lacks its last word is not there -/
theorem yG4 {f : Int → Int → Int × Nd × Int} {a p : Int} (h : (f a p).2.2 ≠ 0) (n : Nat) : (zE7 f a p (n + 1)).2.2 = (f a p).2.2 := by
  have h1 : (zE7 f a p 1).2.2 = (f a p).2.2 := by
    rw [zM2 (show zE7 f a p 0 = (p, [], 0) from rfl), show a + ((0 : Nat) : Int) = a from by omega]
  rw [kidsD_stop' (k := 1) (n := n + 1) (by rw [h1]; exact h) (by omega), h1]
theorem qL5 {f : Int → Int → Int × Nd × Int} {a p p1 : Int} {t : Nd} (h : f a p = (p1, t, 0)) : ∀ (n : Nat), (zE7 f a p (n + 1)).2.2 = (zE7 f (a + 1) p1 n).2.2
  | 0 => by rw [zM2 (show zE7 f a p 0 = (p, [], 0) from rfl), show a + ((0 : Nat) : Int) = a from by omega, h]; rfl
  | n + 1 => by
    by_cases h0 : (zE7 f (a + 1) p1 n).2.2 ≠ 0
    · have h1 := qL5 h n
      rw [kidsD_stop' (k := n) (n := n + 1) h0 (by omega), kidsD_stop' (k := n + 1) (n := n + 1 + 1) (by rw [h1]; exact h0) (by omega), h1]
    · have hr : zE7 f (a + 1) p1 n = ((zE7 f (a + 1) p1 n).1, (zE7 f (a + 1) p1 n).2.1, 0) := Prod.ext rfl (Prod.ext rfl (by simpa using h0))
      have h1 := qC6 h n _ _ hr
      rw [zM2 hr, zM2 h1, show a + ((n + 1 : Nat) : Int) = a + 1 + (n : Int) from by omega]
theorem yG5 {s : Src} {seg a x : Int} {p : Pt} (hx : Says x p) (h0 : s.word seg a = (x, 0)) (hn : zH0 p = true) (he : zG2 (objP p seg (a + 1 + p.off)).pt = 0) (hw : zE5 s.sizes seg (a + 1 + p.off) (zE9 (objP p seg (a + 1 + p.off)).pt) = false) : zA0 s seg a = (Ob0, 20) := by
  have hp := qA2 hx h0
  have e1 : (ptrS s seg a).1 = p := by rw [hp]
  have e2 : (ptrS s seg a).2 = 0 := by rw [hp]
  unfold zA0
  rw [e1, e2]
  refine (if_neg ?_).trans ((if_pos hn).trans ?_)
  · have : p.kind = 1 ∨ p.kind = 2 := by simpa [zH0] using hn
    omega
  · unfold zA9
    rw [he, hw]
    rfl
mutual
theorem yC1 {f : List Int} {m : Nat} (hm : f.length = m + 1) (h4 : m ≤ 4096) : ∀ (t : Nd) (i lo hi d : Nat) (p : Int), t.right d = true → t.u8 → Lies f t i lo hi → i < lo → lo ≤ m → hi = m + 1 → 0 ≤ p → p + t.cst ≤ 8192 → (zG6 (zB1 [f.take m]) d 0 (i : Int) p).2.2 = 20
  | .mk k z w b ks, i, lo, hi, d, p, hr, hu, h, hil, hlm, him, h0, h1 => by
    have hfine : (Nd.mk k z w b ks).fine := ⟨d, hr⟩
    have ho := Nd.fine_own hfine
    obtain ⟨hkd, hlw, hlb, hlk, hnn, hnm, hkn, hb1⟩ := Nd.own_b ho
    have hl : ∀ q, len2 [f.take m] q ≤ 4096 := fun q => by
      cases q with
      | zero => simp [len2]; omega
      | succ q => simp [len2]
    have hl0 : len2 [f.take m] 0 = m := by simp [len2]; omega
    have hw : ∀ j, j < m → w2 [f.take m] 0 j = f.getD j 0 := fun j hj => qS8 f m j hj
    rw [Lies] at h
    rw [Nd.cst] at h1
    have hcl := Nd.cstL_nn ks
    simp only [Nd.right, Bool.and_eq_true, Bool.not_eq_true', Bool.and_eq_false_iff, decide_eq_false_iff_not] at hr
    obtain ⟨⟨-, hr2⟩, hr3⟩ := hr
    by_cases hk : k = 0
    · rw [if_pos hk] at h; omega
    · rw [if_neg hk] at h
      by_cases hn : (Nd.mk k z w b ks).need = 0
      · rw [if_pos hn] at h; omega
      · rw [if_neg hn] at h
        obtain ⟨g1, g2, g3⟩ := h
        have hbl := zT1 ho hk
        have hle := zQ3 ks _ _ _ g3
        obtain ⟨d1, rfl⟩ : ∃ e, d = e + 1 := ⟨d - 1, by rcases hr2 with h | h <;> omega⟩
        rw [qF2]
        have h2 := own2 ho hk (0 : Int) (lo : Int)
        obtain ⟨e1, e2, e3, e4, e5⟩ := qC7 h2
        by_cases hc : lo + (Nd.mk k z w b ks).need.toNat ≤ m
        · have hf := qK9 (A := [f.take m]) (B := fun _ => 0) (by simp) hl ho hk (s := 0) (i := i) (q := 0) (a := lo) (by simp) (by omega) (.inl ⟨rfl, by rw [hw i (by omega)]; exact g1⟩) (by simp) (fun h => absurd h hn) (by rw [hl0]; omega)
          have hf2 : zA0 (zB1 [f.take m]) 0 (i : Int) = (objP ((Nd.mk k z w b ks).ptr 0) 0 lo, 0) := hf
          rw [Nd.u8] at hu
          have hkids : (zE7 (fun x y => zG6 (zB1 [f.take m]) d1 0 x y) (kidA (objP ((Nd.mk k z w b ks).ptr 0) (0 : Int) (lo : Int))) (p + (1 + (Nd.mk k z w b ks).need)) ks.length).2.2 = 20 := by
            rcases e5 with e5 | e5
            · subst e5
              rw [zW1] at g3
              omega
            · rw [e5, show ((lo : Int) + (((w ++ zC7 b).length : Nat) : Int)) = ((lo + (w ++ zC7 b).length : Nat) : Int) from by omega]
              exact qT0 hm h4 ks _ _ _ d1 _ hr3 hu.2 g3 (by omega) hc him (by omega) (by omega)
          unfold qC2
          rw [hf2]
          simp only [] at *
          rw [if_neg (by simp), if_neg (by simp), e3, if_neg (by omega), e4, Int.toNat_natCast]
          have hseg : (objP ((Nd.mk k z w b ks).ptr 0) (0 : Int) (lo : Int)).seg = 0 := rfl
          rw [hseg]
          have hF : qH3 (zB1 [f.take m]) (d1 + 1) 0 = fun x y => zG6 (zB1 [f.take m]) d1 0 x y := rfl
          rw [hF, if_pos (by rw [hkids]; decide)]
          exact hkids
        · have hword : (zB1 [f.take m]).word 0 (i : Int) = (encR ((Nd.mk k z w b ks).ptr ((lo : Int) - i - 1)), 0) := by
            have := qC4 (A := [f.take m]) (s := 0) (i := i) (by simp) (by omega)
            show zG0 _ _ _ = _
            rw [show (0 : Int) = ((0 : Nat) : Int) from rfl, this]
            exact congrArg (fun x => (x, (0 : Int))) ((hw i (by omega)).trans g1)
          have hsay := qF3 (yM0 h2 (off := (lo : Int) - i - 1) (by omega) (by omega) (fun g => absurd g hn))
          have hat : (i : Int) + 1 + ((Nd.mk k z w b ks).ptr ((lo : Int) - i - 1)).off = (lo : Int) := by rw [qW2]; omega
          have hwi : zE5 (zB1 [f.take m]).sizes 0 (lo : Int) (Nd.mk k z w b ks).need = false := by
            have hg : (zB1 [f.take m]).sizes.getD 0 0 = (m : Int) := by simp [zB1]; omega
            unfold zE5 zJ2
            rw [show (0 : Int).toNat = 0 from rfl, hg]
            simp only [Bool.and_eq_false_iff, decide_eq_false_iff_not]
            right; omega
          have hf := yG5 hsay hword (qN1 h2 _) (by rw [hat, qA7, e1]) (by rw [hat, qA7, e2]; exact hwi)
          unfold qC2
          rw [hf, if_pos (by decide)]
theorem qT0 {f : List Int} {m : Nat} (hm : f.length = m + 1) (h4 : m ≤ 4096) : ∀ (ts : List Nd) (j lo hi d : Nat) (p : Int), Nd.rights ts d = true → Nd.u8L ts → zW1 f ts j lo hi → j + ts.length ≤ lo → lo ≤ m → hi = m + 1 → 0 ≤ p → p + Nd.cstL ts ≤ 8192 → (zE7 (fun x y => zG6 (zB1 [f.take m]) d 0 x y) (j : Int) p ts.length).2.2 = 20
  | [], j, lo, hi, d, p, _, _, h, _, h5, h6, _, _ => by rw [zW1] at h; omega
  | t :: ts, j, lo, hi, d, p, hr, hu, h, hjl, hlm, him, h0, h1 => by
    rw [Nd.cstL] at h1
    have hc := Nd.cst_pos t
    have hcl := Nd.cstL_nn ts
    rw [zW1] at h
    obtain ⟨mid, g1, g2⟩ := h
    simp only [Nd.rights, Bool.and_eq_true] at hr
    rw [Nd.u8L] at hu
    simp only [List.length_cons] at hjl ⊢
    have a1 := qN7 t j lo mid g1
    have a2 := zQ3 ts (j + 1) mid hi g2
    by_cases hmid : mid ≤ m
    · have hl : ∀ q, len2 [f.take m] q ≤ 4096 := fun q => by
        cases q with
        | zero => simp [len2]; omega
        | succ q => simp [len2]
      have hrep := yC0 (f := f) (m := m) (by omega) t j lo mid ⟨d, hr.1⟩ g1 (by omega) hmid (by omega)
      have hd := qW3 (A := [f.take m]) (by simp) hl t 0 j d p hr.1 hu.1 hrep h0 (by omega)
      have hd2 : (fun x y => zG6 (zB1 [f.take m]) d 0 x y) (j : Int) p = (p + t.cst, t, 0) := hd
      rw [qL5 hd2]
      exact qT0 hm h4 ts (j + 1) mid hi d (p + t.cst) hr.2 hu.2 g2 (by omega) hmid him (by omega) (by omega)
    · have he := yC1 hm h4 t j lo mid d p hr.1 hu.1 g1 (by omega) hlm (by omega) h0 (by omega)
      rw [yG4 (f := fun x y => zG6 (zB1 [f.take m]) d 0 x y) (by rw [he]; decide)]
      exact he
end
theorem qY2 {t : Nd} (hR : t.right 32 = true) (hu : t.u8) (hn : t.needs ≤ 4000) (h1 : 1 ≤ t.needs) : ∃ s, t.build 4096 = ([s], 0) ∧ (s.length : Int) = 1 + t.needs ∧ (decV [s.take (s.length - 1)]).2 = 20 := by
  obtain ⟨s, h3, h4, -, h6⟩ := yB9 4096 t [0] 0 ⟨32, hR⟩ (by simp) rfl (by simp; omega) (by simp; omega)
  simp only [List.length_singleton] at h4 h6
  have hb : t.build 4096 = ([s], 0) := by
    unfold Nd.build
    rw [if_neg (by rw [hR]; simp), h3, if_neg (by simp)]
  have hc := Nd.cst_needs t 32 hR
  have he := yC1 (f := s) (m := s.length - 1) (by omega) (by omega) t 0 1 s.length 32 0 hR hu h6 (by omega) (by omega) (by omega) (by omega) (by omega)
  have hr : zD9 [s.take (s.length - 1)] = true := by
    unfold zD9
    exact decide_eq_true ⟨by simp, by simp, by simp [len2]; omega, by simp [zC1]; omega⟩
  refine ⟨s, hb, by omega, ?_⟩
  have hd : (decT [s.take (s.length - 1)]).2 = 20 := by
    unfold decT
    rw [hr, if_neg (by simp)]
    exact he
  unfold decV
  rw [if_pos (by rw [hd]; decide)]
  exact hd
def qB0 (X : Nd) : Nat → Nd
  | 0 => X
  | i + 1 => .mk 1 0 [] [] [qB0 X i]
theorem qI3 {X : Nd} : ∀ (i l : Nat), X.right l = true → (qB0 X i).right (l + i) = true
  | 0, _, h => h
  | i + 1, l, h => by
    have ih := qI3 i l h
    rw [show l + (i + 1) = l + i + 1 from by omega]
    simp only [qB0]
    simp [Nd.right, Nd.rights, Nd.own, ih]
theorem qI4 (X : Nd) : ∀ (i : Nat), (qB0 X i).needs = i + X.needs
  | 0 => by simp [qB0]
  | i + 1 => by
    have ih := qI4 X i
    simp only [qB0]
    simp [Nd.needs, Nd.needsL, Nd.need, ih]
    omega
def qB1 (t : Nd) : Nd := .mk 1 0 (List.replicate 100 0) [] [t]
theorem qY3 {t : Nd} {l : Nat} (h : t.right l = true) : (qB1 t).right (l + 1) = true := by
  unfold qB1
  simp [Nd.right, Nd.rights, Nd.own, h]
theorem qY4 (t : Nd) : (qB1 t).needs = 101 + t.needs := by
  unfold qB1
  simp [Nd.needs, Nd.needsL, Nd.need]
theorem yC2 {A : List (List Int)} (h : zD9 A = false) : decV A = (.nil, 1) := by
  unfold decV decT
  rw [h, if_pos rfl, if_pos (by decide)]
theorem yN5 {s : List Int} (h : 1 ≤ s.length) : decV [s, List.replicate 4096 0] = (.nil, 1) := yC2 (by
  unfold zD9
  refine decide_eq_false (fun h9 => ?_)
  obtain ⟨-, -, -, h4⟩ := h9
  simp only [zC1, List.length_replicate] at h4
  omega)
theorem yN6 (s : List Int) : decV [[], s] = (.nil, 1) := yC2 (by
  unfold zD9
  refine decide_eq_false (fun h9 => ?_)
  obtain ⟨-, -, h4, -⟩ := h9
  simp [len2] at h4)
/-! ### what is seen of a memory -/
theorem yN7 {w : World} {V : Nat → Prop} {b n sz : Nat} {cs : Array Value} {T : TypeId} {fr : Nat × Nat} {xs : List Value} (R : RowAt w sz (some ⟨b, 0, none⟩) n xs) (hb : w.heap[b]? = some (.cells cs T fr)) (hv : V b) : RowAt (see V w) sz (some ⟨b, 0, none⟩) n xs :=
  ⟨R.len, R.lim, fun hn => by
    obtain ⟨b2, o, cs2, T2, fr2, ha, h2, hx⟩ := R.at_ hn
    simp only [Option.some.injEq, Addr.mk.injEq] at ha
    obtain ⟨rfl, rfl, -⟩ := ha
    exact ⟨b, 0, cs2, T2, fr2, rfl, zL3.2 ⟨hv, h2⟩, hx⟩⟩
theorem Sees.fresh {w w' : World} {V : Nat → Prop} (g : Grow w w') (hV : ∀ x, x < w.heap.size → V x) : Sees w (see V w') := fun b _ _ _ h => zL3.2 ⟨hV b (zC2 h), g.heap h⟩
section
variable {P : Program} {N : Nat} {Q : Ex → Env → World → Prop}
theorem yY0 {l : List Oper} (I : (Nat → Prop) → Env → World → Prop) (hb : ∀ (i : Nat) (o : Oper), l[i]? = some o → ∀ k ∈ zI5 o, k < i)
    (hs : ∀ (i : Nat) (o : Oper), l[i]? = some o → ∀ L E w, (∀ k ∈ zI5 o, L k) → ¬ L i → I L E w → OpG P l.toArray o E w fun v w' => I (fun j => j = i ∨ L j) (E.put o.dst v) w')
    (hq : ∀ L E w, (∀ i, i < l.length → L i) → I L E w → Q .normal E w) :
    ∀ (fuel : Nat) (L : Array Bool) (E : Env) (w : World), L.size = l.length → left L ≤ fuel → I (Ls L) E w → AnyE P l.toArray Q fuel L E w := by
  intro fuel
  induction fuel with
  | zero =>
    intro L E w hsz hf hI
    have hall : ∀ i, i < l.length → Ls L i := fun i hi => by
      by_cases h : Ls L i
      · exact h
      · have := zM4 (L := L) (i := i) (by rw [hsz]; exact hi) h; omega
    refine ⟨List.eq_nil_iff_forall_not_mem.2 fun i hi => ?_, hq _ E w hall hI⟩
    obtain ⟨hn, o, ho, -⟩ := (zM8 hsz).1 hi
    exact hn (hall i (List.getElem?_eq_some_iff.1 ho).1)
  | succ fuel ih =>
    intro L E w hsz hf hI
    refine ⟨fun hr => hq _ E w (fun i hi => zR0 hsz hb hr i hi) hI, fun i hi o ho => ?_⟩
    obtain ⟨hn, o', ho', hedge⟩ := (zM8 hsz).1 hi
    rw [List.getElem?_toArray] at ho
    rw [ho] at ho'
    obtain rfl := Option.some.inj ho'
    have hil : i < L.size := by rw [hsz]; exact (List.getElem?_eq_some_iff.1 ho).1
    refine (hs i o ho (Ls L) E w hedge hn hI).mono fun v w' h => ih _ _ _ (by simpa using hsz) (by have := zM4 hil hn; omega) ?_
    have he : Ls (L.setIfInBounds i true) = fun j => j = i ∨ Ls L j := by
      funext j
      exact propext (zK9 hil)
    rw [he]
    exact h
theorem jA2 {id : Nat} {e : Env} {w : World} {l : List Oper} (I : (Nat → Prop) → Env → World → Prop) (hm : P.follows .mixedOrders = true) (hsh : zT7 l [] = true) (hdst : qI6 N l = true)
    (h0 : ∀ w0, Grow w w0 → I (fun _ => False) e w0)
    (hs : ∀ (i : Nat) (o : Oper), l[i]? = some o → ∀ L E w, (∀ k ∈ zI5 o, L k) → ¬ L i → I L E w → OpG P l.toArray o E w fun v w' => I (fun j => j = i ∨ L j) (E.put o.dst v) w')
    (hq : ∀ L E w, (∀ i, i < l.length → L i) → I L E w → Q .normal E w) :
    W P N (.region id l.toArray true) Q e w := by
  intro b a k cs hsz he
  subst he
  have sh := qE4 hsh
  have hno : ∀ i, ¬ Ls (Array.replicate l.toArray.size false) i := fun i => by simp [Ls, Array.getD_eq_getD_getElem?, Array.getElem?_replicate]; split <;> simp
  have hany : AnyE P l.toArray Q l.toArray.size (Array.replicate l.toArray.size false) (env b.roundOf a) { w with drawn := w.drawn + 1 } := by
    refine yY0 I (fun i o ho => sh.back i o (by simpa using ho)) hs hq _ _ _ _ (by simp) ?_ ?_
    · unfold Go.Proofs.YtkkbbhpbcfcplaaGreat.K.left
      have := List.countP_le_length (p := (!·)) (l := (Array.replicate l.toArray.size false).toList)
      simpa using this
    · have he : Ls (Array.replicate l.toArray.size false) = fun _ => False := by
        funext j
        exact propext ⟨fun h => hno j h, False.elim⟩
      rw [he]
      exact h0 _ (Grow.drew' w)
  have hs2 := zU9 _ ((w.tape w.drawn (.order b.fn id))) _ _ _ hany
  obtain ⟨x, a', w', h1, h2, h3⟩ := zO4 hdst (k := k) (cs := cs) _ a _ hsz hs2
  refine ⟨x, a', w', h1, h2, .of (.one stepR_region_draw) ?_⟩
  simp only [Region.schedule, hm, Bool.true_or, if_true]
  exact h3
/-! ### the same, one operation after another -/
def ObI (P : Program) (ops : Array Oper) (I : (Nat → Prop) → Env → World → Prop) : Nat → List Oper → List (List Nat) → Prop
  | _, [], _ => True
  | i, o :: r, an => (∀ L E w, (∀ k ∈ an.headD [], L k) → ¬ L i → I L E w → OpG P ops o E w fun v w' => I (fun j => j = i ∨ L j) (E.put o.dst v) w') ∧ ObI P ops I (i + 1) r an.tail
def okAn : List Oper → List (List Nat) → Bool
  | [], _ => true
  | o :: r, an => (an.headD []).all (fun k => (zI5 o).elem k) && okAn r an.tail
theorem yT5 {ops : Array Oper} {I : (Nat → Prop) → Env → World → Prop} : ∀ (l : List Oper) (an : List (List Nat)) (i : Nat), ObI P ops I i l an → okAn l an = true →
    ∀ (j : Nat) (o : Oper), l[j]? = some o → ∀ L E w, (∀ k ∈ zI5 o, L k) → ¬ L (i + j) → I L E w → OpG P ops o E w fun v w' => I (fun q => q = i + j ∨ L q) (E.put o.dst v) w'
  | [], _, _, _, _, j, o, ho => by simp at ho
  | o1 :: r, an, i, h, hk, 0, o, ho => by
    simp only [List.getElem?_cons_zero, Option.some.injEq] at ho
    subst ho
    simp only [okAn, Bool.and_eq_true, List.all_eq_true, List.elem_eq_mem, decide_eq_true_eq] at hk
    intro L E w h1 h2 h3
    exact h.1 L E w (fun k hk2 => h1 k (hk.1 k hk2)) h2 h3
  | o1 :: r, an, i, h, hk, j + 1, o, ho => by
    simp only [List.getElem?_cons_succ] at ho
    simp only [okAn, Bool.and_eq_true] at hk
    have h4 := yT5 r an.tail (i + 1) h.2 hk.2 j o ho
    rw [show i + 1 + j = i + (j + 1) from by omega] at h4
    exact h4
theorem jA3 {id : Nat} {e : Env} {w : World} {l : List Oper} (an : List (List Nat)) (I : Env → (Nat → Prop) → Env → World → Prop) (hm : P.follows .mixedOrders = true) (hsh : zT7 l [] = true) (hdst : qI6 N l = true) (han : okAn l an = true)
    (h0 : ∀ w0, Grow w w0 → I e (fun _ => False) e w0) (hs : ObI P l.toArray (I e) 0 l an) (hq : ∀ L E w, (∀ i, i < l.length → L i) → I e L E w → Q .normal E w) : W P N (.region id l.toArray true) Q e w :=
  jA2 (I e) hm hsh hdst h0 (fun i o ho L E w h1 h2 h3 => by
    have h4 := yT5 l an 0 hs han i o ho L E w h1 (by rw [Nat.zero_add]; exact h2) h3
    rw [Nat.zero_add] at h4
    exact h4) hq
theorem jA4 {E : Env} {t : Nat} {v : Value} (h : E t = v) : E.set t v = E := Env.ext' (fun i => by
  by_cases hi : i = t
  · subst hi; exact (zN5 _ _ _).trans h.symm
  · exact zM7 _ _ hi) rfl rfl
theorem qL6 {ops : Array Oper} {o : Oper} {E : Env} {w : World} {K : Value → World → Prop} {t : Nat} {v : Value} (h : E t = v) (hg : OpG P ops o (E.set t v) w K) : OpG P ops o E w K := by
  rw [jA4 h] at hg
  exact hg
@[reducible] def putL : List (Nat × Value) → Env → Env
  | [], e => e
  | p :: r, e => putL r (e.set p.1 p.2)
@[reducible] def AllV : List (Nat × Value) → Env → Prop
  | [], _ => True
  | p :: r, e => e p.1 = p.2 ∧ AllV r e
theorem qI5 {l : List Nat} {u t : Nat} (hu : l.elem u = false) (ht : l.elem t = true) : u ≠ t := fun h => by
  rw [h, ht] at hu
  cases hu
theorem yC3 {E : Env} : ∀ (rd : List (Nat × Value)) (e : Env), E.ms = e.ms → E.ro = e.ro → (∀ u, (rd.map (·.1)).elem u = false → E u = e u) → AllV rd E → E = putL rd e
  | [], e, hm, hr, h, _ => Env.ext' (fun i => h i rfl) hm hr
  | p :: r, e, hm, hr, h, hp => yC3 r (e.set p.1 p.2) hm hr (fun u hu => by
    by_cases hi : u = p.1
    · subst hi; exact hp.1.trans (zN5 _ _ _).symm
    · refine (h u ?_).trans (zM7 _ _ hi).symm
      simp only [List.map_cons, List.elem_eq_mem, decide_eq_false_iff_not, List.mem_cons, not_or] at hu ⊢
      exact ⟨hi, hu⟩) hp.2
end
def own1 (w b : List Int) : Nat := 1 + w.length + b.length
end Go.Proofs.YtkkbbhpbcfcplaaGreat.K
