/-
  No cell of these rows narrows 'for every input' (looked for: loops, veiled, ifaces, maps, wideKeys, modest, calm, conditions, laid).
  DERIVED. THE GIVEN ROWS OF THIS SEAT. 6 by the template 'for every input the law returns true; each argument reads behind the call as it read before'; 0 by the template 'total and deterministic' (their statements: YtepcfoofdbdioaaTotals.lean).
  GIVEN WITH THE SEED: the statements are not yours to turn. If you find one false, say at which input.
  Laid BY PROGRAM, IN A SANDBOX (cutbox-rows.mjs): the forced cells as the released guide's own fill.sh prints them over the translation 3dd30f60f98da3bc… (all of the seat's roots in one cut). By AI agents, Wed Nov 11 2026. No macro, syntax, notation, axiom, sorry.
-/
import Derived.Test.YtepcfoofdbdioaaChecked
import GoSem.Claim
import GoSem.ClaimJoined
import GoSem.ClaimMapViews
import Derived.JoinedTies
import Derived.KernelRfl
namespace Go.Proofs.Ytepcfoofdbdioaa
/- THE CELL 'sum', in the pinned program and in every row, IS THE sha256 OF THE DUMP (.gsa) THAT YtepcfoofdbdioaaProg.lean LOADS. Nothing in Lean hashes anything: it is a label: what it is worth is what the hold of that sum in a sandbox is worth. -/
noncomputable def Try.pinned : Pinned := { name := "ytepcfoofdbdioaa", sum := "3dd30f60f98da3bcc2479666e513b3acec2e946b2cb156c1fc0d9b70a50bfd12", checked := Try.checked }
namespace Rows
def none {H : Type} : Left H := { results := [], args := [] }

/-- 'scullerlaw06.PtrBack': WHATEVER THE INPUT: true; the input reads as it did. -/
def ptrBackSpec : ChangeSpec := { name := "ptrBack", fn := fun _ => fun
  | [d1, d2] => { results := [.lit (.bool true)], args := [d1, d2] }
  | _ => none }
def ptrBackRow : OpenClaim := { program := "ytepcfoofdbdioaa", sum := "3dd30f60f98da3bcc2479666e513b3acec2e946b2cb156c1fc0d9b70a50bfd12", func := "sculler/scullerlaw06.PtrBack", spec := "ptrBack", apart := false }
def PtrBackSaid : Prop := ptrBackRow.holds Try.pinned (OpenSpec.ofChange ptrBackSpec)

/-- ITS FALSE NEIGHBOUR: 'it returns false'. Refute it at one input. -/
def ptrBackWrong : ChangeSpec := { name := "ptrBack", fn := fun _ => fun
  | [d1, d2] => { results := [.lit (.bool false)], args := [d1, d2] }
  | _ => none }
def PtrBackWrongFalsely : Prop := ptrBackRow.holds Try.pinned (OpenSpec.ofChange ptrBackWrong)

/-- 'scullerlaw06.PtrFields': WHATEVER THE INPUT: true; the input reads as it did. -/
def ptrFieldsSpec : ChangeSpec := { name := "ptrFields", fn := fun _ => fun
  | [d1, d2, d3, d4, d5] => { results := [.lit (.bool true)], args := [d1, d2, d3, d4, d5] }
  | _ => none }
def ptrFieldsRow : OpenClaim := { program := "ytepcfoofdbdioaa", sum := "3dd30f60f98da3bcc2479666e513b3acec2e946b2cb156c1fc0d9b70a50bfd12", func := "sculler/scullerlaw06.PtrFields", spec := "ptrFields", apart := false }
def PtrFieldsSaid : Prop := ptrFieldsRow.holds Try.pinned (OpenSpec.ofChange ptrFieldsSpec)

/-- ITS FALSE NEIGHBOUR: 'it returns false'. Refute it at one input. -/
def ptrFieldsWrong : ChangeSpec := { name := "ptrFields", fn := fun _ => fun
  | [d1, d2, d3, d4, d5] => { results := [.lit (.bool false)], args := [d1, d2, d3, d4, d5] }
  | _ => none }
def PtrFieldsWrongFalsely : Prop := ptrFieldsRow.holds Try.pinned (OpenSpec.ofChange ptrFieldsWrong)

/-- 'scullerlaw06.PtrKinds': WHATEVER THE INPUT: true; the input reads as it did. -/
def ptrKindsSpec : ChangeSpec := { name := "ptrKinds", fn := fun _ => fun
  | [d] => { results := [.lit (.bool true)], args := [d] }
  | _ => none }
def ptrKindsRow : OpenClaim := { program := "ytepcfoofdbdioaa", sum := "3dd30f60f98da3bcc2479666e513b3acec2e946b2cb156c1fc0d9b70a50bfd12", func := "sculler/scullerlaw06.PtrKinds", spec := "ptrKinds", apart := false }
def PtrKindsSaid : Prop := ptrKindsRow.holds Try.pinned (OpenSpec.ofChange ptrKindsSpec)

/-- ITS FALSE NEIGHBOUR: 'it returns false'. Refute it at one input. -/
def ptrKindsWrong : ChangeSpec := { name := "ptrKinds", fn := fun _ => fun
  | [d] => { results := [.lit (.bool false)], args := [d] }
  | _ => none }
def PtrKindsWrongFalsely : Prop := ptrKindsRow.holds Try.pinned (OpenSpec.ofChange ptrKindsWrong)

/-- 'scullerlaw06.PtrOffs': WHATEVER THE INPUT: true; the input reads as it did. -/
def ptrOffsSpec : ChangeSpec := { name := "ptrOffs", fn := fun _ => fun
  | [d1, d2, d3] => { results := [.lit (.bool true)], args := [d1, d2, d3] }
  | _ => none }
def ptrOffsRow : OpenClaim := { program := "ytepcfoofdbdioaa", sum := "3dd30f60f98da3bcc2479666e513b3acec2e946b2cb156c1fc0d9b70a50bfd12", func := "sculler/scullerlaw06.PtrOffs", spec := "ptrOffs", apart := false }
def PtrOffsSaid : Prop := ptrOffsRow.holds Try.pinned (OpenSpec.ofChange ptrOffsSpec)

/-- ITS FALSE NEIGHBOUR: 'it returns false'. Refute it at one input. -/
def ptrOffsWrong : ChangeSpec := { name := "ptrOffs", fn := fun _ => fun
  | [d1, d2, d3] => { results := [.lit (.bool false)], args := [d1, d2, d3] }
  | _ => none }
def PtrOffsWrongFalsely : Prop := ptrOffsRow.holds Try.pinned (OpenSpec.ofChange ptrOffsWrong)

/-- 'scullerlaw06.PtrDecodes': WHATEVER THE INPUT: true; the input reads as it did. -/
def ptrDecodesSpec : ChangeSpec := { name := "ptrDecodes", fn := fun _ => fun
  | [d1, d2, d3, d4, d5, d6] => { results := [.lit (.bool true)], args := [d1, d2, d3, d4, d5, d6] }
  | _ => none }
def ptrDecodesRow : OpenClaim := { program := "ytepcfoofdbdioaa", sum := "3dd30f60f98da3bcc2479666e513b3acec2e946b2cb156c1fc0d9b70a50bfd12", func := "sculler/scullerlaw06.PtrDecodes", spec := "ptrDecodes", apart := false }
def PtrDecodesSaid : Prop := ptrDecodesRow.holds Try.pinned (OpenSpec.ofChange ptrDecodesSpec)

/-- ITS FALSE NEIGHBOUR: 'it returns false'. Refute it at one input. -/
def ptrDecodesWrong : ChangeSpec := { name := "ptrDecodes", fn := fun _ => fun
  | [d1, d2, d3, d4, d5, d6] => { results := [.lit (.bool false)], args := [d1, d2, d3, d4, d5, d6] }
  | _ => none }
def PtrDecodesWrongFalsely : Prop := ptrDecodesRow.holds Try.pinned (OpenSpec.ofChange ptrDecodesWrong)

/-- 'scullerlaw06.PtrWords': WHATEVER THE INPUT: true; the input reads as it did. -/
def ptrWordsSpec : ChangeSpec := { name := "ptrWords", fn := fun _ => fun
  | [d1, d2, d3] => { results := [.lit (.bool true)], args := [d1, d2, d3] }
  | _ => none }
def ptrWordsRow : OpenClaim := { program := "ytepcfoofdbdioaa", sum := "3dd30f60f98da3bcc2479666e513b3acec2e946b2cb156c1fc0d9b70a50bfd12", func := "sculler/scullerlaw06.PtrWords", spec := "ptrWords", apart := false }
def PtrWordsSaid : Prop := ptrWordsRow.holds Try.pinned (OpenSpec.ofChange ptrWordsSpec)

/-- ITS FALSE NEIGHBOUR: 'it returns false'. Refute it at one input. -/
def ptrWordsWrong : ChangeSpec := { name := "ptrWords", fn := fun _ => fun
  | [d1, d2, d3] => { results := [.lit (.bool false)], args := [d1, d2, d3] }
  | _ => none }
def PtrWordsWrongFalsely : Prop := ptrWordsRow.holds Try.pinned (OpenSpec.ofChange ptrWordsWrong)

/- THE SECOND FORM. 'bulk': how many values and letters a reading holds, each counted each time it is reached (what is shared counts as often as it is met; a slice's spare places count too). A statement '..UptoSaid' is the law's where the arguments, and the package variables that the reading takes, are together of bulk at most 1048576: NARROWER than '..Said'. Prove '..Said' where nothing that the law and all that it calls make is longer than what came in: it says more and counts as full. Else prove '..UptoSaid'. A law counts once. -/
mutual
def uptoBulk {H : Type} : DataW H → Nat
  | .lit (.string bytes) => bytes.length + 1
  | .lit _ => 1
  | .nil => 1
  | .ptr d => uptoBulk d + 1
  | .slice elems spare => uptoBulkAll elems + uptoBulkAll spare + 1
  | .agg parts => uptoBulkAll parts + 1
  | .iface _ d => uptoBulk d + 1
  | .map entries => uptoBulkEntries entries + 1
  | .held _ => 1
def uptoBulkAll {H : Type} : List (DataW H) → Nat
  | [] => 0
  | d :: r => uptoBulk d + uptoBulkAll r
def uptoBulkEntries {H : Type} : List (Lit × DataW H) → Nat
  | [] => 0
  | x :: r => uptoBulkEntry x + uptoBulkEntries r
def uptoBulkEntry {H : Type} : Lit × DataW H → Nat
  | (.string bytes, d) => bytes.length + uptoBulk d + 1
  | (_, d) => uptoBulk d + 1
 end
def uptoSmall : (H : Type) → List (DataW H) → Bool := fun _ ds => decide (uptoBulkAll ds ≤ 1048576)
def OpenSpec.upto (s : _root_.Go.ChangeSpec) : _root_.Go.OpenSpec := { _root_.Go.OpenSpec.ofChange s with cond := some uptoSmall }

/-- 'scullerlaw06.PtrBack', WHERE WHAT IT READS IS OF BULK AT MOST 1048576: true; the input reads as it did. -/
def ptrBackUptoRow : OpenClaim := { program := "ytepcfoofdbdioaa", sum := "3dd30f60f98da3bcc2479666e513b3acec2e946b2cb156c1fc0d9b70a50bfd12", func := "sculler/scullerlaw06.PtrBack", spec := "ptrBack", apart := false, narrowed := true }
def PtrBackUptoSaid : Prop := ptrBackUptoRow.holds Try.pinned (OpenSpec.upto ptrBackSpec)

/-- 'scullerlaw06.PtrFields', WHERE WHAT IT READS IS OF BULK AT MOST 1048576: true; the input reads as it did. -/
def ptrFieldsUptoRow : OpenClaim := { program := "ytepcfoofdbdioaa", sum := "3dd30f60f98da3bcc2479666e513b3acec2e946b2cb156c1fc0d9b70a50bfd12", func := "sculler/scullerlaw06.PtrFields", spec := "ptrFields", apart := false, narrowed := true }
def PtrFieldsUptoSaid : Prop := ptrFieldsUptoRow.holds Try.pinned (OpenSpec.upto ptrFieldsSpec)

/-- 'scullerlaw06.PtrKinds', WHERE WHAT IT READS IS OF BULK AT MOST 1048576: true; the input reads as it did. -/
def ptrKindsUptoRow : OpenClaim := { program := "ytepcfoofdbdioaa", sum := "3dd30f60f98da3bcc2479666e513b3acec2e946b2cb156c1fc0d9b70a50bfd12", func := "sculler/scullerlaw06.PtrKinds", spec := "ptrKinds", apart := false, narrowed := true }
def PtrKindsUptoSaid : Prop := ptrKindsUptoRow.holds Try.pinned (OpenSpec.upto ptrKindsSpec)

/-- 'scullerlaw06.PtrOffs', WHERE WHAT IT READS IS OF BULK AT MOST 1048576: true; the input reads as it did. -/
def ptrOffsUptoRow : OpenClaim := { program := "ytepcfoofdbdioaa", sum := "3dd30f60f98da3bcc2479666e513b3acec2e946b2cb156c1fc0d9b70a50bfd12", func := "sculler/scullerlaw06.PtrOffs", spec := "ptrOffs", apart := false, narrowed := true }
def PtrOffsUptoSaid : Prop := ptrOffsUptoRow.holds Try.pinned (OpenSpec.upto ptrOffsSpec)

/-- 'scullerlaw06.PtrDecodes', WHERE WHAT IT READS IS OF BULK AT MOST 1048576: true; the input reads as it did. -/
def ptrDecodesUptoRow : OpenClaim := { program := "ytepcfoofdbdioaa", sum := "3dd30f60f98da3bcc2479666e513b3acec2e946b2cb156c1fc0d9b70a50bfd12", func := "sculler/scullerlaw06.PtrDecodes", spec := "ptrDecodes", apart := false, narrowed := true }
def PtrDecodesUptoSaid : Prop := ptrDecodesUptoRow.holds Try.pinned (OpenSpec.upto ptrDecodesSpec)

/-- 'scullerlaw06.PtrWords', WHERE WHAT IT READS IS OF BULK AT MOST 1048576: true; the input reads as it did. -/
def ptrWordsUptoRow : OpenClaim := { program := "ytepcfoofdbdioaa", sum := "3dd30f60f98da3bcc2479666e513b3acec2e946b2cb156c1fc0d9b70a50bfd12", func := "sculler/scullerlaw06.PtrWords", spec := "ptrWords", apart := false, narrowed := true }
def PtrWordsUptoSaid : Prop := ptrWordsUptoRow.holds Try.pinned (OpenSpec.upto ptrWordsSpec)

end Rows
end Go.Proofs.Ytepcfoofdbdioaa
