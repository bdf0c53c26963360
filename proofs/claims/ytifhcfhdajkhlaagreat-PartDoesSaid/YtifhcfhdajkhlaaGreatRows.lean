/-
  No cell of these rows narrows 'for every input' (looked for: loops, veiled, ifaces, maps, wideKeys, modest, calm, conditions, laid).
  DERIVED. THE GIVEN ROWS OF THIS SEAT. 3 by the template 'for every input the law returns true; each argument reads behind the call as it read before'; 0 by the template 'total and deterministic' (their statements: YtifhcfhdajkhlaaGreatTotals.lean).
  GIVEN WITH THE SEED: the statements are not yours to turn. If you find one false, say at which input.
  Laid BY PROGRAM, IN A SANDBOX (cutbox-rows.mjs): the forced cells as the released guide's own fill.sh prints them over the translation 549e9731a4965023… (all of the seat's roots in one cut). By AI agents, Wed Nov 11 2026. No macro, syntax, notation, axiom, sorry.
-/
import Derived.Test.YtifhcfhdajkhlaaGreatChecked
import GoSem.Claim
import GoSem.ClaimJoined
import GoSem.ClaimMapViews
import Derived.JoinedTies
import Derived.KernelRfl
namespace Go.Proofs.YtifhcfhdajkhlaaGreat
/- THE CELL 'sum', in the pinned program and in every row, IS THE sha256 OF THE DUMP (.gsa) THAT YtifhcfhdajkhlaaGreatProg.lean LOADS. Nothing in Lean hashes anything: it is a label: what it is worth is what the hold of that sum in a sandbox is worth. -/
noncomputable def Tryz.pinned : Pinned := { name := "ytifhcfhdajkhlaagreat", sum := "549e9731a4965023604ca06bb71838bf6d27382aee3fac9ff56145b9d436f8c6", checked := Tryz.checked }
namespace Rows
def none {H : Type} : Left H := { results := [], args := [] }

/-- 'scullerlaw16.PartTells': WHATEVER THE INPUT: true; the input reads as it did. -/
def partTellsSpec : ChangeSpec := { name := "partTells", fn := fun _ => fun
  | [d1, d2, d3, d4, d5, d6, d7] => { results := [.lit (.bool true)], args := [d1, d2, d3, d4, d5, d6, d7] }
  | _ => none }
def partTellsRow : OpenClaim := { program := "ytifhcfhdajkhlaagreat", sum := "549e9731a4965023604ca06bb71838bf6d27382aee3fac9ff56145b9d436f8c6", func := "sculler/scullerlaw16.PartTells", spec := "partTells", unfollowed := true, recurses := true, apart := false }
def PartTellsSaid : Prop := partTellsRow.holds Tryz.pinned (OpenSpec.ofChange partTellsSpec)

/-- ITS FALSE NEIGHBOUR: 'it returns false'. Refute it at one input. -/
def partTellsWrong : ChangeSpec := { name := "partTells", fn := fun _ => fun
  | [d1, d2, d3, d4, d5, d6, d7] => { results := [.lit (.bool false)], args := [d1, d2, d3, d4, d5, d6, d7] }
  | _ => none }
def PartTellsWrongFalsely : Prop := partTellsRow.holds Tryz.pinned (OpenSpec.ofChange partTellsWrong)

/-- 'scullerlaw16.PartSuffices': WHATEVER THE INPUT: true; the input reads as it did. -/
def partSufficesSpec : ChangeSpec := { name := "partSuffices", fn := fun _ => fun
  | [d1, d2, d3, d4] => { results := [.lit (.bool true)], args := [d1, d2, d3, d4] }
  | _ => none }
def partSufficesRow : OpenClaim := { program := "ytifhcfhdajkhlaagreat", sum := "549e9731a4965023604ca06bb71838bf6d27382aee3fac9ff56145b9d436f8c6", func := "sculler/scullerlaw16.PartSuffices", spec := "partSuffices", unfollowed := true, recurses := true, apart := false }
def PartSufficesSaid : Prop := partSufficesRow.holds Tryz.pinned (OpenSpec.ofChange partSufficesSpec)

/-- ITS FALSE NEIGHBOUR: 'it returns false'. Refute it at one input. -/
def partSufficesWrong : ChangeSpec := { name := "partSuffices", fn := fun _ => fun
  | [d1, d2, d3, d4] => { results := [.lit (.bool false)], args := [d1, d2, d3, d4] }
  | _ => none }
def PartSufficesWrongFalsely : Prop := partSufficesRow.holds Tryz.pinned (OpenSpec.ofChange partSufficesWrong)

/-- 'scullerlaw16.PartDoes': WHATEVER THE INPUT: true; the input reads as it did. -/
def partDoesSpec : ChangeSpec := { name := "partDoes", fn := fun _ => fun
  | [d1, d2, d3, d4, d5, d6, d7, d8] => { results := [.lit (.bool true)], args := [d1, d2, d3, d4, d5, d6, d7, d8] }
  | _ => none }
def partDoesRow : OpenClaim := { program := "ytifhcfhdajkhlaagreat", sum := "549e9731a4965023604ca06bb71838bf6d27382aee3fac9ff56145b9d436f8c6", func := "sculler/scullerlaw16.PartDoes", spec := "partDoes", unfollowed := true, recurses := true, apart := false }
def PartDoesSaid : Prop := partDoesRow.holds Tryz.pinned (OpenSpec.ofChange partDoesSpec)

/-- ITS FALSE NEIGHBOUR: 'it returns false'. Refute it at one input. -/
def partDoesWrong : ChangeSpec := { name := "partDoes", fn := fun _ => fun
  | [d1, d2, d3, d4, d5, d6, d7, d8] => { results := [.lit (.bool false)], args := [d1, d2, d3, d4, d5, d6, d7, d8] }
  | _ => none }
def PartDoesWrongFalsely : Prop := partDoesRow.holds Tryz.pinned (OpenSpec.ofChange partDoesWrong)

/- THE SECOND FORM. 'bulk': how many values and letters a reading holds, each counted each time it is reached (what is shared counts as often as it is met; a slice's spare places count too). A statement '..UptoSaid' is the law's where the arguments, and the package variables that the reading takes, are together of bulk at most 1048576: NARROWER than '..Said'. Prove '..Said' where nothing that the law and all that it calls make is longer than what came in: it says more and counts as full. Else prove '..UptoSaid'. A law counts once. -/
mutual
def uptoBulk {H : Type} : DataW H → Nat
  | .lit (.string bytes) => bytes.length + 1
  | .lit _ => 1
  | .nil => 1
  | .ptr d => uptoBulk d + 1
  | .slice elems spare => uptoBulkAll elems + uptoBulkAll spare + 1
  | .agg parts => uptoBulkAll parts + 1
  | .iface _ d => uptoBulk d + 1
  | .map entries => uptoBulkEntries entries + 1
  | .held _ => 1
def uptoBulkAll {H : Type} : List (DataW H) → Nat
  | [] => 0
  | d :: r => uptoBulk d + uptoBulkAll r
def uptoBulkEntries {H : Type} : List (Lit × DataW H) → Nat
  | [] => 0
  | x :: r => uptoBulkEntry x + uptoBulkEntries r
def uptoBulkEntry {H : Type} : Lit × DataW H → Nat
  | (.string bytes, d) => bytes.length + uptoBulk d + 1
  | (_, d) => uptoBulk d + 1
 end
def uptoSmall : (H : Type) → List (DataW H) → Bool := fun _ ds => decide (uptoBulkAll ds ≤ 1048576)
def OpenSpec.upto (s : _root_.Go.ChangeSpec) : _root_.Go.OpenSpec := { _root_.Go.OpenSpec.ofChange s with cond := some uptoSmall }

/-- 'scullerlaw16.PartTells', WHERE WHAT IT READS IS OF BULK AT MOST 1048576: true; the input reads as it did. -/
def partTellsUptoRow : OpenClaim := { program := "ytifhcfhdajkhlaagreat", sum := "549e9731a4965023604ca06bb71838bf6d27382aee3fac9ff56145b9d436f8c6", func := "sculler/scullerlaw16.PartTells", spec := "partTells", unfollowed := true, recurses := true, apart := false, narrowed := true }
def PartTellsUptoSaid : Prop := partTellsUptoRow.holds Tryz.pinned (OpenSpec.upto partTellsSpec)

/-- 'scullerlaw16.PartSuffices', WHERE WHAT IT READS IS OF BULK AT MOST 1048576: true; the input reads as it did. -/
def partSufficesUptoRow : OpenClaim := { program := "ytifhcfhdajkhlaagreat", sum := "549e9731a4965023604ca06bb71838bf6d27382aee3fac9ff56145b9d436f8c6", func := "sculler/scullerlaw16.PartSuffices", spec := "partSuffices", unfollowed := true, recurses := true, apart := false, narrowed := true }
def PartSufficesUptoSaid : Prop := partSufficesUptoRow.holds Tryz.pinned (OpenSpec.upto partSufficesSpec)

/-- 'scullerlaw16.PartDoes', WHERE WHAT IT READS IS OF BULK AT MOST 1048576: true; the input reads as it did. -/
def partDoesUptoRow : OpenClaim := { program := "ytifhcfhdajkhlaagreat", sum := "549e9731a4965023604ca06bb71838bf6d27382aee3fac9ff56145b9d436f8c6", func := "sculler/scullerlaw16.PartDoes", spec := "partDoes", unfollowed := true, recurses := true, apart := false, narrowed := true }
def PartDoesUptoSaid : Prop := partDoesUptoRow.holds Tryz.pinned (OpenSpec.upto partDoesSpec)

end Rows
end Go.Proofs.YtifhcfhdajkhlaaGreat
