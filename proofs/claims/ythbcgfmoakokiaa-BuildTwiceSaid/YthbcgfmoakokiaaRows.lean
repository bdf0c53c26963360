/-
  NARROWER THAN 'FOR EVERY INPUT', by the rows' own cells (each row's printed sentence says how): BuildLays: loops.
  DERIVED. THE GIVEN ROWS OF THIS SEAT. 6 by the template 'for every input the law returns true; each argument reads behind the call as it read before'; 0 by the template 'total and deterministic' (their statements: YthbcgfmoakokiaaTotals.lean).
  GIVEN WITH THE SEED: the statements are not yours to turn. If you find one false, say at which input.
  Laid BY PROGRAM, IN A SANDBOX (cutbox-rows.mjs): the forced cells as the released guide's own fill.sh prints them over the translation 2f47207f41ca7e58… (all of the seat's roots in one cut). By AI agents, Wed Nov 11 2026. No macro, syntax, notation, axiom, sorry.
-/
import Derived.Test.YthbcgfmoakokiaaChecked
import GoSem.Claim
import GoSem.ClaimJoined
import GoSem.ClaimMapViews
import Derived.JoinedTies
import Derived.KernelRfl
namespace Go.Proofs.Ythbcgfmoakokiaa
/- THE CELL 'sum', in the pinned program and in every row, IS THE sha256 OF THE DUMP (.gsa) THAT YthbcgfmoakokiaaProg.lean LOADS. Nothing in Lean hashes anything: it is a label: what it is worth is what the hold of that sum in a sandbox is worth. -/
noncomputable def Try.pinned : Pinned := { name := "ythbcgfmoakokiaa", sum := "2f47207f41ca7e58f4e3dbe6a9fab51757e6eec0ba0a81a55e1725e24ebf2f2b", checked := Try.checked }
namespace Rows
def none {H : Type} : Left H := { results := [], args := [] }

/-- 'scullerlaw08.BuildLays': WHATEVER THE INPUT: true; the input reads as it did. -/
def buildLaysSpec : ChangeSpec := { name := "buildLays", fn := fun _ => fun
  | [d1, d2, d3, d4] => { results := [.lit (.bool true)], args := [d1, d2, d3, d4] }
  | _ => none }
def buildLaysRow : OpenClaim := { program := "ythbcgfmoakokiaa", sum := "2f47207f41ca7e58f4e3dbe6a9fab51757e6eec0ba0a81a55e1725e24ebf2f2b", func := "sculler/scullerlaw08.BuildLays", spec := "buildLays", unfollowed := true, recurses := true, loops := true, apart := false }
def BuildLaysSaid : Prop := buildLaysRow.holds Try.pinned (OpenSpec.ofChange buildLaysSpec)

/-- ITS FALSE NEIGHBOUR: 'it returns false'. Refute it at one input. -/
def buildLaysWrong : ChangeSpec := { name := "buildLays", fn := fun _ => fun
  | [d1, d2, d3, d4] => { results := [.lit (.bool false)], args := [d1, d2, d3, d4] }
  | _ => none }
def BuildLaysWrongFalsely : Prop := buildLaysRow.holds Try.pinned (OpenSpec.ofChange buildLaysWrong)

/-- 'scullerlaw08.BuildSizes': WHATEVER THE INPUT: true; the input reads as it did. -/
def buildSizesSpec : ChangeSpec := { name := "buildSizes", fn := fun _ => fun
  | [d1, d2] => { results := [.lit (.bool true)], args := [d1, d2] }
  | _ => none }
def buildSizesRow : OpenClaim := { program := "ythbcgfmoakokiaa", sum := "2f47207f41ca7e58f4e3dbe6a9fab51757e6eec0ba0a81a55e1725e24ebf2f2b", func := "sculler/scullerlaw08.BuildSizes", spec := "buildSizes", unfollowed := true, recurses := true, apart := false }
def BuildSizesSaid : Prop := buildSizesRow.holds Try.pinned (OpenSpec.ofChange buildSizesSpec)

/-- ITS FALSE NEIGHBOUR: 'it returns false'. Refute it at one input. -/
def buildSizesWrong : ChangeSpec := { name := "buildSizes", fn := fun _ => fun
  | [d1, d2] => { results := [.lit (.bool false)], args := [d1, d2] }
  | _ => none }
def BuildSizesWrongFalsely : Prop := buildSizesRow.holds Try.pinned (OpenSpec.ofChange buildSizesWrong)

/-- 'scullerlaw08.BuildDeep': WHATEVER THE INPUT: true; the input reads as it did. -/
def buildDeepSpec : ChangeSpec := { name := "buildDeep", fn := fun _ => fun
  | [d1, d2] => { results := [.lit (.bool true)], args := [d1, d2] }
  | _ => none }
def buildDeepRow : OpenClaim := { program := "ythbcgfmoakokiaa", sum := "2f47207f41ca7e58f4e3dbe6a9fab51757e6eec0ba0a81a55e1725e24ebf2f2b", func := "sculler/scullerlaw08.BuildDeep", spec := "buildDeep", unfollowed := true, recurses := true, apart := false }
def BuildDeepSaid : Prop := buildDeepRow.holds Try.pinned (OpenSpec.ofChange buildDeepSpec)

/-- ITS FALSE NEIGHBOUR: 'it returns false'. Refute it at one input. -/
def buildDeepWrong : ChangeSpec := { name := "buildDeep", fn := fun _ => fun
  | [d1, d2] => { results := [.lit (.bool false)], args := [d1, d2] }
  | _ => none }
def BuildDeepWrongFalsely : Prop := buildDeepRow.holds Try.pinned (OpenSpec.ofChange buildDeepWrong)

/-- 'scullerlaw08.BuildOdd': WHATEVER THE INPUT: true; the input reads as it did. -/
def buildOddSpec : ChangeSpec := { name := "buildOdd", fn := fun _ => fun
  | [d1, d2, d3] => { results := [.lit (.bool true)], args := [d1, d2, d3] }
  | _ => none }
def buildOddRow : OpenClaim := { program := "ythbcgfmoakokiaa", sum := "2f47207f41ca7e58f4e3dbe6a9fab51757e6eec0ba0a81a55e1725e24ebf2f2b", func := "sculler/scullerlaw08.BuildOdd", spec := "buildOdd", unfollowed := true, recurses := true, apart := false }
def BuildOddSaid : Prop := buildOddRow.holds Try.pinned (OpenSpec.ofChange buildOddSpec)

/-- ITS FALSE NEIGHBOUR: 'it returns false'. Refute it at one input. -/
def buildOddWrong : ChangeSpec := { name := "buildOdd", fn := fun _ => fun
  | [d1, d2, d3] => { results := [.lit (.bool false)], args := [d1, d2, d3] }
  | _ => none }
def BuildOddWrongFalsely : Prop := buildOddRow.holds Try.pinned (OpenSpec.ofChange buildOddWrong)

/-- 'scullerlaw08.BuildEmpty': WHATEVER THE INPUT: true; the input reads as it did. -/
def buildEmptySpec : ChangeSpec := { name := "buildEmpty", fn := fun _ => fun
  | [d1, d2] => { results := [.lit (.bool true)], args := [d1, d2] }
  | _ => none }
def buildEmptyRow : OpenClaim := { program := "ythbcgfmoakokiaa", sum := "2f47207f41ca7e58f4e3dbe6a9fab51757e6eec0ba0a81a55e1725e24ebf2f2b", func := "sculler/scullerlaw08.BuildEmpty", spec := "buildEmpty", unfollowed := true, recurses := true, apart := false }
def BuildEmptySaid : Prop := buildEmptyRow.holds Try.pinned (OpenSpec.ofChange buildEmptySpec)

/-- ITS FALSE NEIGHBOUR: 'it returns false'. Refute it at one input. -/
def buildEmptyWrong : ChangeSpec := { name := "buildEmpty", fn := fun _ => fun
  | [d1, d2] => { results := [.lit (.bool false)], args := [d1, d2] }
  | _ => none }
def BuildEmptyWrongFalsely : Prop := buildEmptyRow.holds Try.pinned (OpenSpec.ofChange buildEmptyWrong)

/-- 'scullerlaw08.BuildTwice': WHATEVER THE INPUT: true; the input reads as it did. -/
def buildTwiceSpec : ChangeSpec := { name := "buildTwice", fn := fun _ => fun
  | [d1, d2, d3] => { results := [.lit (.bool true)], args := [d1, d2, d3] }
  | _ => none }
def buildTwiceRow : OpenClaim := { program := "ythbcgfmoakokiaa", sum := "2f47207f41ca7e58f4e3dbe6a9fab51757e6eec0ba0a81a55e1725e24ebf2f2b", func := "sculler/scullerlaw08.BuildTwice", spec := "buildTwice", unfollowed := true, recurses := true, apart := false }
def BuildTwiceSaid : Prop := buildTwiceRow.holds Try.pinned (OpenSpec.ofChange buildTwiceSpec)

/-- ITS FALSE NEIGHBOUR: 'it returns false'. Refute it at one input. -/
def buildTwiceWrong : ChangeSpec := { name := "buildTwice", fn := fun _ => fun
  | [d1, d2, d3] => { results := [.lit (.bool false)], args := [d1, d2, d3] }
  | _ => none }
def BuildTwiceWrongFalsely : Prop := buildTwiceRow.holds Try.pinned (OpenSpec.ofChange buildTwiceWrong)

/- THE SECOND FORM. 'bulk': how many values and letters a reading holds, each counted each time it is reached (what is shared counts as often as it is met; a slice's spare places count too). A statement '..UptoSaid' is the law's where the arguments, and the package variables that the reading takes, are together of bulk at most 1048576: NARROWER than '..Said'. Prove '..Said' where nothing that the law and all that it calls make is longer than what came in: it says more and counts as full. Else prove '..UptoSaid'. A law counts once. -/
mutual
def uptoBulk {H : Type} : DataW H → Nat
  | .lit (.string bytes) => bytes.length + 1
  | .lit _ => 1
  | .nil => 1
  | .ptr d => uptoBulk d + 1
  | .slice elems spare => uptoBulkAll elems + uptoBulkAll spare + 1
  | .agg parts => uptoBulkAll parts + 1
  | .iface _ d => uptoBulk d + 1
  | .map entries => uptoBulkEntries entries + 1
  | .held _ => 1
def uptoBulkAll {H : Type} : List (DataW H) → Nat
  | [] => 0
  | d :: r => uptoBulk d + uptoBulkAll r
def uptoBulkEntries {H : Type} : List (Lit × DataW H) → Nat
  | [] => 0
  | x :: r => uptoBulkEntry x + uptoBulkEntries r
def uptoBulkEntry {H : Type} : Lit × DataW H → Nat
  | (.string bytes, d) => bytes.length + uptoBulk d + 1
  | (_, d) => uptoBulk d + 1
 end
def uptoSmall : (H : Type) → List (DataW H) → Bool := fun _ ds => decide (uptoBulkAll ds ≤ 1048576)
def OpenSpec.upto (s : _root_.Go.ChangeSpec) : _root_.Go.OpenSpec := { _root_.Go.OpenSpec.ofChange s with cond := some uptoSmall }

/-- 'scullerlaw08.BuildLays', WHERE WHAT IT READS IS OF BULK AT MOST 1048576: true; the input reads as it did. -/
def buildLaysUptoRow : OpenClaim := { program := "ythbcgfmoakokiaa", sum := "2f47207f41ca7e58f4e3dbe6a9fab51757e6eec0ba0a81a55e1725e24ebf2f2b", func := "sculler/scullerlaw08.BuildLays", spec := "buildLays", unfollowed := true, recurses := true, loops := true, apart := false, narrowed := true }
def BuildLaysUptoSaid : Prop := buildLaysUptoRow.holds Try.pinned (OpenSpec.upto buildLaysSpec)

/-- 'scullerlaw08.BuildSizes', WHERE WHAT IT READS IS OF BULK AT MOST 1048576: true; the input reads as it did. -/
def buildSizesUptoRow : OpenClaim := { program := "ythbcgfmoakokiaa", sum := "2f47207f41ca7e58f4e3dbe6a9fab51757e6eec0ba0a81a55e1725e24ebf2f2b", func := "sculler/scullerlaw08.BuildSizes", spec := "buildSizes", unfollowed := true, recurses := true, apart := false, narrowed := true }
def BuildSizesUptoSaid : Prop := buildSizesUptoRow.holds Try.pinned (OpenSpec.upto buildSizesSpec)

/-- 'scullerlaw08.BuildDeep', WHERE WHAT IT READS IS OF BULK AT MOST 1048576: true; the input reads as it did. -/
def buildDeepUptoRow : OpenClaim := { program := "ythbcgfmoakokiaa", sum := "2f47207f41ca7e58f4e3dbe6a9fab51757e6eec0ba0a81a55e1725e24ebf2f2b", func := "sculler/scullerlaw08.BuildDeep", spec := "buildDeep", unfollowed := true, recurses := true, apart := false, narrowed := true }
def BuildDeepUptoSaid : Prop := buildDeepUptoRow.holds Try.pinned (OpenSpec.upto buildDeepSpec)

/-- 'scullerlaw08.BuildOdd', WHERE WHAT IT READS IS OF BULK AT MOST 1048576: true; the input reads as it did. -/
def buildOddUptoRow : OpenClaim := { program := "ythbcgfmoakokiaa", sum := "2f47207f41ca7e58f4e3dbe6a9fab51757e6eec0ba0a81a55e1725e24ebf2f2b", func := "sculler/scullerlaw08.BuildOdd", spec := "buildOdd", unfollowed := true, recurses := true, apart := false, narrowed := true }
def BuildOddUptoSaid : Prop := buildOddUptoRow.holds Try.pinned (OpenSpec.upto buildOddSpec)

/-- 'scullerlaw08.BuildEmpty', WHERE WHAT IT READS IS OF BULK AT MOST 1048576: true; the input reads as it did. -/
def buildEmptyUptoRow : OpenClaim := { program := "ythbcgfmoakokiaa", sum := "2f47207f41ca7e58f4e3dbe6a9fab51757e6eec0ba0a81a55e1725e24ebf2f2b", func := "sculler/scullerlaw08.BuildEmpty", spec := "buildEmpty", unfollowed := true, recurses := true, apart := false, narrowed := true }
def BuildEmptyUptoSaid : Prop := buildEmptyUptoRow.holds Try.pinned (OpenSpec.upto buildEmptySpec)

/-- 'scullerlaw08.BuildTwice', WHERE WHAT IT READS IS OF BULK AT MOST 1048576: true; the input reads as it did. -/
def buildTwiceUptoRow : OpenClaim := { program := "ythbcgfmoakokiaa", sum := "2f47207f41ca7e58f4e3dbe6a9fab51757e6eec0ba0a81a55e1725e24ebf2f2b", func := "sculler/scullerlaw08.BuildTwice", spec := "buildTwice", unfollowed := true, recurses := true, apart := false, narrowed := true }
def BuildTwiceUptoSaid : Prop := buildTwiceUptoRow.holds Try.pinned (OpenSpec.upto buildTwiceSpec)

end Rows
end Go.Proofs.Ythbcgfmoakokiaa
