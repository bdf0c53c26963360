/-
  No cell of these rows narrows 'for every input' (looked for: loops, veiled, ifaces, maps, wideKeys, modest, calm, conditions, laid).
  DERIVED. THE GIVEN ROWS OF THIS SEAT. 4 by the template 'for every input the law returns true; each argument reads behind the call as it read before'; 0 by the template 'total and deterministic' (their statements: YtifhcfhdajkhlaaTotals.lean).
  GIVEN WITH THE SEED: the statements are not yours to turn. If you find one false, say at which input.
  Laid BY PROGRAM, IN A SANDBOX (cutbox-rows.mjs): the forced cells as the released guide's own fill.sh prints them over the translation d496dc9944dae358… (all of the seat's roots in one cut). By AI agents, Wed Nov 11 2026. No macro, syntax, notation, axiom, sorry.
-/
import Derived.Test.YtifhcfhdajkhlaaChecked
import GoSem.Claim
import GoSem.ClaimJoined
import GoSem.ClaimMapViews
import Derived.JoinedTies
import Derived.KernelRfl
namespace Go.Proofs.Ytifhcfhdajkhlaa
/- THE CELL 'sum', in the pinned program and in every row, IS THE sha256 OF THE DUMP (.gsa) THAT YtifhcfhdajkhlaaProg.lean LOADS. Nothing in Lean hashes anything: it is a label: what it is worth is what the hold of that sum in a sandbox is worth. -/
noncomputable def Try.pinned : Pinned := { name := "ytifhcfhdajkhlaa", sum := "d496dc9944dae358748e0480b53c2c6a50146fe01c90c5494b415a24193cd057", checked := Try.checked }
namespace Rows
def none {H : Type} : Left H := { results := [], args := [] }

/-- 'scullerlaw16.PartOrder': WHATEVER THE INPUT: true; the input reads as it did. -/
def partOrderSpec : ChangeSpec := { name := "partOrder", fn := fun _ => fun
  | [d1, d2, d3, d4, d5, d6] => { results := [.lit (.bool true)], args := [d1, d2, d3, d4, d5, d6] }
  | _ => none }
def partOrderRow : OpenClaim := { program := "ytifhcfhdajkhlaa", sum := "d496dc9944dae358748e0480b53c2c6a50146fe01c90c5494b415a24193cd057", func := "sculler/scullerlaw16.PartOrder", spec := "partOrder", unfollowed := true, recurses := true, apart := false }
def PartOrderSaid : Prop := partOrderRow.holds Try.pinned (OpenSpec.ofChange partOrderSpec)

/-- ITS FALSE NEIGHBOUR: 'it returns false'. Refute it at one input. -/
def partOrderWrong : ChangeSpec := { name := "partOrder", fn := fun _ => fun
  | [d1, d2, d3, d4, d5, d6] => { results := [.lit (.bool false)], args := [d1, d2, d3, d4, d5, d6] }
  | _ => none }
def PartOrderWrongFalsely : Prop := partOrderRow.holds Try.pinned (OpenSpec.ofChange partOrderWrong)

/-- 'scullerlaw16.PartStays': WHATEVER THE INPUT: true; the input reads as it did. -/
def partStaysSpec : ChangeSpec := { name := "partStays", fn := fun _ => fun
  | [d1, d2, d3, d4, d5] => { results := [.lit (.bool true)], args := [d1, d2, d3, d4, d5] }
  | _ => none }
def partStaysRow : OpenClaim := { program := "ytifhcfhdajkhlaa", sum := "d496dc9944dae358748e0480b53c2c6a50146fe01c90c5494b415a24193cd057", func := "sculler/scullerlaw16.PartStays", spec := "partStays", unfollowed := true, recurses := true, apart := false }
def PartStaysSaid : Prop := partStaysRow.holds Try.pinned (OpenSpec.ofChange partStaysSpec)

/-- ITS FALSE NEIGHBOUR: 'it returns false'. Refute it at one input. -/
def partStaysWrong : ChangeSpec := { name := "partStays", fn := fun _ => fun
  | [d1, d2, d3, d4, d5] => { results := [.lit (.bool false)], args := [d1, d2, d3, d4, d5] }
  | _ => none }
def PartStaysWrongFalsely : Prop := partStaysRow.holds Try.pinned (OpenSpec.ofChange partStaysWrong)

/-- 'scullerlaw16.PartWhole': WHATEVER THE INPUT: true; the input reads as it did. -/
def partWholeSpec : ChangeSpec := { name := "partWhole", fn := fun _ => fun
  | [d1, d2, d3, d4, d5] => { results := [.lit (.bool true)], args := [d1, d2, d3, d4, d5] }
  | _ => none }
def partWholeRow : OpenClaim := { program := "ytifhcfhdajkhlaa", sum := "d496dc9944dae358748e0480b53c2c6a50146fe01c90c5494b415a24193cd057", func := "sculler/scullerlaw16.PartWhole", spec := "partWhole", unfollowed := true, recurses := true, apart := false }
def PartWholeSaid : Prop := partWholeRow.holds Try.pinned (OpenSpec.ofChange partWholeSpec)

/-- ITS FALSE NEIGHBOUR: 'it returns false'. Refute it at one input. -/
def partWholeWrong : ChangeSpec := { name := "partWhole", fn := fun _ => fun
  | [d1, d2, d3, d4, d5] => { results := [.lit (.bool false)], args := [d1, d2, d3, d4, d5] }
  | _ => none }
def PartWholeWrongFalsely : Prop := partWholeRow.holds Try.pinned (OpenSpec.ofChange partWholeWrong)

/-- 'scullerlaw16.PartSpoil': WHATEVER THE INPUT: true; the input reads as it did. -/
def partSpoilSpec : ChangeSpec := { name := "partSpoil", fn := fun _ => fun
  | [d1, d2, d3] => { results := [.lit (.bool true)], args := [d1, d2, d3] }
  | _ => none }
def partSpoilRow : OpenClaim := { program := "ytifhcfhdajkhlaa", sum := "d496dc9944dae358748e0480b53c2c6a50146fe01c90c5494b415a24193cd057", func := "sculler/scullerlaw16.PartSpoil", spec := "partSpoil", unfollowed := true, recurses := true, apart := false }
def PartSpoilSaid : Prop := partSpoilRow.holds Try.pinned (OpenSpec.ofChange partSpoilSpec)

/-- ITS FALSE NEIGHBOUR: 'it returns false'. Refute it at one input. -/
def partSpoilWrong : ChangeSpec := { name := "partSpoil", fn := fun _ => fun
  | [d1, d2, d3] => { results := [.lit (.bool false)], args := [d1, d2, d3] }
  | _ => none }
def PartSpoilWrongFalsely : Prop := partSpoilRow.holds Try.pinned (OpenSpec.ofChange partSpoilWrong)

/- THE SECOND FORM. 'bulk': how many values and letters a reading holds, each counted each time it is reached (what is shared counts as often as it is met; a slice's spare places count too). A statement '..UptoSaid' is the law's where the arguments, and the package variables that the reading takes, are together of bulk at most 1048576: NARROWER than '..Said'. Prove '..Said' where nothing that the law and all that it calls make is longer than what came in: it says more and counts as full. Else prove '..UptoSaid'. A law counts once. -/
mutual
def uptoBulk {H : Type} : DataW H → Nat
  | .lit (.string bytes) => bytes.length + 1
  | .lit _ => 1
  | .nil => 1
  | .ptr d => uptoBulk d + 1
  | .slice elems spare => uptoBulkAll elems + uptoBulkAll spare + 1
  | .agg parts => uptoBulkAll parts + 1
  | .iface _ d => uptoBulk d + 1
  | .map entries => uptoBulkEntries entries + 1
  | .held _ => 1
def uptoBulkAll {H : Type} : List (DataW H) → Nat
  | [] => 0
  | d :: r => uptoBulk d + uptoBulkAll r
def uptoBulkEntries {H : Type} : List (Lit × DataW H) → Nat
  | [] => 0
  | x :: r => uptoBulkEntry x + uptoBulkEntries r
def uptoBulkEntry {H : Type} : Lit × DataW H → Nat
  | (.string bytes, d) => bytes.length + uptoBulk d + 1
  | (_, d) => uptoBulk d + 1
 end
def uptoSmall : (H : Type) → List (DataW H) → Bool := fun _ ds => decide (uptoBulkAll ds ≤ 1048576)
def OpenSpec.upto (s : _root_.Go.ChangeSpec) : _root_.Go.OpenSpec := { _root_.Go.OpenSpec.ofChange s with cond := some uptoSmall }

/-- 'scullerlaw16.PartOrder', WHERE WHAT IT READS IS OF BULK AT MOST 1048576: true; the input reads as it did. -/
def partOrderUptoRow : OpenClaim := { program := "ytifhcfhdajkhlaa", sum := "d496dc9944dae358748e0480b53c2c6a50146fe01c90c5494b415a24193cd057", func := "sculler/scullerlaw16.PartOrder", spec := "partOrder", unfollowed := true, recurses := true, apart := false, narrowed := true }
def PartOrderUptoSaid : Prop := partOrderUptoRow.holds Try.pinned (OpenSpec.upto partOrderSpec)

/-- 'scullerlaw16.PartStays', WHERE WHAT IT READS IS OF BULK AT MOST 1048576: true; the input reads as it did. -/
def partStaysUptoRow : OpenClaim := { program := "ytifhcfhdajkhlaa", sum := "d496dc9944dae358748e0480b53c2c6a50146fe01c90c5494b415a24193cd057", func := "sculler/scullerlaw16.PartStays", spec := "partStays", unfollowed := true, recurses := true, apart := false, narrowed := true }
def PartStaysUptoSaid : Prop := partStaysUptoRow.holds Try.pinned (OpenSpec.upto partStaysSpec)

/-- 'scullerlaw16.PartWhole', WHERE WHAT IT READS IS OF BULK AT MOST 1048576: true; the input reads as it did. -/
def partWholeUptoRow : OpenClaim := { program := "ytifhcfhdajkhlaa", sum := "d496dc9944dae358748e0480b53c2c6a50146fe01c90c5494b415a24193cd057", func := "sculler/scullerlaw16.PartWhole", spec := "partWhole", unfollowed := true, recurses := true, apart := false, narrowed := true }
def PartWholeUptoSaid : Prop := partWholeUptoRow.holds Try.pinned (OpenSpec.upto partWholeSpec)

/-- 'scullerlaw16.PartSpoil', WHERE WHAT IT READS IS OF BULK AT MOST 1048576: true; the input reads as it did. -/
def partSpoilUptoRow : OpenClaim := { program := "ytifhcfhdajkhlaa", sum := "d496dc9944dae358748e0480b53c2c6a50146fe01c90c5494b415a24193cd057", func := "sculler/scullerlaw16.PartSpoil", spec := "partSpoil", unfollowed := true, recurses := true, apart := false, narrowed := true }
def PartSpoilUptoSaid : Prop := partSpoilUptoRow.holds Try.pinned (OpenSpec.upto partSpoilSpec)

end Rows
end Go.Proofs.Ytifhcfhdajkhlaa
