/-
  No cell of these rows narrows 'for every input' (looked for: loops, veiled, ifaces, maps, wideKeys, modest, calm, conditions, laid).
  DERIVED. THE GIVEN ROWS OF THIS SEAT. 6 by the template 'for every input the law returns true; each argument reads behind the call as it read before'; 0 by the template 'total and deterministic' (their statements: YtkkbbhpbcfcplaaGreatTotals.lean).
  GIVEN WITH THE SEED: the statements are not yours to turn. If you find one false, say at which input.
  Laid BY PROGRAM, IN A SANDBOX (cutbox-rows.mjs): the forced cells as the released guide's own fill.sh prints them over the translation 50687d141b0bac5e… (all of the seat's roots in one cut). By AI agents, Wed Nov 11 2026. No macro, syntax, notation, axiom, sorry.
-/
import Derived.Test.YtkkbbhpbcfcplaaGreatChecked
import GoSem.Claim
import GoSem.ClaimJoined
import GoSem.ClaimMapViews
import Derived.JoinedTies
import Derived.KernelRfl
namespace Go.Proofs.YtkkbbhpbcfcplaaGreat
/- THE CELL 'sum', in the pinned program and in every row, IS THE sha256 OF THE DUMP (.gsa) THAT YtkkbbhpbcfcplaaGreatProg.lean LOADS. Nothing in Lean hashes anything: it is a label: what it is worth is what the hold of that sum in a sandbox is worth. -/
noncomputable def Tryz.pinned : Pinned := { name := "ytkkbbhpbcfcplaagreat", sum := "50687d141b0bac5e5420ac4418aca80eb5dfb3a3655b2294684908e854b0be1e", checked := Tryz.checked }
namespace Rows
def none {H : Type} : Left H := { results := [], args := [] }

/-- 'scullerlaw11.ValidSuffices': WHATEVER THE INPUT: true; the input reads as it did. -/
def validSufficesSpec : ChangeSpec := { name := "validSuffices", fn := fun _ => fun
  | [d1, d2, d3, d4, d5] => { results := [.lit (.bool true)], args := [d1, d2, d3, d4, d5] }
  | _ => none }
def validSufficesRow : OpenClaim := { program := "ytkkbbhpbcfcplaagreat", sum := "50687d141b0bac5e5420ac4418aca80eb5dfb3a3655b2294684908e854b0be1e", func := "sculler/scullerlaw11.ValidSuffices", spec := "validSuffices", unfollowed := true, recurses := true, apart := false }
def ValidSufficesSaid : Prop := validSufficesRow.holds Tryz.pinned (OpenSpec.ofChange validSufficesSpec)

/-- ITS FALSE NEIGHBOUR: 'it returns false'. Refute it at one input. -/
def validSufficesWrong : ChangeSpec := { name := "validSuffices", fn := fun _ => fun
  | [d1, d2, d3, d4, d5] => { results := [.lit (.bool false)], args := [d1, d2, d3, d4, d5] }
  | _ => none }
def ValidSufficesWrongFalsely : Prop := validSufficesRow.holds Tryz.pinned (OpenSpec.ofChange validSufficesWrong)

/-- 'scullerlaw11.ValidWhole': WHATEVER THE INPUT: true; the input reads as it did. -/
def validWholeSpec : ChangeSpec := { name := "validWhole", fn := fun _ => fun
  | [d1, d2, d3, d4] => { results := [.lit (.bool true)], args := [d1, d2, d3, d4] }
  | _ => none }
def validWholeRow : OpenClaim := { program := "ytkkbbhpbcfcplaagreat", sum := "50687d141b0bac5e5420ac4418aca80eb5dfb3a3655b2294684908e854b0be1e", func := "sculler/scullerlaw11.ValidWhole", spec := "validWhole", unfollowed := true, recurses := true, apart := false }
def ValidWholeSaid : Prop := validWholeRow.holds Tryz.pinned (OpenSpec.ofChange validWholeSpec)

/-- ITS FALSE NEIGHBOUR: 'it returns false'. Refute it at one input. -/
def validWholeWrong : ChangeSpec := { name := "validWhole", fn := fun _ => fun
  | [d1, d2, d3, d4] => { results := [.lit (.bool false)], args := [d1, d2, d3, d4] }
  | _ => none }
def ValidWholeWrongFalsely : Prop := validWholeRow.holds Tryz.pinned (OpenSpec.ofChange validWholeWrong)

/-- 'scullerlaw11.ValidParts': WHATEVER THE INPUT: true; the input reads as it did. -/
def validPartsSpec : ChangeSpec := { name := "validParts", fn := fun _ => fun
  | [d1, d2, d3] => { results := [.lit (.bool true)], args := [d1, d2, d3] }
  | _ => none }
def validPartsRow : OpenClaim := { program := "ytkkbbhpbcfcplaagreat", sum := "50687d141b0bac5e5420ac4418aca80eb5dfb3a3655b2294684908e854b0be1e", func := "sculler/scullerlaw11.ValidParts", spec := "validParts", unfollowed := true, recurses := true, apart := false }
def ValidPartsSaid : Prop := validPartsRow.holds Tryz.pinned (OpenSpec.ofChange validPartsSpec)

/-- ITS FALSE NEIGHBOUR: 'it returns false'. Refute it at one input. -/
def validPartsWrong : ChangeSpec := { name := "validParts", fn := fun _ => fun
  | [d1, d2, d3] => { results := [.lit (.bool false)], args := [d1, d2, d3] }
  | _ => none }
def ValidPartsWrongFalsely : Prop := validPartsRow.holds Tryz.pinned (OpenSpec.ofChange validPartsWrong)

/-- 'scullerlaw11.ValidTouch': WHATEVER THE INPUT: true; the input reads as it did. -/
def validTouchSpec : ChangeSpec := { name := "validTouch", fn := fun _ => fun
  | [d1, d2, d3, d4] => { results := [.lit (.bool true)], args := [d1, d2, d3, d4] }
  | _ => none }
def validTouchRow : OpenClaim := { program := "ytkkbbhpbcfcplaagreat", sum := "50687d141b0bac5e5420ac4418aca80eb5dfb3a3655b2294684908e854b0be1e", func := "sculler/scullerlaw11.ValidTouch", spec := "validTouch", unfollowed := true, recurses := true, apart := false }
def ValidTouchSaid : Prop := validTouchRow.holds Tryz.pinned (OpenSpec.ofChange validTouchSpec)

/-- ITS FALSE NEIGHBOUR: 'it returns false'. Refute it at one input. -/
def validTouchWrong : ChangeSpec := { name := "validTouch", fn := fun _ => fun
  | [d1, d2, d3, d4] => { results := [.lit (.bool false)], args := [d1, d2, d3, d4] }
  | _ => none }
def ValidTouchWrongFalsely : Prop := validTouchRow.holds Tryz.pinned (OpenSpec.ofChange validTouchWrong)

/-- 'scullerlaw11.ValidChecks': WHATEVER THE INPUT: true; the input reads as it did. -/
def validChecksSpec : ChangeSpec := { name := "validChecks", fn := fun _ => fun
  | [d1, d2, d3, d4, d5] => { results := [.lit (.bool true)], args := [d1, d2, d3, d4, d5] }
  | _ => none }
def validChecksRow : OpenClaim := { program := "ytkkbbhpbcfcplaagreat", sum := "50687d141b0bac5e5420ac4418aca80eb5dfb3a3655b2294684908e854b0be1e", func := "sculler/scullerlaw11.ValidChecks", spec := "validChecks", unfollowed := true, recurses := true, apart := false }
def ValidChecksSaid : Prop := validChecksRow.holds Tryz.pinned (OpenSpec.ofChange validChecksSpec)

/-- ITS FALSE NEIGHBOUR: 'it returns false'. Refute it at one input. -/
def validChecksWrong : ChangeSpec := { name := "validChecks", fn := fun _ => fun
  | [d1, d2, d3, d4, d5] => { results := [.lit (.bool false)], args := [d1, d2, d3, d4, d5] }
  | _ => none }
def ValidChecksWrongFalsely : Prop := validChecksRow.holds Tryz.pinned (OpenSpec.ofChange validChecksWrong)

/-- 'scullerlaw11.ValidCanon': WHATEVER THE INPUT: true; the input reads as it did. -/
def validCanonSpec : ChangeSpec := { name := "validCanon", fn := fun _ => fun
  | [d1, d2, d3] => { results := [.lit (.bool true)], args := [d1, d2, d3] }
  | _ => none }
def validCanonRow : OpenClaim := { program := "ytkkbbhpbcfcplaagreat", sum := "50687d141b0bac5e5420ac4418aca80eb5dfb3a3655b2294684908e854b0be1e", func := "sculler/scullerlaw11.ValidCanon", spec := "validCanon", unfollowed := true, recurses := true, apart := false }
def ValidCanonSaid : Prop := validCanonRow.holds Tryz.pinned (OpenSpec.ofChange validCanonSpec)

/-- ITS FALSE NEIGHBOUR: 'it returns false'. Refute it at one input. -/
def validCanonWrong : ChangeSpec := { name := "validCanon", fn := fun _ => fun
  | [d1, d2, d3] => { results := [.lit (.bool false)], args := [d1, d2, d3] }
  | _ => none }
def ValidCanonWrongFalsely : Prop := validCanonRow.holds Tryz.pinned (OpenSpec.ofChange validCanonWrong)

/- THE SECOND FORM. 'bulk': how many values and letters a reading holds, each counted each time it is reached (what is shared counts as often as it is met; a slice's spare places count too). A statement '..UptoSaid' is the law's where the arguments, and the package variables that the reading takes, are together of bulk at most 1048576: NARROWER than '..Said'. Prove '..Said' where nothing that the law and all that it calls make is longer than what came in: it says more and counts as full. Else prove '..UptoSaid'. A law counts once. -/
mutual
def uptoBulk {H : Type} : DataW H → Nat
  | .lit (.string bytes) => bytes.length + 1
  | .lit _ => 1
  | .nil => 1
  | .ptr d => uptoBulk d + 1
  | .slice elems spare => uptoBulkAll elems + uptoBulkAll spare + 1
  | .agg parts => uptoBulkAll parts + 1
  | .iface _ d => uptoBulk d + 1
  | .map entries => uptoBulkEntries entries + 1
  | .held _ => 1
def uptoBulkAll {H : Type} : List (DataW H) → Nat
  | [] => 0
  | d :: r => uptoBulk d + uptoBulkAll r
def uptoBulkEntries {H : Type} : List (Lit × DataW H) → Nat
  | [] => 0
  | x :: r => uptoBulkEntry x + uptoBulkEntries r
def uptoBulkEntry {H : Type} : Lit × DataW H → Nat
  | (.string bytes, d) => bytes.length + uptoBulk d + 1
  | (_, d) => uptoBulk d + 1
 end
def uptoSmall : (H : Type) → List (DataW H) → Bool := fun _ ds => decide (uptoBulkAll ds ≤ 1048576)
def OpenSpec.upto (s : _root_.Go.ChangeSpec) : _root_.Go.OpenSpec := { _root_.Go.OpenSpec.ofChange s with cond := some uptoSmall }

/-- 'scullerlaw11.ValidSuffices', WHERE WHAT IT READS IS OF BULK AT MOST 1048576: true; the input reads as it did. -/
def validSufficesUptoRow : OpenClaim := { program := "ytkkbbhpbcfcplaagreat", sum := "50687d141b0bac5e5420ac4418aca80eb5dfb3a3655b2294684908e854b0be1e", func := "sculler/scullerlaw11.ValidSuffices", spec := "validSuffices", unfollowed := true, recurses := true, apart := false, narrowed := true }
def ValidSufficesUptoSaid : Prop := validSufficesUptoRow.holds Tryz.pinned (OpenSpec.upto validSufficesSpec)

/-- 'scullerlaw11.ValidWhole', WHERE WHAT IT READS IS OF BULK AT MOST 1048576: true; the input reads as it did. -/
def validWholeUptoRow : OpenClaim := { program := "ytkkbbhpbcfcplaagreat", sum := "50687d141b0bac5e5420ac4418aca80eb5dfb3a3655b2294684908e854b0be1e", func := "sculler/scullerlaw11.ValidWhole", spec := "validWhole", unfollowed := true, recurses := true, apart := false, narrowed := true }
def ValidWholeUptoSaid : Prop := validWholeUptoRow.holds Tryz.pinned (OpenSpec.upto validWholeSpec)

/-- 'scullerlaw11.ValidParts', WHERE WHAT IT READS IS OF BULK AT MOST 1048576: true; the input reads as it did. -/
def validPartsUptoRow : OpenClaim := { program := "ytkkbbhpbcfcplaagreat", sum := "50687d141b0bac5e5420ac4418aca80eb5dfb3a3655b2294684908e854b0be1e", func := "sculler/scullerlaw11.ValidParts", spec := "validParts", unfollowed := true, recurses := true, apart := false, narrowed := true }
def ValidPartsUptoSaid : Prop := validPartsUptoRow.holds Tryz.pinned (OpenSpec.upto validPartsSpec)

/-- 'scullerlaw11.ValidTouch', WHERE WHAT IT READS IS OF BULK AT MOST 1048576: true; the input reads as it did. -/
def validTouchUptoRow : OpenClaim := { program := "ytkkbbhpbcfcplaagreat", sum := "50687d141b0bac5e5420ac4418aca80eb5dfb3a3655b2294684908e854b0be1e", func := "sculler/scullerlaw11.ValidTouch", spec := "validTouch", unfollowed := true, recurses := true, apart := false, narrowed := true }
def ValidTouchUptoSaid : Prop := validTouchUptoRow.holds Tryz.pinned (OpenSpec.upto validTouchSpec)

/-- 'scullerlaw11.ValidChecks', WHERE WHAT IT READS IS OF BULK AT MOST 1048576: true; the input reads as it did. -/
def validChecksUptoRow : OpenClaim := { program := "ytkkbbhpbcfcplaagreat", sum := "50687d141b0bac5e5420ac4418aca80eb5dfb3a3655b2294684908e854b0be1e", func := "sculler/scullerlaw11.ValidChecks", spec := "validChecks", unfollowed := true, recurses := true, apart := false, narrowed := true }
def ValidChecksUptoSaid : Prop := validChecksUptoRow.holds Tryz.pinned (OpenSpec.upto validChecksSpec)

/-- 'scullerlaw11.ValidCanon', WHERE WHAT IT READS IS OF BULK AT MOST 1048576: true; the input reads as it did. -/
def validCanonUptoRow : OpenClaim := { program := "ytkkbbhpbcfcplaagreat", sum := "50687d141b0bac5e5420ac4418aca80eb5dfb3a3655b2294684908e854b0be1e", func := "sculler/scullerlaw11.ValidCanon", spec := "validCanon", unfollowed := true, recurses := true, apart := false, narrowed := true }
def ValidCanonUptoSaid : Prop := validCanonUptoRow.holds Tryz.pinned (OpenSpec.upto validCanonSpec)

end Rows
end Go.Proofs.YtkkbbhpbcfcplaaGreat
