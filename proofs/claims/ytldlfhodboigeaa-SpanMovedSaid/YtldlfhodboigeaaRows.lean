/-
  No cell of these rows narrows 'for every input' (looked for: loops, veiled, ifaces, maps, wideKeys, modest, calm, conditions, laid).
  DERIVED. THE GIVEN ROWS OF THIS SEAT. 7 by the template 'for every input the law returns true; each argument reads behind the call as it read before'; 0 by the template 'total and deterministic' (their statements: YtldlfhodboigeaaTotals.lean).
  GIVEN WITH THE SEED: the statements are not yours to turn. If you find one false, say at which input.
  Laid BY PROGRAM, IN A SANDBOX (cutbox-rows.mjs): the forced cells as the released guide's own fill.sh prints them over the translation 5611d4b7d3b75e27… (all of the seat's roots in one cut). By AI agents, Wed Nov 11 2026. No macro, syntax, notation, axiom, sorry.
-/
import Derived.Test.YtldlfhodboigeaaChecked
import GoSem.Claim
import GoSem.ClaimJoined
import GoSem.ClaimMapViews
import Derived.JoinedTies
import Derived.KernelRfl
namespace Go.Proofs.Ytldlfhodboigeaa
/- THE CELL 'sum', in the pinned program and in every row, IS THE sha256 OF THE DUMP (.gsa) THAT YtldlfhodboigeaaProg.lean LOADS. Nothing in Lean hashes anything: it is a label: what it is worth is what the hold of that sum in a sandbox is worth. -/
noncomputable def Try.pinned : Pinned := { name := "ytldlfhodboigeaa", sum := "5611d4b7d3b75e2758e9f6720f7851c786c02d02d7605bab987dd00938b29910", checked := Try.checked }
namespace Rows
def none {H : Type} : Left H := { results := [], args := [] }

/-- 'scullerlaw04.SpanMoved': WHATEVER THE INPUT: true; the input reads as it did. -/
def spanMovedSpec : ChangeSpec := { name := "spanMoved", fn := fun _ => fun
  | [d1, d2] => { results := [.lit (.bool true)], args := [d1, d2] }
  | _ => none }
def spanMovedRow : OpenClaim := { program := "ytldlfhodboigeaa", sum := "5611d4b7d3b75e2758e9f6720f7851c786c02d02d7605bab987dd00938b29910", func := "sculler/scullerlaw04.SpanMoved", spec := "spanMoved", unfollowed := true, recurses := true, apart := false }
def SpanMovedSaid : Prop := spanMovedRow.holds Try.pinned (OpenSpec.ofChange spanMovedSpec)

/-- ITS FALSE NEIGHBOUR: 'it returns false'. Refute it at one input. -/
def spanMovedWrong : ChangeSpec := { name := "spanMoved", fn := fun _ => fun
  | [d1, d2] => { results := [.lit (.bool false)], args := [d1, d2] }
  | _ => none }
def SpanMovedWrongFalsely : Prop := spanMovedRow.holds Try.pinned (OpenSpec.ofChange spanMovedWrong)

/-- 'scullerlaw04.SpanGrows': WHATEVER THE INPUT: true; the input reads as it did. -/
def spanGrowsSpec : ChangeSpec := { name := "spanGrows", fn := fun _ => fun
  | [d1, d2, d3] => { results := [.lit (.bool true)], args := [d1, d2, d3] }
  | _ => none }
def spanGrowsRow : OpenClaim := { program := "ytldlfhodboigeaa", sum := "5611d4b7d3b75e2758e9f6720f7851c786c02d02d7605bab987dd00938b29910", func := "sculler/scullerlaw04.SpanGrows", spec := "spanGrows", unfollowed := true, recurses := true, apart := false }
def SpanGrowsSaid : Prop := spanGrowsRow.holds Try.pinned (OpenSpec.ofChange spanGrowsSpec)

/-- ITS FALSE NEIGHBOUR: 'it returns false'. Refute it at one input. -/
def spanGrowsWrong : ChangeSpec := { name := "spanGrows", fn := fun _ => fun
  | [d1, d2, d3] => { results := [.lit (.bool false)], args := [d1, d2, d3] }
  | _ => none }
def SpanGrowsWrongFalsely : Prop := spanGrowsRow.holds Try.pinned (OpenSpec.ofChange spanGrowsWrong)

/-- 'scullerlaw04.SpanBack': WHATEVER THE INPUT: true; the input reads as it did. -/
def spanBackSpec : ChangeSpec := { name := "spanBack", fn := fun _ => fun
  | [d1, d2, d3] => { results := [.lit (.bool true)], args := [d1, d2, d3] }
  | _ => none }
def spanBackRow : OpenClaim := { program := "ytldlfhodboigeaa", sum := "5611d4b7d3b75e2758e9f6720f7851c786c02d02d7605bab987dd00938b29910", func := "sculler/scullerlaw04.SpanBack", spec := "spanBack", unfollowed := true, recurses := true, apart := false }
def SpanBackSaid : Prop := spanBackRow.holds Try.pinned (OpenSpec.ofChange spanBackSpec)

/-- ITS FALSE NEIGHBOUR: 'it returns false'. Refute it at one input. -/
def spanBackWrong : ChangeSpec := { name := "spanBack", fn := fun _ => fun
  | [d1, d2, d3] => { results := [.lit (.bool false)], args := [d1, d2, d3] }
  | _ => none }
def SpanBackWrongFalsely : Prop := spanBackRow.holds Try.pinned (OpenSpec.ofChange spanBackWrong)

/-- 'scullerlaw04.SpanOrder': WHATEVER THE INPUT: true; the input reads as it did. -/
def spanOrderSpec : ChangeSpec := { name := "spanOrder", fn := fun _ => fun
  | [d1, d2] => { results := [.lit (.bool true)], args := [d1, d2] }
  | _ => none }
def spanOrderRow : OpenClaim := { program := "ytldlfhodboigeaa", sum := "5611d4b7d3b75e2758e9f6720f7851c786c02d02d7605bab987dd00938b29910", func := "sculler/scullerlaw04.SpanOrder", spec := "spanOrder", unfollowed := true, recurses := true, apart := false }
def SpanOrderSaid : Prop := spanOrderRow.holds Try.pinned (OpenSpec.ofChange spanOrderSpec)

/-- ITS FALSE NEIGHBOUR: 'it returns false'. Refute it at one input. -/
def spanOrderWrong : ChangeSpec := { name := "spanOrder", fn := fun _ => fun
  | [d1, d2] => { results := [.lit (.bool false)], args := [d1, d2] }
  | _ => none }
def SpanOrderWrongFalsely : Prop := spanOrderRow.holds Try.pinned (OpenSpec.ofChange spanOrderWrong)

/-- 'scullerlaw04.SpanPlaces': WHATEVER THE INPUT: true; the input reads as it did. -/
def spanPlacesSpec : ChangeSpec := { name := "spanPlaces", fn := fun _ => fun
  | [d1, d2, d3, d4] => { results := [.lit (.bool true)], args := [d1, d2, d3, d4] }
  | _ => none }
def spanPlacesRow : OpenClaim := { program := "ytldlfhodboigeaa", sum := "5611d4b7d3b75e2758e9f6720f7851c786c02d02d7605bab987dd00938b29910", func := "sculler/scullerlaw04.SpanPlaces", spec := "spanPlaces", unfollowed := true, recurses := true, apart := false }
def SpanPlacesSaid : Prop := spanPlacesRow.holds Try.pinned (OpenSpec.ofChange spanPlacesSpec)

/-- ITS FALSE NEIGHBOUR: 'it returns false'. Refute it at one input. -/
def spanPlacesWrong : ChangeSpec := { name := "spanPlaces", fn := fun _ => fun
  | [d1, d2, d3, d4] => { results := [.lit (.bool false)], args := [d1, d2, d3, d4] }
  | _ => none }
def SpanPlacesWrongFalsely : Prop := spanPlacesRow.holds Try.pinned (OpenSpec.ofChange spanPlacesWrong)

/-- 'scullerlaw04.SpanNorms': WHATEVER THE INPUT: true; the input reads as it did. -/
def spanNormsSpec : ChangeSpec := { name := "spanNorms", fn := fun _ => fun
  | [d1, d2, d3, d4, d5] => { results := [.lit (.bool true)], args := [d1, d2, d3, d4, d5] }
  | _ => none }
def spanNormsRow : OpenClaim := { program := "ytldlfhodboigeaa", sum := "5611d4b7d3b75e2758e9f6720f7851c786c02d02d7605bab987dd00938b29910", func := "sculler/scullerlaw04.SpanNorms", spec := "spanNorms", unfollowed := true, recurses := true, apart := false }
def SpanNormsSaid : Prop := spanNormsRow.holds Try.pinned (OpenSpec.ofChange spanNormsSpec)

/-- ITS FALSE NEIGHBOUR: 'it returns false'. Refute it at one input. -/
def spanNormsWrong : ChangeSpec := { name := "spanNorms", fn := fun _ => fun
  | [d1, d2, d3, d4, d5] => { results := [.lit (.bool false)], args := [d1, d2, d3, d4, d5] }
  | _ => none }
def SpanNormsWrongFalsely : Prop := spanNormsRow.holds Try.pinned (OpenSpec.ofChange spanNormsWrong)

/-- 'scullerlaw04.SpanBits': WHATEVER THE INPUT: true; the input reads as it did. -/
def spanBitsSpec : ChangeSpec := { name := "spanBits", fn := fun _ => fun
  | [d1, d2] => { results := [.lit (.bool true)], args := [d1, d2] }
  | _ => none }
def spanBitsRow : OpenClaim := { program := "ytldlfhodboigeaa", sum := "5611d4b7d3b75e2758e9f6720f7851c786c02d02d7605bab987dd00938b29910", func := "sculler/scullerlaw04.SpanBits", spec := "spanBits", unfollowed := true, recurses := true, apart := false }
def SpanBitsSaid : Prop := spanBitsRow.holds Try.pinned (OpenSpec.ofChange spanBitsSpec)

/-- ITS FALSE NEIGHBOUR: 'it returns false'. Refute it at one input. -/
def spanBitsWrong : ChangeSpec := { name := "spanBits", fn := fun _ => fun
  | [d1, d2] => { results := [.lit (.bool false)], args := [d1, d2] }
  | _ => none }
def SpanBitsWrongFalsely : Prop := spanBitsRow.holds Try.pinned (OpenSpec.ofChange spanBitsWrong)

/- THE SECOND FORM. 'bulk': how many values and letters a reading holds, each counted each time it is reached (what is shared counts as often as it is met; a slice's spare places count too). A statement '..UptoSaid' is the law's where the arguments, and the package variables that the reading takes, are together of bulk at most 1048576: NARROWER than '..Said'. Prove '..Said' where nothing that the law and all that it calls make is longer than what came in: it says more and counts as full. Else prove '..UptoSaid'. A law counts once. -/
mutual
def uptoBulk {H : Type} : DataW H → Nat
  | .lit (.string bytes) => bytes.length + 1
  | .lit _ => 1
  | .nil => 1
  | .ptr d => uptoBulk d + 1
  | .slice elems spare => uptoBulkAll elems + uptoBulkAll spare + 1
  | .agg parts => uptoBulkAll parts + 1
  | .iface _ d => uptoBulk d + 1
  | .map entries => uptoBulkEntries entries + 1
  | .held _ => 1
def uptoBulkAll {H : Type} : List (DataW H) → Nat
  | [] => 0
  | d :: r => uptoBulk d + uptoBulkAll r
def uptoBulkEntries {H : Type} : List (Lit × DataW H) → Nat
  | [] => 0
  | x :: r => uptoBulkEntry x + uptoBulkEntries r
def uptoBulkEntry {H : Type} : Lit × DataW H → Nat
  | (.string bytes, d) => bytes.length + uptoBulk d + 1
  | (_, d) => uptoBulk d + 1
 end
def uptoSmall : (H : Type) → List (DataW H) → Bool := fun _ ds => decide (uptoBulkAll ds ≤ 1048576)
def OpenSpec.upto (s : _root_.Go.ChangeSpec) : _root_.Go.OpenSpec := { _root_.Go.OpenSpec.ofChange s with cond := some uptoSmall }

/-- 'scullerlaw04.SpanMoved', WHERE WHAT IT READS IS OF BULK AT MOST 1048576: true; the input reads as it did. -/
def spanMovedUptoRow : OpenClaim := { program := "ytldlfhodboigeaa", sum := "5611d4b7d3b75e2758e9f6720f7851c786c02d02d7605bab987dd00938b29910", func := "sculler/scullerlaw04.SpanMoved", spec := "spanMoved", unfollowed := true, recurses := true, apart := false, narrowed := true }
def SpanMovedUptoSaid : Prop := spanMovedUptoRow.holds Try.pinned (OpenSpec.upto spanMovedSpec)

/-- 'scullerlaw04.SpanGrows', WHERE WHAT IT READS IS OF BULK AT MOST 1048576: true; the input reads as it did. -/
def spanGrowsUptoRow : OpenClaim := { program := "ytldlfhodboigeaa", sum := "5611d4b7d3b75e2758e9f6720f7851c786c02d02d7605bab987dd00938b29910", func := "sculler/scullerlaw04.SpanGrows", spec := "spanGrows", unfollowed := true, recurses := true, apart := false, narrowed := true }
def SpanGrowsUptoSaid : Prop := spanGrowsUptoRow.holds Try.pinned (OpenSpec.upto spanGrowsSpec)

/-- 'scullerlaw04.SpanBack', WHERE WHAT IT READS IS OF BULK AT MOST 1048576: true; the input reads as it did. -/
def spanBackUptoRow : OpenClaim := { program := "ytldlfhodboigeaa", sum := "5611d4b7d3b75e2758e9f6720f7851c786c02d02d7605bab987dd00938b29910", func := "sculler/scullerlaw04.SpanBack", spec := "spanBack", unfollowed := true, recurses := true, apart := false, narrowed := true }
def SpanBackUptoSaid : Prop := spanBackUptoRow.holds Try.pinned (OpenSpec.upto spanBackSpec)

/-- 'scullerlaw04.SpanOrder', WHERE WHAT IT READS IS OF BULK AT MOST 1048576: true; the input reads as it did. -/
def spanOrderUptoRow : OpenClaim := { program := "ytldlfhodboigeaa", sum := "5611d4b7d3b75e2758e9f6720f7851c786c02d02d7605bab987dd00938b29910", func := "sculler/scullerlaw04.SpanOrder", spec := "spanOrder", unfollowed := true, recurses := true, apart := false, narrowed := true }
def SpanOrderUptoSaid : Prop := spanOrderUptoRow.holds Try.pinned (OpenSpec.upto spanOrderSpec)

/-- 'scullerlaw04.SpanPlaces', WHERE WHAT IT READS IS OF BULK AT MOST 1048576: true; the input reads as it did. -/
def spanPlacesUptoRow : OpenClaim := { program := "ytldlfhodboigeaa", sum := "5611d4b7d3b75e2758e9f6720f7851c786c02d02d7605bab987dd00938b29910", func := "sculler/scullerlaw04.SpanPlaces", spec := "spanPlaces", unfollowed := true, recurses := true, apart := false, narrowed := true }
def SpanPlacesUptoSaid : Prop := spanPlacesUptoRow.holds Try.pinned (OpenSpec.upto spanPlacesSpec)

/-- 'scullerlaw04.SpanNorms', WHERE WHAT IT READS IS OF BULK AT MOST 1048576: true; the input reads as it did. -/
def spanNormsUptoRow : OpenClaim := { program := "ytldlfhodboigeaa", sum := "5611d4b7d3b75e2758e9f6720f7851c786c02d02d7605bab987dd00938b29910", func := "sculler/scullerlaw04.SpanNorms", spec := "spanNorms", unfollowed := true, recurses := true, apart := false, narrowed := true }
def SpanNormsUptoSaid : Prop := spanNormsUptoRow.holds Try.pinned (OpenSpec.upto spanNormsSpec)

/-- 'scullerlaw04.SpanBits', WHERE WHAT IT READS IS OF BULK AT MOST 1048576: true; the input reads as it did. -/
def spanBitsUptoRow : OpenClaim := { program := "ytldlfhodboigeaa", sum := "5611d4b7d3b75e2758e9f6720f7851c786c02d02d7605bab987dd00938b29910", func := "sculler/scullerlaw04.SpanBits", spec := "spanBits", unfollowed := true, recurses := true, apart := false, narrowed := true }
def SpanBitsUptoSaid : Prop := spanBitsUptoRow.holds Try.pinned (OpenSpec.upto spanBitsSpec)

end Rows
end Go.Proofs.Ytldlfhodboigeaa
