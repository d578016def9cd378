/-
  No cell of these rows narrows 'for every input' (looked for: loops, veiled, ifaces, maps, wideKeys, modest, calm, conditions, laid).
  DERIVED. THE GIVEN ROWS OF THIS SEAT. 8 by the template 'for every input the law returns true; each argument reads behind the call as it read before'; 0 by the template 'total and deterministic' (their statements: YthmdagffhanagaaTotals.lean).
  GIVEN WITH THE SEED: the statements are not yours to turn. If you find one false, say at which input.
  Laid BY PROGRAM, IN A SANDBOX (cutbox-rows.mjs): the forced cells as the released guide's own fill.sh prints them over the translation 448b73bc0243ffea… (all of the seat's roots in one cut). By AI agents, Wed Nov 11 2026. No macro, syntax, notation, axiom, sorry.
-/
import Derived.Test.YthmdagffhanagaaChecked
import GoSem.Claim
import GoSem.ClaimJoined
import GoSem.ClaimMapViews
import Derived.JoinedTies
import Derived.KernelRfl
namespace Go.Proofs.Ythmdagffhanagaa
/- THE CELL 'sum', in the pinned program and in every row, IS THE sha256 OF THE DUMP (.gsa) THAT YthmdagffhanagaaProg.lean LOADS. Nothing in Lean hashes anything: it is a label: what it is worth is what the hold of that sum in a sandbox is worth. -/
noncomputable def Try.pinned : Pinned := { name := "ythmdagffhanagaa", sum := "448b73bc0243ffea1ed09eec722bc5b18acf5880a9bff55cc68b3baa7e465e19", checked := Try.checked }
namespace Rows
def none {H : Type} : Left H := { results := [], args := [] }

/-- 'widgetrylaw18.BoxResolvesRaw': WHATEVER THE INPUT: true; the input reads as it did. -/
def boxResolvesRawSpec : ChangeSpec := { name := "boxResolvesRaw", fn := fun _ => fun
  | [d1, d2, d3] => { results := [.lit (.bool true)], args := [d1, d2, d3] }
  | _ => none }
def boxResolvesRawRow : OpenClaim := { program := "ythmdagffhanagaa", sum := "448b73bc0243ffea1ed09eec722bc5b18acf5880a9bff55cc68b3baa7e465e19", func := "widgetry/widgetrylaw18.BoxResolvesRaw", spec := "boxResolvesRaw", unfollowed := true, recurses := true, apart := false }
def BoxResolvesRawSaid : Prop := boxResolvesRawRow.holds Try.pinned (OpenSpec.ofChange boxResolvesRawSpec)

/-- ITS FALSE NEIGHBOUR: 'it returns false'. Refute it at one input. -/
def boxResolvesRawWrong : ChangeSpec := { name := "boxResolvesRaw", fn := fun _ => fun
  | [d1, d2, d3] => { results := [.lit (.bool false)], args := [d1, d2, d3] }
  | _ => none }
def BoxResolvesRawWrongFalsely : Prop := boxResolvesRawRow.holds Try.pinned (OpenSpec.ofChange boxResolvesRawWrong)

/-- 'widgetrylaw18.BoxResolves': WHATEVER THE INPUT: true; the input reads as it did. -/
def boxResolvesSpec : ChangeSpec := { name := "boxResolves", fn := fun _ => fun
  | [d] => { results := [.lit (.bool true)], args := [d] }
  | _ => none }
def boxResolvesRow : OpenClaim := { program := "ythmdagffhanagaa", sum := "448b73bc0243ffea1ed09eec722bc5b18acf5880a9bff55cc68b3baa7e465e19", func := "widgetry/widgetrylaw18.BoxResolves", spec := "boxResolves", unfollowed := true, recurses := true, apart := false }
def BoxResolvesSaid : Prop := boxResolvesRow.holds Try.pinned (OpenSpec.ofChange boxResolvesSpec)

/-- ITS FALSE NEIGHBOUR: 'it returns false'. Refute it at one input. -/
def boxResolvesWrong : ChangeSpec := { name := "boxResolves", fn := fun _ => fun
  | [d] => { results := [.lit (.bool false)], args := [d] }
  | _ => none }
def BoxResolvesWrongFalsely : Prop := boxResolvesRow.holds Try.pinned (OpenSpec.ofChange boxResolvesWrong)

/-- 'widgetrylaw18.BoxBounds': WHATEVER THE INPUT: true; the input reads as it did. -/
def boxBoundsSpec : ChangeSpec := { name := "boxBounds", fn := fun _ => fun
  | [d1, d2] => { results := [.lit (.bool true)], args := [d1, d2] }
  | _ => none }
def boxBoundsRow : OpenClaim := { program := "ythmdagffhanagaa", sum := "448b73bc0243ffea1ed09eec722bc5b18acf5880a9bff55cc68b3baa7e465e19", func := "widgetry/widgetrylaw18.BoxBounds", spec := "boxBounds", unfollowed := true, recurses := true, apart := false }
def BoxBoundsSaid : Prop := boxBoundsRow.holds Try.pinned (OpenSpec.ofChange boxBoundsSpec)

/-- ITS FALSE NEIGHBOUR: 'it returns false'. Refute it at one input. -/
def boxBoundsWrong : ChangeSpec := { name := "boxBounds", fn := fun _ => fun
  | [d1, d2] => { results := [.lit (.bool false)], args := [d1, d2] }
  | _ => none }
def BoxBoundsWrongFalsely : Prop := boxBoundsRow.holds Try.pinned (OpenSpec.ofChange boxBoundsWrong)

/-- 'widgetrylaw18.BoxFills': WHATEVER THE INPUT: true; the input reads as it did. -/
def boxFillsSpec : ChangeSpec := { name := "boxFills", fn := fun _ => fun
  | [d1, d2] => { results := [.lit (.bool true)], args := [d1, d2] }
  | _ => none }
def boxFillsRow : OpenClaim := { program := "ythmdagffhanagaa", sum := "448b73bc0243ffea1ed09eec722bc5b18acf5880a9bff55cc68b3baa7e465e19", func := "widgetry/widgetrylaw18.BoxFills", spec := "boxFills", unfollowed := true, recurses := true, apart := false }
def BoxFillsSaid : Prop := boxFillsRow.holds Try.pinned (OpenSpec.ofChange boxFillsSpec)

/-- ITS FALSE NEIGHBOUR: 'it returns false'. Refute it at one input. -/
def boxFillsWrong : ChangeSpec := { name := "boxFills", fn := fun _ => fun
  | [d1, d2] => { results := [.lit (.bool false)], args := [d1, d2] }
  | _ => none }
def BoxFillsWrongFalsely : Prop := boxFillsRow.holds Try.pinned (OpenSpec.ofChange boxFillsWrong)

/-- 'widgetrylaw18.BoxJustifies': WHATEVER THE INPUT: true; the input reads as it did. -/
def boxJustifiesSpec : ChangeSpec := { name := "boxJustifies", fn := fun _ => fun
  | [d1, d2] => { results := [.lit (.bool true)], args := [d1, d2] }
  | _ => none }
def boxJustifiesRow : OpenClaim := { program := "ythmdagffhanagaa", sum := "448b73bc0243ffea1ed09eec722bc5b18acf5880a9bff55cc68b3baa7e465e19", func := "widgetry/widgetrylaw18.BoxJustifies", spec := "boxJustifies", unfollowed := true, recurses := true, apart := false }
def BoxJustifiesSaid : Prop := boxJustifiesRow.holds Try.pinned (OpenSpec.ofChange boxJustifiesSpec)

/-- ITS FALSE NEIGHBOUR: 'it returns false'. Refute it at one input. -/
def boxJustifiesWrong : ChangeSpec := { name := "boxJustifies", fn := fun _ => fun
  | [d1, d2] => { results := [.lit (.bool false)], args := [d1, d2] }
  | _ => none }
def BoxJustifiesWrongFalsely : Prop := boxJustifiesRow.holds Try.pinned (OpenSpec.ofChange boxJustifiesWrong)

/-- 'widgetrylaw18.BoxBaselines': WHATEVER THE INPUT: true; the input reads as it did. -/
def boxBaselinesSpec : ChangeSpec := { name := "boxBaselines", fn := fun _ => fun
  | [d1, d2] => { results := [.lit (.bool true)], args := [d1, d2] }
  | _ => none }
def boxBaselinesRow : OpenClaim := { program := "ythmdagffhanagaa", sum := "448b73bc0243ffea1ed09eec722bc5b18acf5880a9bff55cc68b3baa7e465e19", func := "widgetry/widgetrylaw18.BoxBaselines", spec := "boxBaselines", unfollowed := true, recurses := true, apart := false }
def BoxBaselinesSaid : Prop := boxBaselinesRow.holds Try.pinned (OpenSpec.ofChange boxBaselinesSpec)

/-- ITS FALSE NEIGHBOUR: 'it returns false'. Refute it at one input. -/
def boxBaselinesWrong : ChangeSpec := { name := "boxBaselines", fn := fun _ => fun
  | [d1, d2] => { results := [.lit (.bool false)], args := [d1, d2] }
  | _ => none }
def BoxBaselinesWrongFalsely : Prop := boxBaselinesRow.holds Try.pinned (OpenSpec.ofChange boxBaselinesWrong)

/-- 'widgetrylaw18.BoxPlaces': WHATEVER THE INPUT: true; the input reads as it did. -/
def boxPlacesSpec : ChangeSpec := { name := "boxPlaces", fn := fun _ => fun
  | [d1, d2, d3, d4, d5] => { results := [.lit (.bool true)], args := [d1, d2, d3, d4, d5] }
  | _ => none }
def boxPlacesRow : OpenClaim := { program := "ythmdagffhanagaa", sum := "448b73bc0243ffea1ed09eec722bc5b18acf5880a9bff55cc68b3baa7e465e19", func := "widgetry/widgetrylaw18.BoxPlaces", spec := "boxPlaces", unfollowed := true, recurses := true, apart := false }
def BoxPlacesSaid : Prop := boxPlacesRow.holds Try.pinned (OpenSpec.ofChange boxPlacesSpec)

/-- ITS FALSE NEIGHBOUR: 'it returns false'. Refute it at one input. -/
def boxPlacesWrong : ChangeSpec := { name := "boxPlaces", fn := fun _ => fun
  | [d1, d2, d3, d4, d5] => { results := [.lit (.bool false)], args := [d1, d2, d3, d4, d5] }
  | _ => none }
def BoxPlacesWrongFalsely : Prop := boxPlacesRow.holds Try.pinned (OpenSpec.ofChange boxPlacesWrong)

/-- 'widgetrylaw18.BoxMirrors': WHATEVER THE INPUT: true; the input reads as it did. -/
def boxMirrorsSpec : ChangeSpec := { name := "boxMirrors", fn := fun _ => fun
  | [d1, d2, d3, d4, d5, d6] => { results := [.lit (.bool true)], args := [d1, d2, d3, d4, d5, d6] }
  | _ => none }
def boxMirrorsRow : OpenClaim := { program := "ythmdagffhanagaa", sum := "448b73bc0243ffea1ed09eec722bc5b18acf5880a9bff55cc68b3baa7e465e19", func := "widgetry/widgetrylaw18.BoxMirrors", spec := "boxMirrors", unfollowed := true, recurses := true, apart := false }
def BoxMirrorsSaid : Prop := boxMirrorsRow.holds Try.pinned (OpenSpec.ofChange boxMirrorsSpec)

/-- ITS FALSE NEIGHBOUR: 'it returns false'. Refute it at one input. -/
def boxMirrorsWrong : ChangeSpec := { name := "boxMirrors", fn := fun _ => fun
  | [d1, d2, d3, d4, d5, d6] => { results := [.lit (.bool false)], args := [d1, d2, d3, d4, d5, d6] }
  | _ => none }
def BoxMirrorsWrongFalsely : Prop := boxMirrorsRow.holds Try.pinned (OpenSpec.ofChange boxMirrorsWrong)

/- THE SECOND FORM. 'bulk': how many values and letters a reading holds, each counted each time it is reached (what is shared counts as often as it is met; a slice's spare places count too). A statement '..UptoSaid' is the law's where the arguments, and the package variables that the reading takes, are together of bulk at most 1048576: NARROWER than '..Said'. Prove '..Said' where nothing that the law and all that it calls make is longer than what came in: it says more and counts as full. Else prove '..UptoSaid'. A law counts once. -/
mutual
def uptoBulk {H : Type} : DataW H → Nat
  | .lit (.string bytes) => bytes.length + 1
  | .lit _ => 1
  | .nil => 1
  | .ptr d => uptoBulk d + 1
  | .slice elems spare => uptoBulkAll elems + uptoBulkAll spare + 1
  | .agg parts => uptoBulkAll parts + 1
  | .iface _ d => uptoBulk d + 1
  | .map entries => uptoBulkEntries entries + 1
  | .held _ => 1
def uptoBulkAll {H : Type} : List (DataW H) → Nat
  | [] => 0
  | d :: r => uptoBulk d + uptoBulkAll r
def uptoBulkEntries {H : Type} : List (Lit × DataW H) → Nat
  | [] => 0
  | x :: r => uptoBulkEntry x + uptoBulkEntries r
def uptoBulkEntry {H : Type} : Lit × DataW H → Nat
  | (.string bytes, d) => bytes.length + uptoBulk d + 1
  | (_, d) => uptoBulk d + 1
 end
def uptoSmall : (H : Type) → List (DataW H) → Bool := fun _ ds => decide (uptoBulkAll ds ≤ 1048576)
def OpenSpec.upto (s : _root_.Go.ChangeSpec) : _root_.Go.OpenSpec := { _root_.Go.OpenSpec.ofChange s with cond := some uptoSmall }

/-- 'widgetrylaw18.BoxResolvesRaw', WHERE WHAT IT READS IS OF BULK AT MOST 1048576: true; the input reads as it did. -/
def boxResolvesRawUptoRow : OpenClaim := { program := "ythmdagffhanagaa", sum := "448b73bc0243ffea1ed09eec722bc5b18acf5880a9bff55cc68b3baa7e465e19", func := "widgetry/widgetrylaw18.BoxResolvesRaw", spec := "boxResolvesRaw", unfollowed := true, recurses := true, apart := false, narrowed := true }
def BoxResolvesRawUptoSaid : Prop := boxResolvesRawUptoRow.holds Try.pinned (OpenSpec.upto boxResolvesRawSpec)

/-- 'widgetrylaw18.BoxResolves', WHERE WHAT IT READS IS OF BULK AT MOST 1048576: true; the input reads as it did. -/
def boxResolvesUptoRow : OpenClaim := { program := "ythmdagffhanagaa", sum := "448b73bc0243ffea1ed09eec722bc5b18acf5880a9bff55cc68b3baa7e465e19", func := "widgetry/widgetrylaw18.BoxResolves", spec := "boxResolves", unfollowed := true, recurses := true, apart := false, narrowed := true }
def BoxResolvesUptoSaid : Prop := boxResolvesUptoRow.holds Try.pinned (OpenSpec.upto boxResolvesSpec)

/-- 'widgetrylaw18.BoxBounds', WHERE WHAT IT READS IS OF BULK AT MOST 1048576: true; the input reads as it did. -/
def boxBoundsUptoRow : OpenClaim := { program := "ythmdagffhanagaa", sum := "448b73bc0243ffea1ed09eec722bc5b18acf5880a9bff55cc68b3baa7e465e19", func := "widgetry/widgetrylaw18.BoxBounds", spec := "boxBounds", unfollowed := true, recurses := true, apart := false, narrowed := true }
def BoxBoundsUptoSaid : Prop := boxBoundsUptoRow.holds Try.pinned (OpenSpec.upto boxBoundsSpec)

/-- 'widgetrylaw18.BoxFills', WHERE WHAT IT READS IS OF BULK AT MOST 1048576: true; the input reads as it did. -/
def boxFillsUptoRow : OpenClaim := { program := "ythmdagffhanagaa", sum := "448b73bc0243ffea1ed09eec722bc5b18acf5880a9bff55cc68b3baa7e465e19", func := "widgetry/widgetrylaw18.BoxFills", spec := "boxFills", unfollowed := true, recurses := true, apart := false, narrowed := true }
def BoxFillsUptoSaid : Prop := boxFillsUptoRow.holds Try.pinned (OpenSpec.upto boxFillsSpec)

/-- 'widgetrylaw18.BoxJustifies', WHERE WHAT IT READS IS OF BULK AT MOST 1048576: true; the input reads as it did. -/
def boxJustifiesUptoRow : OpenClaim := { program := "ythmdagffhanagaa", sum := "448b73bc0243ffea1ed09eec722bc5b18acf5880a9bff55cc68b3baa7e465e19", func := "widgetry/widgetrylaw18.BoxJustifies", spec := "boxJustifies", unfollowed := true, recurses := true, apart := false, narrowed := true }
def BoxJustifiesUptoSaid : Prop := boxJustifiesUptoRow.holds Try.pinned (OpenSpec.upto boxJustifiesSpec)

/-- 'widgetrylaw18.BoxBaselines', WHERE WHAT IT READS IS OF BULK AT MOST 1048576: true; the input reads as it did. -/
def boxBaselinesUptoRow : OpenClaim := { program := "ythmdagffhanagaa", sum := "448b73bc0243ffea1ed09eec722bc5b18acf5880a9bff55cc68b3baa7e465e19", func := "widgetry/widgetrylaw18.BoxBaselines", spec := "boxBaselines", unfollowed := true, recurses := true, apart := false, narrowed := true }
def BoxBaselinesUptoSaid : Prop := boxBaselinesUptoRow.holds Try.pinned (OpenSpec.upto boxBaselinesSpec)

/-- 'widgetrylaw18.BoxPlaces', WHERE WHAT IT READS IS OF BULK AT MOST 1048576: true; the input reads as it did. -/
def boxPlacesUptoRow : OpenClaim := { program := "ythmdagffhanagaa", sum := "448b73bc0243ffea1ed09eec722bc5b18acf5880a9bff55cc68b3baa7e465e19", func := "widgetry/widgetrylaw18.BoxPlaces", spec := "boxPlaces", unfollowed := true, recurses := true, apart := false, narrowed := true }
def BoxPlacesUptoSaid : Prop := boxPlacesUptoRow.holds Try.pinned (OpenSpec.upto boxPlacesSpec)

/-- 'widgetrylaw18.BoxMirrors', WHERE WHAT IT READS IS OF BULK AT MOST 1048576: true; the input reads as it did. -/
def boxMirrorsUptoRow : OpenClaim := { program := "ythmdagffhanagaa", sum := "448b73bc0243ffea1ed09eec722bc5b18acf5880a9bff55cc68b3baa7e465e19", func := "widgetry/widgetrylaw18.BoxMirrors", spec := "boxMirrors", unfollowed := true, recurses := true, apart := false, narrowed := true }
def BoxMirrorsUptoSaid : Prop := boxMirrorsUptoRow.holds Try.pinned (OpenSpec.upto boxMirrorsSpec)

end Rows
end Go.Proofs.Ythmdagffhanagaa
