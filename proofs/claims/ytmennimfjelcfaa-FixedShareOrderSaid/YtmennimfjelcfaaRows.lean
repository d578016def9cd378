/-
  No cell of these rows narrows 'for every input' (looked for: loops, veiled, ifaces, maps, wideKeys, modest, calm, conditions, laid).
  DERIVED. THE GIVEN ROWS OF THIS SEAT. 7 by the template 'for every input the law returns true; each argument reads behind the call as it read before'; 0 by the template 'total and deterministic' (their statements: YtmennimfjelcfaaTotals.lean).
  GIVEN WITH THE SEED: the statements are not yours to turn. If you find one false, say at which input.
  Laid BY PROGRAM, IN A SANDBOX (cutbox-rows.mjs): the forced cells as the released guide's own fill.sh prints them over the translation 1dac51010149d9c0… (all of the seat's roots in one cut). By AI agents, Wed Nov 11 2026. No macro, syntax, notation, axiom, sorry.
-/
import Derived.Test.YtmennimfjelcfaaChecked
import GoSem.Claim
import GoSem.ClaimJoined
import GoSem.ClaimMapViews
import Derived.JoinedTies
import Derived.KernelRfl
namespace Go.Proofs.Ytmennimfjelcfaa
/- THE CELL 'sum', in the pinned program and in every row, IS THE sha256 OF THE DUMP (.gsa) THAT YtmennimfjelcfaaProg.lean LOADS. Nothing in Lean hashes anything: it is a label: what it is worth is what the hold of that sum in a sandbox is worth. -/
noncomputable def Try.pinned : Pinned := { name := "ytmennimfjelcfaa", sum := "1dac51010149d9c059dab373c5d0e394cc1eafc2e3e7ad683c9883ba2f69e3d2", checked := Try.checked }
namespace Rows
def none {H : Type} : Left H := { results := [], args := [] }

/-- 'widgetrylaw01.FixedShares': WHATEVER THE INPUT: true; the input reads as it did. -/
def fixedSharesSpec : ChangeSpec := { name := "fixedShares", fn := fun _ => fun
  | [d1, d2] => { results := [.lit (.bool true)], args := [d1, d2] }
  | _ => none }
def fixedSharesRow : OpenClaim := { program := "ytmennimfjelcfaa", sum := "1dac51010149d9c059dab373c5d0e394cc1eafc2e3e7ad683c9883ba2f69e3d2", func := "widgetry/widgetrylaw01.FixedShares", spec := "fixedShares", apart := false }
def FixedSharesSaid : Prop := fixedSharesRow.holds Try.pinned (OpenSpec.ofChange fixedSharesSpec)

/-- ITS FALSE NEIGHBOUR: 'it returns false'. Refute it at one input. -/
def fixedSharesWrong : ChangeSpec := { name := "fixedShares", fn := fun _ => fun
  | [d1, d2] => { results := [.lit (.bool false)], args := [d1, d2] }
  | _ => none }
def FixedSharesWrongFalsely : Prop := fixedSharesRow.holds Try.pinned (OpenSpec.ofChange fixedSharesWrong)

/-- 'widgetrylaw01.FixedShareSums': WHATEVER THE INPUT: true; the input reads as it did. -/
def fixedShareSumsSpec : ChangeSpec := { name := "fixedShareSums", fn := fun _ => fun
  | [d1, d2] => { results := [.lit (.bool true)], args := [d1, d2] }
  | _ => none }
def fixedShareSumsRow : OpenClaim := { program := "ytmennimfjelcfaa", sum := "1dac51010149d9c059dab373c5d0e394cc1eafc2e3e7ad683c9883ba2f69e3d2", func := "widgetry/widgetrylaw01.FixedShareSums", spec := "fixedShareSums", apart := false }
def FixedShareSumsSaid : Prop := fixedShareSumsRow.holds Try.pinned (OpenSpec.ofChange fixedShareSumsSpec)

/-- ITS FALSE NEIGHBOUR: 'it returns false'. Refute it at one input. -/
def fixedShareSumsWrong : ChangeSpec := { name := "fixedShareSums", fn := fun _ => fun
  | [d1, d2] => { results := [.lit (.bool false)], args := [d1, d2] }
  | _ => none }
def FixedShareSumsWrongFalsely : Prop := fixedShareSumsRow.holds Try.pinned (OpenSpec.ofChange fixedShareSumsWrong)

/-- 'widgetrylaw01.FixedShareOrder': WHATEVER THE INPUT: true; the input reads as it did. -/
def fixedShareOrderSpec : ChangeSpec := { name := "fixedShareOrder", fn := fun _ => fun
  | [d1, d2] => { results := [.lit (.bool true)], args := [d1, d2] }
  | _ => none }
def fixedShareOrderRow : OpenClaim := { program := "ytmennimfjelcfaa", sum := "1dac51010149d9c059dab373c5d0e394cc1eafc2e3e7ad683c9883ba2f69e3d2", func := "widgetry/widgetrylaw01.FixedShareOrder", spec := "fixedShareOrder", apart := false }
def FixedShareOrderSaid : Prop := fixedShareOrderRow.holds Try.pinned (OpenSpec.ofChange fixedShareOrderSpec)

/-- ITS FALSE NEIGHBOUR: 'it returns false'. Refute it at one input. -/
def fixedShareOrderWrong : ChangeSpec := { name := "fixedShareOrder", fn := fun _ => fun
  | [d1, d2] => { results := [.lit (.bool false)], args := [d1, d2] }
  | _ => none }
def FixedShareOrderWrongFalsely : Prop := fixedShareOrderRow.holds Try.pinned (OpenSpec.ofChange fixedShareOrderWrong)

/-- 'widgetrylaw01.FixedClamps': WHATEVER THE INPUT: true; the input reads as it did. -/
def fixedClampsSpec : ChangeSpec := { name := "fixedClamps", fn := fun _ => fun
  | [d1, d2, d3] => { results := [.lit (.bool true)], args := [d1, d2, d3] }
  | _ => none }
def fixedClampsRow : OpenClaim := { program := "ytmennimfjelcfaa", sum := "1dac51010149d9c059dab373c5d0e394cc1eafc2e3e7ad683c9883ba2f69e3d2", func := "widgetry/widgetrylaw01.FixedClamps", spec := "fixedClamps", apart := false }
def FixedClampsSaid : Prop := fixedClampsRow.holds Try.pinned (OpenSpec.ofChange fixedClampsSpec)

/-- ITS FALSE NEIGHBOUR: 'it returns false'. Refute it at one input. -/
def fixedClampsWrong : ChangeSpec := { name := "fixedClamps", fn := fun _ => fun
  | [d1, d2, d3] => { results := [.lit (.bool false)], args := [d1, d2, d3] }
  | _ => none }
def FixedClampsWrongFalsely : Prop := fixedClampsRow.holds Try.pinned (OpenSpec.ofChange fixedClampsWrong)

/-- 'widgetrylaw01.FixedScales': WHATEVER THE INPUT: true; the input reads as it did. -/
def fixedScalesSpec : ChangeSpec := { name := "fixedScales", fn := fun _ => fun
  | [d1, d2, d3] => { results := [.lit (.bool true)], args := [d1, d2, d3] }
  | _ => none }
def fixedScalesRow : OpenClaim := { program := "ytmennimfjelcfaa", sum := "1dac51010149d9c059dab373c5d0e394cc1eafc2e3e7ad683c9883ba2f69e3d2", func := "widgetry/widgetrylaw01.FixedScales", spec := "fixedScales", apart := false }
def FixedScalesSaid : Prop := fixedScalesRow.holds Try.pinned (OpenSpec.ofChange fixedScalesSpec)

/-- ITS FALSE NEIGHBOUR: 'it returns false'. Refute it at one input. -/
def fixedScalesWrong : ChangeSpec := { name := "fixedScales", fn := fun _ => fun
  | [d1, d2, d3] => { results := [.lit (.bool false)], args := [d1, d2, d3] }
  | _ => none }
def FixedScalesWrongFalsely : Prop := fixedScalesRow.holds Try.pinned (OpenSpec.ofChange fixedScalesWrong)

/-- 'widgetrylaw01.FixedDivides': WHATEVER THE INPUT: true; the input reads as it did. -/
def fixedDividesSpec : ChangeSpec := { name := "fixedDivides", fn := fun _ => fun
  | [d1, d2] => { results := [.lit (.bool true)], args := [d1, d2] }
  | _ => none }
def fixedDividesRow : OpenClaim := { program := "ytmennimfjelcfaa", sum := "1dac51010149d9c059dab373c5d0e394cc1eafc2e3e7ad683c9883ba2f69e3d2", func := "widgetry/widgetrylaw01.FixedDivides", spec := "fixedDivides", apart := false }
def FixedDividesSaid : Prop := fixedDividesRow.holds Try.pinned (OpenSpec.ofChange fixedDividesSpec)

/-- ITS FALSE NEIGHBOUR: 'it returns false'. Refute it at one input. -/
def fixedDividesWrong : ChangeSpec := { name := "fixedDivides", fn := fun _ => fun
  | [d1, d2] => { results := [.lit (.bool false)], args := [d1, d2] }
  | _ => none }
def FixedDividesWrongFalsely : Prop := fixedDividesRow.holds Try.pinned (OpenSpec.ofChange fixedDividesWrong)

/-- 'widgetrylaw01.FixedNearest': WHATEVER THE INPUT: true; the input reads as it did. -/
def fixedNearestSpec : ChangeSpec := { name := "fixedNearest", fn := fun _ => fun
  | [d1, d2] => { results := [.lit (.bool true)], args := [d1, d2] }
  | _ => none }
def fixedNearestRow : OpenClaim := { program := "ytmennimfjelcfaa", sum := "1dac51010149d9c059dab373c5d0e394cc1eafc2e3e7ad683c9883ba2f69e3d2", func := "widgetry/widgetrylaw01.FixedNearest", spec := "fixedNearest", apart := false }
def FixedNearestSaid : Prop := fixedNearestRow.holds Try.pinned (OpenSpec.ofChange fixedNearestSpec)

/-- ITS FALSE NEIGHBOUR: 'it returns false'. Refute it at one input. -/
def fixedNearestWrong : ChangeSpec := { name := "fixedNearest", fn := fun _ => fun
  | [d1, d2] => { results := [.lit (.bool false)], args := [d1, d2] }
  | _ => none }
def FixedNearestWrongFalsely : Prop := fixedNearestRow.holds Try.pinned (OpenSpec.ofChange fixedNearestWrong)

/- THE SECOND FORM. 'bulk': how many values and letters a reading holds, each counted each time it is reached (what is shared counts as often as it is met; a slice's spare places count too). A statement '..UptoSaid' is the law's where the arguments, and the package variables that the reading takes, are together of bulk at most 1048576: NARROWER than '..Said'. Prove '..Said' where nothing that the law and all that it calls make is longer than what came in: it says more and counts as full. Else prove '..UptoSaid'. A law counts once. -/
mutual
def uptoBulk {H : Type} : DataW H → Nat
  | .lit (.string bytes) => bytes.length + 1
  | .lit _ => 1
  | .nil => 1
  | .ptr d => uptoBulk d + 1
  | .slice elems spare => uptoBulkAll elems + uptoBulkAll spare + 1
  | .agg parts => uptoBulkAll parts + 1
  | .iface _ d => uptoBulk d + 1
  | .map entries => uptoBulkEntries entries + 1
  | .held _ => 1
def uptoBulkAll {H : Type} : List (DataW H) → Nat
  | [] => 0
  | d :: r => uptoBulk d + uptoBulkAll r
def uptoBulkEntries {H : Type} : List (Lit × DataW H) → Nat
  | [] => 0
  | x :: r => uptoBulkEntry x + uptoBulkEntries r
def uptoBulkEntry {H : Type} : Lit × DataW H → Nat
  | (.string bytes, d) => bytes.length + uptoBulk d + 1
  | (_, d) => uptoBulk d + 1
 end
def uptoSmall : (H : Type) → List (DataW H) → Bool := fun _ ds => decide (uptoBulkAll ds ≤ 1048576)
def OpenSpec.upto (s : _root_.Go.ChangeSpec) : _root_.Go.OpenSpec := { _root_.Go.OpenSpec.ofChange s with cond := some uptoSmall }

/-- 'widgetrylaw01.FixedShares', WHERE WHAT IT READS IS OF BULK AT MOST 1048576: true; the input reads as it did. -/
def fixedSharesUptoRow : OpenClaim := { program := "ytmennimfjelcfaa", sum := "1dac51010149d9c059dab373c5d0e394cc1eafc2e3e7ad683c9883ba2f69e3d2", func := "widgetry/widgetrylaw01.FixedShares", spec := "fixedShares", apart := false, narrowed := true }
def FixedSharesUptoSaid : Prop := fixedSharesUptoRow.holds Try.pinned (OpenSpec.upto fixedSharesSpec)

/-- 'widgetrylaw01.FixedShareSums', WHERE WHAT IT READS IS OF BULK AT MOST 1048576: true; the input reads as it did. -/
def fixedShareSumsUptoRow : OpenClaim := { program := "ytmennimfjelcfaa", sum := "1dac51010149d9c059dab373c5d0e394cc1eafc2e3e7ad683c9883ba2f69e3d2", func := "widgetry/widgetrylaw01.FixedShareSums", spec := "fixedShareSums", apart := false, narrowed := true }
def FixedShareSumsUptoSaid : Prop := fixedShareSumsUptoRow.holds Try.pinned (OpenSpec.upto fixedShareSumsSpec)

/-- 'widgetrylaw01.FixedShareOrder', WHERE WHAT IT READS IS OF BULK AT MOST 1048576: true; the input reads as it did. -/
def fixedShareOrderUptoRow : OpenClaim := { program := "ytmennimfjelcfaa", sum := "1dac51010149d9c059dab373c5d0e394cc1eafc2e3e7ad683c9883ba2f69e3d2", func := "widgetry/widgetrylaw01.FixedShareOrder", spec := "fixedShareOrder", apart := false, narrowed := true }
def FixedShareOrderUptoSaid : Prop := fixedShareOrderUptoRow.holds Try.pinned (OpenSpec.upto fixedShareOrderSpec)

/-- 'widgetrylaw01.FixedClamps', WHERE WHAT IT READS IS OF BULK AT MOST 1048576: true; the input reads as it did. -/
def fixedClampsUptoRow : OpenClaim := { program := "ytmennimfjelcfaa", sum := "1dac51010149d9c059dab373c5d0e394cc1eafc2e3e7ad683c9883ba2f69e3d2", func := "widgetry/widgetrylaw01.FixedClamps", spec := "fixedClamps", apart := false, narrowed := true }
def FixedClampsUptoSaid : Prop := fixedClampsUptoRow.holds Try.pinned (OpenSpec.upto fixedClampsSpec)

/-- 'widgetrylaw01.FixedScales', WHERE WHAT IT READS IS OF BULK AT MOST 1048576: true; the input reads as it did. -/
def fixedScalesUptoRow : OpenClaim := { program := "ytmennimfjelcfaa", sum := "1dac51010149d9c059dab373c5d0e394cc1eafc2e3e7ad683c9883ba2f69e3d2", func := "widgetry/widgetrylaw01.FixedScales", spec := "fixedScales", apart := false, narrowed := true }
def FixedScalesUptoSaid : Prop := fixedScalesUptoRow.holds Try.pinned (OpenSpec.upto fixedScalesSpec)

/-- 'widgetrylaw01.FixedDivides', WHERE WHAT IT READS IS OF BULK AT MOST 1048576: true; the input reads as it did. -/
def fixedDividesUptoRow : OpenClaim := { program := "ytmennimfjelcfaa", sum := "1dac51010149d9c059dab373c5d0e394cc1eafc2e3e7ad683c9883ba2f69e3d2", func := "widgetry/widgetrylaw01.FixedDivides", spec := "fixedDivides", apart := false, narrowed := true }
def FixedDividesUptoSaid : Prop := fixedDividesUptoRow.holds Try.pinned (OpenSpec.upto fixedDividesSpec)

/-- 'widgetrylaw01.FixedNearest', WHERE WHAT IT READS IS OF BULK AT MOST 1048576: true; the input reads as it did. -/
def fixedNearestUptoRow : OpenClaim := { program := "ytmennimfjelcfaa", sum := "1dac51010149d9c059dab373c5d0e394cc1eafc2e3e7ad683c9883ba2f69e3d2", func := "widgetry/widgetrylaw01.FixedNearest", spec := "fixedNearest", apart := false, narrowed := true }
def FixedNearestUptoSaid : Prop := fixedNearestUptoRow.holds Try.pinned (OpenSpec.upto fixedNearestSpec)

end Rows
end Go.Proofs.Ytmennimfjelcfaa
