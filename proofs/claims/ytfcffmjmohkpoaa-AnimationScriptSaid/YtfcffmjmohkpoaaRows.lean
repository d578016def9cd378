/-
  No cell of these rows narrows 'for every input' (looked for: loops, veiled, ifaces, maps, wideKeys, modest, calm, conditions, laid).
  DERIVED. THE GIVEN ROWS OF THIS SEAT. 10 by the template 'for every input the law returns true; each argument reads behind the call as it read before'; 0 by the template 'total and deterministic' (their statements: YtfcffmjmohkpoaaTotals.lean).
  GIVEN WITH THE SEED: the statements are not yours to turn. If you find one false, say at which input.
  Laid BY PROGRAM, IN A SANDBOX (cutbox-rows.mjs): the forced cells as the released guide's own fill.sh prints them over the translation a7b45fe4bef341ab… (all of the seat's roots in one cut). By AI agents, Wed Nov 11 2026. No macro, syntax, notation, axiom, sorry.
-/
import Derived.Test.YtfcffmjmohkpoaaChecked
import GoSem.Claim
import GoSem.ClaimJoined
import GoSem.ClaimMapViews
import Derived.JoinedTies
import Derived.KernelRfl
namespace Go.Proofs.Ytfcffmjmohkpoaa
/- THE CELL 'sum', in the pinned program and in every row, IS THE sha256 OF THE DUMP (.gsa) THAT YtfcffmjmohkpoaaProg.lean LOADS. Nothing in Lean hashes anything: it is a label: what it is worth is what the hold of that sum in a sandbox is worth. -/
noncomputable def Try.pinned : Pinned := { name := "ytfcffmjmohkpoaa", sum := "a7b45fe4bef341ab2b5ee6d040898a768b34ebde482bef805e097cf275d915db", checked := Try.checked }
namespace Rows
def none {H : Type} : Left H := { results := [], args := [] }

/-- 'widgetrylaw36.AnimationEases': WHATEVER THE INPUT: true; the input reads as it did. -/
def animationEasesSpec : ChangeSpec := { name := "animationEases", fn := fun _ => fun
  | [d1, d2, d3, d4] => { results := [.lit (.bool true)], args := [d1, d2, d3, d4] }
  | _ => none }
def animationEasesRow : OpenClaim := { program := "ytfcffmjmohkpoaa", sum := "a7b45fe4bef341ab2b5ee6d040898a768b34ebde482bef805e097cf275d915db", func := "widgetry/widgetrylaw36.AnimationEases", spec := "animationEases", unfollowed := true, recurses := true, apart := false }
def AnimationEasesSaid : Prop := animationEasesRow.holds Try.pinned (OpenSpec.ofChange animationEasesSpec)

/-- ITS FALSE NEIGHBOUR: 'it returns false'. Refute it at one input. -/
def animationEasesWrong : ChangeSpec := { name := "animationEases", fn := fun _ => fun
  | [d1, d2, d3, d4] => { results := [.lit (.bool false)], args := [d1, d2, d3, d4] }
  | _ => none }
def AnimationEasesWrongFalsely : Prop := animationEasesRow.holds Try.pinned (OpenSpec.ofChange animationEasesWrong)

/-- 'widgetrylaw36.AnimationSprings': WHATEVER THE INPUT: true; the input reads as it did. -/
def animationSpringsSpec : ChangeSpec := { name := "animationSprings", fn := fun _ => fun
  | [d1, d2, d3, d4, d5, d6, d7] => { results := [.lit (.bool true)], args := [d1, d2, d3, d4, d5, d6, d7] }
  | _ => none }
def animationSpringsRow : OpenClaim := { program := "ytfcffmjmohkpoaa", sum := "a7b45fe4bef341ab2b5ee6d040898a768b34ebde482bef805e097cf275d915db", func := "widgetry/widgetrylaw36.AnimationSprings", spec := "animationSprings", unfollowed := true, recurses := true, apart := false }
def AnimationSpringsSaid : Prop := animationSpringsRow.holds Try.pinned (OpenSpec.ofChange animationSpringsSpec)

/-- ITS FALSE NEIGHBOUR: 'it returns false'. Refute it at one input. -/
def animationSpringsWrong : ChangeSpec := { name := "animationSprings", fn := fun _ => fun
  | [d1, d2, d3, d4, d5, d6, d7] => { results := [.lit (.bool false)], args := [d1, d2, d3, d4, d5, d6, d7] }
  | _ => none }
def AnimationSpringsWrongFalsely : Prop := animationSpringsRow.holds Try.pinned (OpenSpec.ofChange animationSpringsWrong)

/-- 'widgetrylaw36.AnimationRises': WHATEVER THE INPUT: true; the input reads as it did. -/
def animationRisesSpec : ChangeSpec := { name := "animationRises", fn := fun _ => fun
  | [d1, d2, d3, d4] => { results := [.lit (.bool true)], args := [d1, d2, d3, d4] }
  | _ => none }
def animationRisesRow : OpenClaim := { program := "ytfcffmjmohkpoaa", sum := "a7b45fe4bef341ab2b5ee6d040898a768b34ebde482bef805e097cf275d915db", func := "widgetry/widgetrylaw36.AnimationRises", spec := "animationRises", unfollowed := true, recurses := true, apart := false }
def AnimationRisesSaid : Prop := animationRisesRow.holds Try.pinned (OpenSpec.ofChange animationRisesSpec)

/-- ITS FALSE NEIGHBOUR: 'it returns false'. Refute it at one input. -/
def animationRisesWrong : ChangeSpec := { name := "animationRises", fn := fun _ => fun
  | [d1, d2, d3, d4] => { results := [.lit (.bool false)], args := [d1, d2, d3, d4] }
  | _ => none }
def AnimationRisesWrongFalsely : Prop := animationRisesRow.holds Try.pinned (OpenSpec.ofChange animationRisesWrong)

/-- 'widgetrylaw36.AnimationRaw': WHATEVER THE INPUT: true; the input reads as it did. -/
def animationRawSpec : ChangeSpec := { name := "animationRaw", fn := fun _ => fun
  | [d1, d2, d3] => { results := [.lit (.bool true)], args := [d1, d2, d3] }
  | _ => none }
def animationRawRow : OpenClaim := { program := "ytfcffmjmohkpoaa", sum := "a7b45fe4bef341ab2b5ee6d040898a768b34ebde482bef805e097cf275d915db", func := "widgetry/widgetrylaw36.AnimationRaw", spec := "animationRaw", unfollowed := true, recurses := true, apart := false }
def AnimationRawSaid : Prop := animationRawRow.holds Try.pinned (OpenSpec.ofChange animationRawSpec)

/-- ITS FALSE NEIGHBOUR: 'it returns false'. Refute it at one input. -/
def animationRawWrong : ChangeSpec := { name := "animationRaw", fn := fun _ => fun
  | [d1, d2, d3] => { results := [.lit (.bool false)], args := [d1, d2, d3] }
  | _ => none }
def AnimationRawWrongFalsely : Prop := animationRawRow.holds Try.pinned (OpenSpec.ofChange animationRawWrong)

/-- 'widgetrylaw36.AnimationParts': WHATEVER THE INPUT: true; the input reads as it did. -/
def animationPartsSpec : ChangeSpec := { name := "animationParts", fn := fun _ => fun
  | [d1, d2, d3] => { results := [.lit (.bool true)], args := [d1, d2, d3] }
  | _ => none }
def animationPartsRow : OpenClaim := { program := "ytfcffmjmohkpoaa", sum := "a7b45fe4bef341ab2b5ee6d040898a768b34ebde482bef805e097cf275d915db", func := "widgetry/widgetrylaw36.AnimationParts", spec := "animationParts", unfollowed := true, recurses := true, apart := false }
def AnimationPartsSaid : Prop := animationPartsRow.holds Try.pinned (OpenSpec.ofChange animationPartsSpec)

/-- ITS FALSE NEIGHBOUR: 'it returns false'. Refute it at one input. -/
def animationPartsWrong : ChangeSpec := { name := "animationParts", fn := fun _ => fun
  | [d1, d2, d3] => { results := [.lit (.bool false)], args := [d1, d2, d3] }
  | _ => none }
def AnimationPartsWrongFalsely : Prop := animationPartsRow.holds Try.pinned (OpenSpec.ofChange animationPartsWrong)

/-- 'widgetrylaw36.AnimationEnds': WHATEVER THE INPUT: true; the input reads as it did. -/
def animationEndsSpec : ChangeSpec := { name := "animationEnds", fn := fun _ => fun
  | [d] => { results := [.lit (.bool true)], args := [d] }
  | _ => none }
def animationEndsRow : OpenClaim := { program := "ytfcffmjmohkpoaa", sum := "a7b45fe4bef341ab2b5ee6d040898a768b34ebde482bef805e097cf275d915db", func := "widgetry/widgetrylaw36.AnimationEnds", spec := "animationEnds", unfollowed := true, recurses := true, apart := false }
def AnimationEndsSaid : Prop := animationEndsRow.holds Try.pinned (OpenSpec.ofChange animationEndsSpec)

/-- ITS FALSE NEIGHBOUR: 'it returns false'. Refute it at one input. -/
def animationEndsWrong : ChangeSpec := { name := "animationEnds", fn := fun _ => fun
  | [d] => { results := [.lit (.bool false)], args := [d] }
  | _ => none }
def AnimationEndsWrongFalsely : Prop := animationEndsRow.holds Try.pinned (OpenSpec.ofChange animationEndsWrong)

/-- 'widgetrylaw36.AnimationInterrupts': WHATEVER THE INPUT: true; the input reads as it did. -/
def animationInterruptsSpec : ChangeSpec := { name := "animationInterrupts", fn := fun _ => fun
  | [d1, d2, d3] => { results := [.lit (.bool true)], args := [d1, d2, d3] }
  | _ => none }
def animationInterruptsRow : OpenClaim := { program := "ytfcffmjmohkpoaa", sum := "a7b45fe4bef341ab2b5ee6d040898a768b34ebde482bef805e097cf275d915db", func := "widgetry/widgetrylaw36.AnimationInterrupts", spec := "animationInterrupts", unfollowed := true, recurses := true, apart := false }
def AnimationInterruptsSaid : Prop := animationInterruptsRow.holds Try.pinned (OpenSpec.ofChange animationInterruptsSpec)

/-- ITS FALSE NEIGHBOUR: 'it returns false'. Refute it at one input. -/
def animationInterruptsWrong : ChangeSpec := { name := "animationInterrupts", fn := fun _ => fun
  | [d1, d2, d3] => { results := [.lit (.bool false)], args := [d1, d2, d3] }
  | _ => none }
def AnimationInterruptsWrongFalsely : Prop := animationInterruptsRow.holds Try.pinned (OpenSpec.ofChange animationInterruptsWrong)

/-- 'widgetrylaw36.AnimationFull': WHATEVER THE INPUT: true; the input reads as it did. -/
def animationFullSpec : ChangeSpec := { name := "animationFull", fn := fun _ => fun
  | [d] => { results := [.lit (.bool true)], args := [d] }
  | _ => none }
def animationFullRow : OpenClaim := { program := "ytfcffmjmohkpoaa", sum := "a7b45fe4bef341ab2b5ee6d040898a768b34ebde482bef805e097cf275d915db", func := "widgetry/widgetrylaw36.AnimationFull", spec := "animationFull", unfollowed := true, recurses := true, apart := false }
def AnimationFullSaid : Prop := animationFullRow.holds Try.pinned (OpenSpec.ofChange animationFullSpec)

/-- ITS FALSE NEIGHBOUR: 'it returns false'. Refute it at one input. -/
def animationFullWrong : ChangeSpec := { name := "animationFull", fn := fun _ => fun
  | [d] => { results := [.lit (.bool false)], args := [d] }
  | _ => none }
def AnimationFullWrongFalsely : Prop := animationFullRow.holds Try.pinned (OpenSpec.ofChange animationFullWrong)

/-- 'widgetrylaw36.AnimationAdvances': WHATEVER THE INPUT: true; the input reads as it did. -/
def animationAdvancesSpec : ChangeSpec := { name := "animationAdvances", fn := fun _ => fun
  | [d1, d2, d3, d4] => { results := [.lit (.bool true)], args := [d1, d2, d3, d4] }
  | _ => none }
def animationAdvancesRow : OpenClaim := { program := "ytfcffmjmohkpoaa", sum := "a7b45fe4bef341ab2b5ee6d040898a768b34ebde482bef805e097cf275d915db", func := "widgetry/widgetrylaw36.AnimationAdvances", spec := "animationAdvances", unfollowed := true, recurses := true, apart := false }
def AnimationAdvancesSaid : Prop := animationAdvancesRow.holds Try.pinned (OpenSpec.ofChange animationAdvancesSpec)

/-- ITS FALSE NEIGHBOUR: 'it returns false'. Refute it at one input. -/
def animationAdvancesWrong : ChangeSpec := { name := "animationAdvances", fn := fun _ => fun
  | [d1, d2, d3, d4] => { results := [.lit (.bool false)], args := [d1, d2, d3, d4] }
  | _ => none }
def AnimationAdvancesWrongFalsely : Prop := animationAdvancesRow.holds Try.pinned (OpenSpec.ofChange animationAdvancesWrong)

/-- 'widgetrylaw36.AnimationScript': WHATEVER THE INPUT: true; the input reads as it did. -/
def animationScriptSpec : ChangeSpec := { name := "animationScript", fn := fun _ => fun
  | [d] => { results := [.lit (.bool true)], args := [d] }
  | _ => none }
def animationScriptRow : OpenClaim := { program := "ytfcffmjmohkpoaa", sum := "a7b45fe4bef341ab2b5ee6d040898a768b34ebde482bef805e097cf275d915db", func := "widgetry/widgetrylaw36.AnimationScript", spec := "animationScript", unfollowed := true, recurses := true, apart := false }
def AnimationScriptSaid : Prop := animationScriptRow.holds Try.pinned (OpenSpec.ofChange animationScriptSpec)

/-- ITS FALSE NEIGHBOUR: 'it returns false'. Refute it at one input. -/
def animationScriptWrong : ChangeSpec := { name := "animationScript", fn := fun _ => fun
  | [d] => { results := [.lit (.bool false)], args := [d] }
  | _ => none }
def AnimationScriptWrongFalsely : Prop := animationScriptRow.holds Try.pinned (OpenSpec.ofChange animationScriptWrong)

/- THE SECOND FORM. 'bulk': how many values and letters a reading holds, each counted each time it is reached (what is shared counts as often as it is met; a slice's spare places count too). A statement '..UptoSaid' is the law's where the arguments, and the package variables that the reading takes, are together of bulk at most 1048576: NARROWER than '..Said'. Prove '..Said' where nothing that the law and all that it calls make is longer than what came in: it says more and counts as full. Else prove '..UptoSaid'. A law counts once. -/
mutual
def uptoBulk {H : Type} : DataW H → Nat
  | .lit (.string bytes) => bytes.length + 1
  | .lit _ => 1
  | .nil => 1
  | .ptr d => uptoBulk d + 1
  | .slice elems spare => uptoBulkAll elems + uptoBulkAll spare + 1
  | .agg parts => uptoBulkAll parts + 1
  | .iface _ d => uptoBulk d + 1
  | .map entries => uptoBulkEntries entries + 1
  | .held _ => 1
def uptoBulkAll {H : Type} : List (DataW H) → Nat
  | [] => 0
  | d :: r => uptoBulk d + uptoBulkAll r
def uptoBulkEntries {H : Type} : List (Lit × DataW H) → Nat
  | [] => 0
  | x :: r => uptoBulkEntry x + uptoBulkEntries r
def uptoBulkEntry {H : Type} : Lit × DataW H → Nat
  | (.string bytes, d) => bytes.length + uptoBulk d + 1
  | (_, d) => uptoBulk d + 1
 end
def uptoSmall : (H : Type) → List (DataW H) → Bool := fun _ ds => decide (uptoBulkAll ds ≤ 1048576)
def OpenSpec.upto (s : _root_.Go.ChangeSpec) : _root_.Go.OpenSpec := { _root_.Go.OpenSpec.ofChange s with cond := some uptoSmall }

/-- 'widgetrylaw36.AnimationEases', WHERE WHAT IT READS IS OF BULK AT MOST 1048576: true; the input reads as it did. -/
def animationEasesUptoRow : OpenClaim := { program := "ytfcffmjmohkpoaa", sum := "a7b45fe4bef341ab2b5ee6d040898a768b34ebde482bef805e097cf275d915db", func := "widgetry/widgetrylaw36.AnimationEases", spec := "animationEases", unfollowed := true, recurses := true, apart := false, narrowed := true }
def AnimationEasesUptoSaid : Prop := animationEasesUptoRow.holds Try.pinned (OpenSpec.upto animationEasesSpec)

/-- 'widgetrylaw36.AnimationSprings', WHERE WHAT IT READS IS OF BULK AT MOST 1048576: true; the input reads as it did. -/
def animationSpringsUptoRow : OpenClaim := { program := "ytfcffmjmohkpoaa", sum := "a7b45fe4bef341ab2b5ee6d040898a768b34ebde482bef805e097cf275d915db", func := "widgetry/widgetrylaw36.AnimationSprings", spec := "animationSprings", unfollowed := true, recurses := true, apart := false, narrowed := true }
def AnimationSpringsUptoSaid : Prop := animationSpringsUptoRow.holds Try.pinned (OpenSpec.upto animationSpringsSpec)

/-- 'widgetrylaw36.AnimationRises', WHERE WHAT IT READS IS OF BULK AT MOST 1048576: true; the input reads as it did. -/
def animationRisesUptoRow : OpenClaim := { program := "ytfcffmjmohkpoaa", sum := "a7b45fe4bef341ab2b5ee6d040898a768b34ebde482bef805e097cf275d915db", func := "widgetry/widgetrylaw36.AnimationRises", spec := "animationRises", unfollowed := true, recurses := true, apart := false, narrowed := true }
def AnimationRisesUptoSaid : Prop := animationRisesUptoRow.holds Try.pinned (OpenSpec.upto animationRisesSpec)

/-- 'widgetrylaw36.AnimationRaw', WHERE WHAT IT READS IS OF BULK AT MOST 1048576: true; the input reads as it did. -/
def animationRawUptoRow : OpenClaim := { program := "ytfcffmjmohkpoaa", sum := "a7b45fe4bef341ab2b5ee6d040898a768b34ebde482bef805e097cf275d915db", func := "widgetry/widgetrylaw36.AnimationRaw", spec := "animationRaw", unfollowed := true, recurses := true, apart := false, narrowed := true }
def AnimationRawUptoSaid : Prop := animationRawUptoRow.holds Try.pinned (OpenSpec.upto animationRawSpec)

/-- 'widgetrylaw36.AnimationParts', WHERE WHAT IT READS IS OF BULK AT MOST 1048576: true; the input reads as it did. -/
def animationPartsUptoRow : OpenClaim := { program := "ytfcffmjmohkpoaa", sum := "a7b45fe4bef341ab2b5ee6d040898a768b34ebde482bef805e097cf275d915db", func := "widgetry/widgetrylaw36.AnimationParts", spec := "animationParts", unfollowed := true, recurses := true, apart := false, narrowed := true }
def AnimationPartsUptoSaid : Prop := animationPartsUptoRow.holds Try.pinned (OpenSpec.upto animationPartsSpec)

/-- 'widgetrylaw36.AnimationEnds', WHERE WHAT IT READS IS OF BULK AT MOST 1048576: true; the input reads as it did. -/
def animationEndsUptoRow : OpenClaim := { program := "ytfcffmjmohkpoaa", sum := "a7b45fe4bef341ab2b5ee6d040898a768b34ebde482bef805e097cf275d915db", func := "widgetry/widgetrylaw36.AnimationEnds", spec := "animationEnds", unfollowed := true, recurses := true, apart := false, narrowed := true }
def AnimationEndsUptoSaid : Prop := animationEndsUptoRow.holds Try.pinned (OpenSpec.upto animationEndsSpec)

/-- 'widgetrylaw36.AnimationInterrupts', WHERE WHAT IT READS IS OF BULK AT MOST 1048576: true; the input reads as it did. -/
def animationInterruptsUptoRow : OpenClaim := { program := "ytfcffmjmohkpoaa", sum := "a7b45fe4bef341ab2b5ee6d040898a768b34ebde482bef805e097cf275d915db", func := "widgetry/widgetrylaw36.AnimationInterrupts", spec := "animationInterrupts", unfollowed := true, recurses := true, apart := false, narrowed := true }
def AnimationInterruptsUptoSaid : Prop := animationInterruptsUptoRow.holds Try.pinned (OpenSpec.upto animationInterruptsSpec)

/-- 'widgetrylaw36.AnimationFull', WHERE WHAT IT READS IS OF BULK AT MOST 1048576: true; the input reads as it did. -/
def animationFullUptoRow : OpenClaim := { program := "ytfcffmjmohkpoaa", sum := "a7b45fe4bef341ab2b5ee6d040898a768b34ebde482bef805e097cf275d915db", func := "widgetry/widgetrylaw36.AnimationFull", spec := "animationFull", unfollowed := true, recurses := true, apart := false, narrowed := true }
def AnimationFullUptoSaid : Prop := animationFullUptoRow.holds Try.pinned (OpenSpec.upto animationFullSpec)

/-- 'widgetrylaw36.AnimationAdvances', WHERE WHAT IT READS IS OF BULK AT MOST 1048576: true; the input reads as it did. -/
def animationAdvancesUptoRow : OpenClaim := { program := "ytfcffmjmohkpoaa", sum := "a7b45fe4bef341ab2b5ee6d040898a768b34ebde482bef805e097cf275d915db", func := "widgetry/widgetrylaw36.AnimationAdvances", spec := "animationAdvances", unfollowed := true, recurses := true, apart := false, narrowed := true }
def AnimationAdvancesUptoSaid : Prop := animationAdvancesUptoRow.holds Try.pinned (OpenSpec.upto animationAdvancesSpec)

/-- 'widgetrylaw36.AnimationScript', WHERE WHAT IT READS IS OF BULK AT MOST 1048576: true; the input reads as it did. -/
def animationScriptUptoRow : OpenClaim := { program := "ytfcffmjmohkpoaa", sum := "a7b45fe4bef341ab2b5ee6d040898a768b34ebde482bef805e097cf275d915db", func := "widgetry/widgetrylaw36.AnimationScript", spec := "animationScript", unfollowed := true, recurses := true, apart := false, narrowed := true }
def AnimationScriptUptoSaid : Prop := animationScriptUptoRow.holds Try.pinned (OpenSpec.upto animationScriptSpec)

end Rows
end Go.Proofs.Ytfcffmjmohkpoaa
