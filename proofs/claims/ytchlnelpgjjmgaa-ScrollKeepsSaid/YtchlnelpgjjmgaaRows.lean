/-
  No cell of these rows narrows 'for every input' (looked for: loops, veiled, ifaces, maps, wideKeys, modest, calm, conditions, laid).
  DERIVED. THE GIVEN ROWS OF THIS SEAT. 7 by the template 'for every input the law returns true; each argument reads behind the call as it read before'; 0 by the template 'total and deterministic' (their statements: YtchlnelpgjjmgaaTotals.lean).
  GIVEN WITH THE SEED: the statements are not yours to turn. If you find one false, say at which input.
  Laid BY PROGRAM, IN A SANDBOX (cutbox-rows.mjs): the forced cells as the released guide's own fill.sh prints them over the translation 3a17f2d3376e0036… (all of the seat's roots in one cut). By AI agents, Wed Nov 11 2026. No macro, syntax, notation, axiom, sorry.
-/
import Derived.Test.YtchlnelpgjjmgaaChecked
import GoSem.Claim
import GoSem.ClaimJoined
import GoSem.ClaimMapViews
import Derived.JoinedTies
import Derived.KernelRfl
namespace Go.Proofs.Ytchlnelpgjjmgaa
/- THE CELL 'sum', in the pinned program and in every row, IS THE sha256 OF THE DUMP (.gsa) THAT YtchlnelpgjjmgaaProg.lean LOADS. Nothing in Lean hashes anything: it is a label: what it is worth is what the hold of that sum in a sandbox is worth. -/
noncomputable def Try.pinned : Pinned := { name := "ytchlnelpgjjmgaa", sum := "3a17f2d3376e003687bb77cc8c420d30d624b7da954106a5899e9a918017ccec", checked := Try.checked }
namespace Rows
def none {H : Type} : Left H := { results := [], args := [] }

/-- 'widgetrylaw23.ScrollClamps': WHATEVER THE INPUT: true; the input reads as it did. -/
def scrollClampsSpec : ChangeSpec := { name := "scrollClamps", fn := fun _ => fun
  | [d1, d2, d3] => { results := [.lit (.bool true)], args := [d1, d2, d3] }
  | _ => none }
def scrollClampsRow : OpenClaim := { program := "ytchlnelpgjjmgaa", sum := "3a17f2d3376e003687bb77cc8c420d30d624b7da954106a5899e9a918017ccec", func := "widgetry/widgetrylaw23.ScrollClamps", spec := "scrollClamps", unfollowed := true, recurses := true, apart := false }
def ScrollClampsSaid : Prop := scrollClampsRow.holds Try.pinned (OpenSpec.ofChange scrollClampsSpec)

/-- ITS FALSE NEIGHBOUR: 'it returns false'. Refute it at one input. -/
def scrollClampsWrong : ChangeSpec := { name := "scrollClamps", fn := fun _ => fun
  | [d1, d2, d3] => { results := [.lit (.bool false)], args := [d1, d2, d3] }
  | _ => none }
def ScrollClampsWrongFalsely : Prop := scrollClampsRow.holds Try.pinned (OpenSpec.ofChange scrollClampsWrong)

/-- 'widgetrylaw23.ScrollReveals': WHATEVER THE INPUT: true; the input reads as it did. -/
def scrollRevealsSpec : ChangeSpec := { name := "scrollReveals", fn := fun _ => fun
  | [d1, d2, d3, d4] => { results := [.lit (.bool true)], args := [d1, d2, d3, d4] }
  | _ => none }
def scrollRevealsRow : OpenClaim := { program := "ytchlnelpgjjmgaa", sum := "3a17f2d3376e003687bb77cc8c420d30d624b7da954106a5899e9a918017ccec", func := "widgetry/widgetrylaw23.ScrollReveals", spec := "scrollReveals", unfollowed := true, recurses := true, apart := false }
def ScrollRevealsSaid : Prop := scrollRevealsRow.holds Try.pinned (OpenSpec.ofChange scrollRevealsSpec)

/-- ITS FALSE NEIGHBOUR: 'it returns false'. Refute it at one input. -/
def scrollRevealsWrong : ChangeSpec := { name := "scrollReveals", fn := fun _ => fun
  | [d1, d2, d3, d4] => { results := [.lit (.bool false)], args := [d1, d2, d3, d4] }
  | _ => none }
def ScrollRevealsWrongFalsely : Prop := scrollRevealsRow.holds Try.pinned (OpenSpec.ofChange scrollRevealsWrong)

/-- 'widgetrylaw23.ScrollVisible': WHATEVER THE INPUT: true; the input reads as it did. -/
def scrollVisibleSpec : ChangeSpec := { name := "scrollVisible", fn := fun _ => fun
  | [d1, d2, d3] => { results := [.lit (.bool true)], args := [d1, d2, d3] }
  | _ => none }
def scrollVisibleRow : OpenClaim := { program := "ytchlnelpgjjmgaa", sum := "3a17f2d3376e003687bb77cc8c420d30d624b7da954106a5899e9a918017ccec", func := "widgetry/widgetrylaw23.ScrollVisible", spec := "scrollVisible", unfollowed := true, recurses := true, apart := false }
def ScrollVisibleSaid : Prop := scrollVisibleRow.holds Try.pinned (OpenSpec.ofChange scrollVisibleSpec)

/-- ITS FALSE NEIGHBOUR: 'it returns false'. Refute it at one input. -/
def scrollVisibleWrong : ChangeSpec := { name := "scrollVisible", fn := fun _ => fun
  | [d1, d2, d3] => { results := [.lit (.bool false)], args := [d1, d2, d3] }
  | _ => none }
def ScrollVisibleWrongFalsely : Prop := scrollVisibleRow.holds Try.pinned (OpenSpec.ofChange scrollVisibleWrong)

/-- 'widgetrylaw23.ScrollPins': WHATEVER THE INPUT: true; the input reads as it did. -/
def scrollPinsSpec : ChangeSpec := { name := "scrollPins", fn := fun _ => fun
  | [d1, d2] => { results := [.lit (.bool true)], args := [d1, d2] }
  | _ => none }
def scrollPinsRow : OpenClaim := { program := "ytchlnelpgjjmgaa", sum := "3a17f2d3376e003687bb77cc8c420d30d624b7da954106a5899e9a918017ccec", func := "widgetry/widgetrylaw23.ScrollPins", spec := "scrollPins", unfollowed := true, recurses := true, apart := false }
def ScrollPinsSaid : Prop := scrollPinsRow.holds Try.pinned (OpenSpec.ofChange scrollPinsSpec)

/-- ITS FALSE NEIGHBOUR: 'it returns false'. Refute it at one input. -/
def scrollPinsWrong : ChangeSpec := { name := "scrollPins", fn := fun _ => fun
  | [d1, d2] => { results := [.lit (.bool false)], args := [d1, d2] }
  | _ => none }
def ScrollPinsWrongFalsely : Prop := scrollPinsRow.holds Try.pinned (OpenSpec.ofChange scrollPinsWrong)

/-- 'widgetrylaw23.ScrollRows': WHATEVER THE INPUT: true; the input reads as it did. -/
def scrollRowsSpec : ChangeSpec := { name := "scrollRows", fn := fun _ => fun
  | [d1, d2, d3, d4] => { results := [.lit (.bool true)], args := [d1, d2, d3, d4] }
  | _ => none }
def scrollRowsRow : OpenClaim := { program := "ytchlnelpgjjmgaa", sum := "3a17f2d3376e003687bb77cc8c420d30d624b7da954106a5899e9a918017ccec", func := "widgetry/widgetrylaw23.ScrollRows", spec := "scrollRows", unfollowed := true, recurses := true, apart := false }
def ScrollRowsSaid : Prop := scrollRowsRow.holds Try.pinned (OpenSpec.ofChange scrollRowsSpec)

/-- ITS FALSE NEIGHBOUR: 'it returns false'. Refute it at one input. -/
def scrollRowsWrong : ChangeSpec := { name := "scrollRows", fn := fun _ => fun
  | [d1, d2, d3, d4] => { results := [.lit (.bool false)], args := [d1, d2, d3, d4] }
  | _ => none }
def ScrollRowsWrongFalsely : Prop := scrollRowsRow.holds Try.pinned (OpenSpec.ofChange scrollRowsWrong)

/-- 'widgetrylaw23.ScrollKeeps': WHATEVER THE INPUT: true; the input reads as it did. -/
def scrollKeepsSpec : ChangeSpec := { name := "scrollKeeps", fn := fun _ => fun
  | [d1, d2, d3, d4] => { results := [.lit (.bool true)], args := [d1, d2, d3, d4] }
  | _ => none }
def scrollKeepsRow : OpenClaim := { program := "ytchlnelpgjjmgaa", sum := "3a17f2d3376e003687bb77cc8c420d30d624b7da954106a5899e9a918017ccec", func := "widgetry/widgetrylaw23.ScrollKeeps", spec := "scrollKeeps", unfollowed := true, recurses := true, apart := false }
def ScrollKeepsSaid : Prop := scrollKeepsRow.holds Try.pinned (OpenSpec.ofChange scrollKeepsSpec)

/-- ITS FALSE NEIGHBOUR: 'it returns false'. Refute it at one input. -/
def scrollKeepsWrong : ChangeSpec := { name := "scrollKeeps", fn := fun _ => fun
  | [d1, d2, d3, d4] => { results := [.lit (.bool false)], args := [d1, d2, d3, d4] }
  | _ => none }
def ScrollKeepsWrongFalsely : Prop := scrollKeepsRow.holds Try.pinned (OpenSpec.ofChange scrollKeepsWrong)

/-- 'widgetrylaw23.ScrollRaw': WHATEVER THE INPUT: true; the input reads as it did. -/
def scrollRawSpec : ChangeSpec := { name := "scrollRaw", fn := fun _ => fun
  | [d1, d2, d3, d4, d5, d6, d7] => { results := [.lit (.bool true)], args := [d1, d2, d3, d4, d5, d6, d7] }
  | _ => none }
def scrollRawRow : OpenClaim := { program := "ytchlnelpgjjmgaa", sum := "3a17f2d3376e003687bb77cc8c420d30d624b7da954106a5899e9a918017ccec", func := "widgetry/widgetrylaw23.ScrollRaw", spec := "scrollRaw", unfollowed := true, recurses := true, apart := false }
def ScrollRawSaid : Prop := scrollRawRow.holds Try.pinned (OpenSpec.ofChange scrollRawSpec)

/-- ITS FALSE NEIGHBOUR: 'it returns false'. Refute it at one input. -/
def scrollRawWrong : ChangeSpec := { name := "scrollRaw", fn := fun _ => fun
  | [d1, d2, d3, d4, d5, d6, d7] => { results := [.lit (.bool false)], args := [d1, d2, d3, d4, d5, d6, d7] }
  | _ => none }
def ScrollRawWrongFalsely : Prop := scrollRawRow.holds Try.pinned (OpenSpec.ofChange scrollRawWrong)

/- THE SECOND FORM. 'bulk': how many values and letters a reading holds, each counted each time it is reached (what is shared counts as often as it is met; a slice's spare places count too). A statement '..UptoSaid' is the law's where the arguments, and the package variables that the reading takes, are together of bulk at most 1048576: NARROWER than '..Said'. Prove '..Said' where nothing that the law and all that it calls make is longer than what came in: it says more and counts as full. Else prove '..UptoSaid'. A law counts once. -/
mutual
def uptoBulk {H : Type} : DataW H → Nat
  | .lit (.string bytes) => bytes.length + 1
  | .lit _ => 1
  | .nil => 1
  | .ptr d => uptoBulk d + 1
  | .slice elems spare => uptoBulkAll elems + uptoBulkAll spare + 1
  | .agg parts => uptoBulkAll parts + 1
  | .iface _ d => uptoBulk d + 1
  | .map entries => uptoBulkEntries entries + 1
  | .held _ => 1
def uptoBulkAll {H : Type} : List (DataW H) → Nat
  | [] => 0
  | d :: r => uptoBulk d + uptoBulkAll r
def uptoBulkEntries {H : Type} : List (Lit × DataW H) → Nat
  | [] => 0
  | x :: r => uptoBulkEntry x + uptoBulkEntries r
def uptoBulkEntry {H : Type} : Lit × DataW H → Nat
  | (.string bytes, d) => bytes.length + uptoBulk d + 1
  | (_, d) => uptoBulk d + 1
 end
def uptoSmall : (H : Type) → List (DataW H) → Bool := fun _ ds => decide (uptoBulkAll ds ≤ 1048576)
def OpenSpec.upto (s : _root_.Go.ChangeSpec) : _root_.Go.OpenSpec := { _root_.Go.OpenSpec.ofChange s with cond := some uptoSmall }

/-- 'widgetrylaw23.ScrollClamps', WHERE WHAT IT READS IS OF BULK AT MOST 1048576: true; the input reads as it did. -/
def scrollClampsUptoRow : OpenClaim := { program := "ytchlnelpgjjmgaa", sum := "3a17f2d3376e003687bb77cc8c420d30d624b7da954106a5899e9a918017ccec", func := "widgetry/widgetrylaw23.ScrollClamps", spec := "scrollClamps", unfollowed := true, recurses := true, apart := false, narrowed := true }
def ScrollClampsUptoSaid : Prop := scrollClampsUptoRow.holds Try.pinned (OpenSpec.upto scrollClampsSpec)

/-- 'widgetrylaw23.ScrollReveals', WHERE WHAT IT READS IS OF BULK AT MOST 1048576: true; the input reads as it did. -/
def scrollRevealsUptoRow : OpenClaim := { program := "ytchlnelpgjjmgaa", sum := "3a17f2d3376e003687bb77cc8c420d30d624b7da954106a5899e9a918017ccec", func := "widgetry/widgetrylaw23.ScrollReveals", spec := "scrollReveals", unfollowed := true, recurses := true, apart := false, narrowed := true }
def ScrollRevealsUptoSaid : Prop := scrollRevealsUptoRow.holds Try.pinned (OpenSpec.upto scrollRevealsSpec)

/-- 'widgetrylaw23.ScrollVisible', WHERE WHAT IT READS IS OF BULK AT MOST 1048576: true; the input reads as it did. -/
def scrollVisibleUptoRow : OpenClaim := { program := "ytchlnelpgjjmgaa", sum := "3a17f2d3376e003687bb77cc8c420d30d624b7da954106a5899e9a918017ccec", func := "widgetry/widgetrylaw23.ScrollVisible", spec := "scrollVisible", unfollowed := true, recurses := true, apart := false, narrowed := true }
def ScrollVisibleUptoSaid : Prop := scrollVisibleUptoRow.holds Try.pinned (OpenSpec.upto scrollVisibleSpec)

/-- 'widgetrylaw23.ScrollPins', WHERE WHAT IT READS IS OF BULK AT MOST 1048576: true; the input reads as it did. -/
def scrollPinsUptoRow : OpenClaim := { program := "ytchlnelpgjjmgaa", sum := "3a17f2d3376e003687bb77cc8c420d30d624b7da954106a5899e9a918017ccec", func := "widgetry/widgetrylaw23.ScrollPins", spec := "scrollPins", unfollowed := true, recurses := true, apart := false, narrowed := true }
def ScrollPinsUptoSaid : Prop := scrollPinsUptoRow.holds Try.pinned (OpenSpec.upto scrollPinsSpec)

/-- 'widgetrylaw23.ScrollRows', WHERE WHAT IT READS IS OF BULK AT MOST 1048576: true; the input reads as it did. -/
def scrollRowsUptoRow : OpenClaim := { program := "ytchlnelpgjjmgaa", sum := "3a17f2d3376e003687bb77cc8c420d30d624b7da954106a5899e9a918017ccec", func := "widgetry/widgetrylaw23.ScrollRows", spec := "scrollRows", unfollowed := true, recurses := true, apart := false, narrowed := true }
def ScrollRowsUptoSaid : Prop := scrollRowsUptoRow.holds Try.pinned (OpenSpec.upto scrollRowsSpec)

/-- 'widgetrylaw23.ScrollKeeps', WHERE WHAT IT READS IS OF BULK AT MOST 1048576: true; the input reads as it did. -/
def scrollKeepsUptoRow : OpenClaim := { program := "ytchlnelpgjjmgaa", sum := "3a17f2d3376e003687bb77cc8c420d30d624b7da954106a5899e9a918017ccec", func := "widgetry/widgetrylaw23.ScrollKeeps", spec := "scrollKeeps", unfollowed := true, recurses := true, apart := false, narrowed := true }
def ScrollKeepsUptoSaid : Prop := scrollKeepsUptoRow.holds Try.pinned (OpenSpec.upto scrollKeepsSpec)

/-- 'widgetrylaw23.ScrollRaw', WHERE WHAT IT READS IS OF BULK AT MOST 1048576: true; the input reads as it did. -/
def scrollRawUptoRow : OpenClaim := { program := "ytchlnelpgjjmgaa", sum := "3a17f2d3376e003687bb77cc8c420d30d624b7da954106a5899e9a918017ccec", func := "widgetry/widgetrylaw23.ScrollRaw", spec := "scrollRaw", unfollowed := true, recurses := true, apart := false, narrowed := true }
def ScrollRawUptoSaid : Prop := scrollRawUptoRow.holds Try.pinned (OpenSpec.upto scrollRawSpec)

end Rows
end Go.Proofs.Ytchlnelpgjjmgaa
