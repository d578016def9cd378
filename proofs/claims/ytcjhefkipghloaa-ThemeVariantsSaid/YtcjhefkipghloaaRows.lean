/-
  No cell of these rows narrows 'for every input' (looked for: loops, veiled, ifaces, maps, wideKeys, modest, calm, conditions, laid).
  DERIVED. THE GIVEN ROWS OF THIS SEAT. 5 by the template 'for every input the law returns true; each argument reads behind the call as it read before'; 0 by the template 'total and deterministic' (their statements: YtcjhefkipghloaaTotals.lean).
  GIVEN WITH THE SEED: the statements are not yours to turn. If you find one false, say at which input.
  Laid BY PROGRAM, IN A SANDBOX (cutbox-rows.mjs): the forced cells as the released guide's own fill.sh prints them over the translation dc2760f91d46ac20… (all of the seat's roots in one cut). By AI agents, Wed Nov 11 2026. No macro, syntax, notation, axiom, sorry.
-/
import Derived.Test.YtcjhefkipghloaaChecked
import GoSem.Claim
import GoSem.ClaimJoined
import GoSem.ClaimMapViews
import Derived.JoinedTies
import Derived.KernelRfl
namespace Go.Proofs.Ytcjhefkipghloaa
/- THE CELL 'sum', in the pinned program and in every row, IS THE sha256 OF THE DUMP (.gsa) THAT YtcjhefkipghloaaProg.lean LOADS. Nothing in Lean hashes anything: it is a label: what it is worth is what the hold of that sum in a sandbox is worth. -/
noncomputable def Try.pinned : Pinned := { name := "ytcjhefkipghloaa", sum := "dc2760f91d46ac20ab9a43debf35fd14eef4f36c851beb5e7adbeae5eba02bc5", checked := Try.checked }
namespace Rows
def none {H : Type} : Left H := { results := [], args := [] }

/-- 'widgetrylaw16.ThemeSizes': WHATEVER THE INPUT: true; the input reads as it did. -/
def themeSizesSpec : ChangeSpec := { name := "themeSizes", fn := fun _ => fun
  | [d1, d2, d3] => { results := [.lit (.bool true)], args := [d1, d2, d3] }
  | _ => none }
def themeSizesRow : OpenClaim := { program := "ytcjhefkipghloaa", sum := "dc2760f91d46ac20ab9a43debf35fd14eef4f36c851beb5e7adbeae5eba02bc5", func := "widgetry/widgetrylaw16.ThemeSizes", spec := "themeSizes", apart := false }
def ThemeSizesSaid : Prop := themeSizesRow.holds Try.pinned (OpenSpec.ofChange themeSizesSpec)

/-- ITS FALSE NEIGHBOUR: 'it returns false'. Refute it at one input. -/
def themeSizesWrong : ChangeSpec := { name := "themeSizes", fn := fun _ => fun
  | [d1, d2, d3] => { results := [.lit (.bool false)], args := [d1, d2, d3] }
  | _ => none }
def ThemeSizesWrongFalsely : Prop := themeSizesRow.holds Try.pinned (OpenSpec.ofChange themeSizesWrong)

/-- 'widgetrylaw16.ThemeColors': WHATEVER THE INPUT: true; the input reads as it did. -/
def themeColorsSpec : ChangeSpec := { name := "themeColors", fn := fun _ => fun
  | [d1, d2, d3] => { results := [.lit (.bool true)], args := [d1, d2, d3] }
  | _ => none }
def themeColorsRow : OpenClaim := { program := "ytcjhefkipghloaa", sum := "dc2760f91d46ac20ab9a43debf35fd14eef4f36c851beb5e7adbeae5eba02bc5", func := "widgetry/widgetrylaw16.ThemeColors", spec := "themeColors", apart := false }
def ThemeColorsSaid : Prop := themeColorsRow.holds Try.pinned (OpenSpec.ofChange themeColorsSpec)

/-- ITS FALSE NEIGHBOUR: 'it returns false'. Refute it at one input. -/
def themeColorsWrong : ChangeSpec := { name := "themeColors", fn := fun _ => fun
  | [d1, d2, d3] => { results := [.lit (.bool false)], args := [d1, d2, d3] }
  | _ => none }
def ThemeColorsWrongFalsely : Prop := themeColorsRow.holds Try.pinned (OpenSpec.ofChange themeColorsWrong)

/-- 'widgetrylaw16.ThemeReadable': WHATEVER THE INPUT: true; the input reads as it did. -/
def themeReadableSpec : ChangeSpec := { name := "themeReadable", fn := fun _ => fun
  | [d1, d2, d3] => { results := [.lit (.bool true)], args := [d1, d2, d3] }
  | _ => none }
def themeReadableRow : OpenClaim := { program := "ytcjhefkipghloaa", sum := "dc2760f91d46ac20ab9a43debf35fd14eef4f36c851beb5e7adbeae5eba02bc5", func := "widgetry/widgetrylaw16.ThemeReadable", spec := "themeReadable", apart := false }
def ThemeReadableSaid : Prop := themeReadableRow.holds Try.pinned (OpenSpec.ofChange themeReadableSpec)

/-- ITS FALSE NEIGHBOUR: 'it returns false'. Refute it at one input. -/
def themeReadableWrong : ChangeSpec := { name := "themeReadable", fn := fun _ => fun
  | [d1, d2, d3] => { results := [.lit (.bool false)], args := [d1, d2, d3] }
  | _ => none }
def ThemeReadableWrongFalsely : Prop := themeReadableRow.holds Try.pinned (OpenSpec.ofChange themeReadableWrong)

/-- 'widgetrylaw16.ThemeRaw': WHATEVER THE INPUT: true; the input reads as it did. -/
def themeRawSpec : ChangeSpec := { name := "themeRaw", fn := fun _ => fun
  | [d1, d2, d3] => { results := [.lit (.bool true)], args := [d1, d2, d3] }
  | _ => none }
def themeRawRow : OpenClaim := { program := "ytcjhefkipghloaa", sum := "dc2760f91d46ac20ab9a43debf35fd14eef4f36c851beb5e7adbeae5eba02bc5", func := "widgetry/widgetrylaw16.ThemeRaw", spec := "themeRaw", apart := false }
def ThemeRawSaid : Prop := themeRawRow.holds Try.pinned (OpenSpec.ofChange themeRawSpec)

/-- ITS FALSE NEIGHBOUR: 'it returns false'. Refute it at one input. -/
def themeRawWrong : ChangeSpec := { name := "themeRaw", fn := fun _ => fun
  | [d1, d2, d3] => { results := [.lit (.bool false)], args := [d1, d2, d3] }
  | _ => none }
def ThemeRawWrongFalsely : Prop := themeRawRow.holds Try.pinned (OpenSpec.ofChange themeRawWrong)

/-- 'widgetrylaw16.ThemeVariants': WHATEVER THE INPUT: true; the input reads as it did. -/
def themeVariantsSpec : ChangeSpec := { name := "themeVariants", fn := fun _ => fun
  | [d] => { results := [.lit (.bool true)], args := [d] }
  | _ => none }
def themeVariantsRow : OpenClaim := { program := "ytcjhefkipghloaa", sum := "dc2760f91d46ac20ab9a43debf35fd14eef4f36c851beb5e7adbeae5eba02bc5", func := "widgetry/widgetrylaw16.ThemeVariants", spec := "themeVariants", apart := false }
def ThemeVariantsSaid : Prop := themeVariantsRow.holds Try.pinned (OpenSpec.ofChange themeVariantsSpec)

/-- ITS FALSE NEIGHBOUR: 'it returns false'. Refute it at one input. -/
def themeVariantsWrong : ChangeSpec := { name := "themeVariants", fn := fun _ => fun
  | [d] => { results := [.lit (.bool false)], args := [d] }
  | _ => none }
def ThemeVariantsWrongFalsely : Prop := themeVariantsRow.holds Try.pinned (OpenSpec.ofChange themeVariantsWrong)

/- THE SECOND FORM. 'bulk': how many values and letters a reading holds, each counted each time it is reached (what is shared counts as often as it is met; a slice's spare places count too). A statement '..UptoSaid' is the law's where the arguments, and the package variables that the reading takes, are together of bulk at most 1048576: NARROWER than '..Said'. Prove '..Said' where nothing that the law and all that it calls make is longer than what came in: it says more and counts as full. Else prove '..UptoSaid'. A law counts once. -/
mutual
def uptoBulk {H : Type} : DataW H → Nat
  | .lit (.string bytes) => bytes.length + 1
  | .lit _ => 1
  | .nil => 1
  | .ptr d => uptoBulk d + 1
  | .slice elems spare => uptoBulkAll elems + uptoBulkAll spare + 1
  | .agg parts => uptoBulkAll parts + 1
  | .iface _ d => uptoBulk d + 1
  | .map entries => uptoBulkEntries entries + 1
  | .held _ => 1
def uptoBulkAll {H : Type} : List (DataW H) → Nat
  | [] => 0
  | d :: r => uptoBulk d + uptoBulkAll r
def uptoBulkEntries {H : Type} : List (Lit × DataW H) → Nat
  | [] => 0
  | x :: r => uptoBulkEntry x + uptoBulkEntries r
def uptoBulkEntry {H : Type} : Lit × DataW H → Nat
  | (.string bytes, d) => bytes.length + uptoBulk d + 1
  | (_, d) => uptoBulk d + 1
 end
def uptoSmall : (H : Type) → List (DataW H) → Bool := fun _ ds => decide (uptoBulkAll ds ≤ 1048576)
def OpenSpec.upto (s : _root_.Go.ChangeSpec) : _root_.Go.OpenSpec := { _root_.Go.OpenSpec.ofChange s with cond := some uptoSmall }

/-- 'widgetrylaw16.ThemeSizes', WHERE WHAT IT READS IS OF BULK AT MOST 1048576: true; the input reads as it did. -/
def themeSizesUptoRow : OpenClaim := { program := "ytcjhefkipghloaa", sum := "dc2760f91d46ac20ab9a43debf35fd14eef4f36c851beb5e7adbeae5eba02bc5", func := "widgetry/widgetrylaw16.ThemeSizes", spec := "themeSizes", apart := false, narrowed := true }
def ThemeSizesUptoSaid : Prop := themeSizesUptoRow.holds Try.pinned (OpenSpec.upto themeSizesSpec)

/-- 'widgetrylaw16.ThemeColors', WHERE WHAT IT READS IS OF BULK AT MOST 1048576: true; the input reads as it did. -/
def themeColorsUptoRow : OpenClaim := { program := "ytcjhefkipghloaa", sum := "dc2760f91d46ac20ab9a43debf35fd14eef4f36c851beb5e7adbeae5eba02bc5", func := "widgetry/widgetrylaw16.ThemeColors", spec := "themeColors", apart := false, narrowed := true }
def ThemeColorsUptoSaid : Prop := themeColorsUptoRow.holds Try.pinned (OpenSpec.upto themeColorsSpec)

/-- 'widgetrylaw16.ThemeReadable', WHERE WHAT IT READS IS OF BULK AT MOST 1048576: true; the input reads as it did. -/
def themeReadableUptoRow : OpenClaim := { program := "ytcjhefkipghloaa", sum := "dc2760f91d46ac20ab9a43debf35fd14eef4f36c851beb5e7adbeae5eba02bc5", func := "widgetry/widgetrylaw16.ThemeReadable", spec := "themeReadable", apart := false, narrowed := true }
def ThemeReadableUptoSaid : Prop := themeReadableUptoRow.holds Try.pinned (OpenSpec.upto themeReadableSpec)

/-- 'widgetrylaw16.ThemeRaw', WHERE WHAT IT READS IS OF BULK AT MOST 1048576: true; the input reads as it did. -/
def themeRawUptoRow : OpenClaim := { program := "ytcjhefkipghloaa", sum := "dc2760f91d46ac20ab9a43debf35fd14eef4f36c851beb5e7adbeae5eba02bc5", func := "widgetry/widgetrylaw16.ThemeRaw", spec := "themeRaw", apart := false, narrowed := true }
def ThemeRawUptoSaid : Prop := themeRawUptoRow.holds Try.pinned (OpenSpec.upto themeRawSpec)

/-- 'widgetrylaw16.ThemeVariants', WHERE WHAT IT READS IS OF BULK AT MOST 1048576: true; the input reads as it did. -/
def themeVariantsUptoRow : OpenClaim := { program := "ytcjhefkipghloaa", sum := "dc2760f91d46ac20ab9a43debf35fd14eef4f36c851beb5e7adbeae5eba02bc5", func := "widgetry/widgetrylaw16.ThemeVariants", spec := "themeVariants", apart := false, narrowed := true }
def ThemeVariantsUptoSaid : Prop := themeVariantsUptoRow.holds Try.pinned (OpenSpec.upto themeVariantsSpec)

end Rows
end Go.Proofs.Ytcjhefkipghloaa
