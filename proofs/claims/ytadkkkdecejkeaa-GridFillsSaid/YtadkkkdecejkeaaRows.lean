/-
  No cell of these rows narrows 'for every input' (looked for: loops, veiled, ifaces, maps, wideKeys, modest, calm, conditions, laid).
  DERIVED. THE GIVEN ROWS OF THIS SEAT. 6 by the template 'for every input the law returns true; each argument reads behind the call as it read before'; 0 by the template 'total and deterministic' (their statements: YtadkkkdecejkeaaTotals.lean).
  GIVEN WITH THE SEED: the statements are not yours to turn. If you find one false, say at which input.
  Laid BY PROGRAM, IN A SANDBOX (cutbox-rows.mjs): the forced cells as the released guide's own fill.sh prints them over the translation 0a043d240933fad6… (all of the seat's roots in one cut). By AI agents, Wed Nov 11 2026. No macro, syntax, notation, axiom, sorry.
-/
import Derived.Test.YtadkkkdecejkeaaChecked
import GoSem.Claim
import GoSem.ClaimJoined
import GoSem.ClaimMapViews
import Derived.JoinedTies
import Derived.KernelRfl
namespace Go.Proofs.Ytadkkkdecejkeaa
/- THE CELL 'sum', in the pinned program and in every row, IS THE sha256 OF THE DUMP (.gsa) THAT YtadkkkdecejkeaaProg.lean LOADS. Nothing in Lean hashes anything: it is a label: what it is worth is what the hold of that sum in a sandbox is worth. -/
noncomputable def Try.pinned : Pinned := { name := "ytadkkkdecejkeaa", sum := "0a043d240933fad6420822e7ac6798482a1f4c55f180b2d027b53972bac948f9", checked := Try.checked }
namespace Rows
def none {H : Type} : Left H := { results := [], args := [] }

/-- 'widgetrylaw19.GridTracksRaw': WHATEVER THE INPUT: true; the input reads as it did. -/
def gridTracksRawSpec : ChangeSpec := { name := "gridTracksRaw", fn := fun _ => fun
  | [d1, d2, d3, d4] => { results := [.lit (.bool true)], args := [d1, d2, d3, d4] }
  | _ => none }
def gridTracksRawRow : OpenClaim := { program := "ytadkkkdecejkeaa", sum := "0a043d240933fad6420822e7ac6798482a1f4c55f180b2d027b53972bac948f9", func := "widgetry/widgetrylaw19.GridTracksRaw", spec := "gridTracksRaw", unfollowed := true, recurses := true, apart := false }
def GridTracksRawSaid : Prop := gridTracksRawRow.holds Try.pinned (OpenSpec.ofChange gridTracksRawSpec)

/-- ITS FALSE NEIGHBOUR: 'it returns false'. Refute it at one input. -/
def gridTracksRawWrong : ChangeSpec := { name := "gridTracksRaw", fn := fun _ => fun
  | [d1, d2, d3, d4] => { results := [.lit (.bool false)], args := [d1, d2, d3, d4] }
  | _ => none }
def GridTracksRawWrongFalsely : Prop := gridTracksRawRow.holds Try.pinned (OpenSpec.ofChange gridTracksRawWrong)

/-- 'widgetrylaw19.GridTracks': WHATEVER THE INPUT: true; the input reads as it did. -/
def gridTracksSpec : ChangeSpec := { name := "gridTracks", fn := fun _ => fun
  | [d] => { results := [.lit (.bool true)], args := [d] }
  | _ => none }
def gridTracksRow : OpenClaim := { program := "ytadkkkdecejkeaa", sum := "0a043d240933fad6420822e7ac6798482a1f4c55f180b2d027b53972bac948f9", func := "widgetry/widgetrylaw19.GridTracks", spec := "gridTracks", unfollowed := true, recurses := true, apart := false }
def GridTracksSaid : Prop := gridTracksRow.holds Try.pinned (OpenSpec.ofChange gridTracksSpec)

/-- ITS FALSE NEIGHBOUR: 'it returns false'. Refute it at one input. -/
def gridTracksWrong : ChangeSpec := { name := "gridTracks", fn := fun _ => fun
  | [d] => { results := [.lit (.bool false)], args := [d] }
  | _ => none }
def GridTracksWrongFalsely : Prop := gridTracksRow.holds Try.pinned (OpenSpec.ofChange gridTracksWrong)

/-- 'widgetrylaw19.GridPlaces': WHATEVER THE INPUT: true; the input reads as it did. -/
def gridPlacesSpec : ChangeSpec := { name := "gridPlaces", fn := fun _ => fun
  | [d1, d2] => { results := [.lit (.bool true)], args := [d1, d2] }
  | _ => none }
def gridPlacesRow : OpenClaim := { program := "ytadkkkdecejkeaa", sum := "0a043d240933fad6420822e7ac6798482a1f4c55f180b2d027b53972bac948f9", func := "widgetry/widgetrylaw19.GridPlaces", spec := "gridPlaces", unfollowed := true, recurses := true, apart := false }
def GridPlacesSaid : Prop := gridPlacesRow.holds Try.pinned (OpenSpec.ofChange gridPlacesSpec)

/-- ITS FALSE NEIGHBOUR: 'it returns false'. Refute it at one input. -/
def gridPlacesWrong : ChangeSpec := { name := "gridPlaces", fn := fun _ => fun
  | [d1, d2] => { results := [.lit (.bool false)], args := [d1, d2] }
  | _ => none }
def GridPlacesWrongFalsely : Prop := gridPlacesRow.holds Try.pinned (OpenSpec.ofChange gridPlacesWrong)

/-- 'widgetrylaw19.GridTiles': WHATEVER THE INPUT: true; the input reads as it did. -/
def gridTilesSpec : ChangeSpec := { name := "gridTiles", fn := fun _ => fun
  | [d1, d2] => { results := [.lit (.bool true)], args := [d1, d2] }
  | _ => none }
def gridTilesRow : OpenClaim := { program := "ytadkkkdecejkeaa", sum := "0a043d240933fad6420822e7ac6798482a1f4c55f180b2d027b53972bac948f9", func := "widgetry/widgetrylaw19.GridTiles", spec := "gridTiles", unfollowed := true, recurses := true, apart := false }
def GridTilesSaid : Prop := gridTilesRow.holds Try.pinned (OpenSpec.ofChange gridTilesSpec)

/-- ITS FALSE NEIGHBOUR: 'it returns false'. Refute it at one input. -/
def gridTilesWrong : ChangeSpec := { name := "gridTiles", fn := fun _ => fun
  | [d1, d2] => { results := [.lit (.bool false)], args := [d1, d2] }
  | _ => none }
def GridTilesWrongFalsely : Prop := gridTilesRow.holds Try.pinned (OpenSpec.ofChange gridTilesWrong)

/-- 'widgetrylaw19.GridFills': WHATEVER THE INPUT: true; the input reads as it did. -/
def gridFillsSpec : ChangeSpec := { name := "gridFills", fn := fun _ => fun
  | [d1, d2] => { results := [.lit (.bool true)], args := [d1, d2] }
  | _ => none }
def gridFillsRow : OpenClaim := { program := "ytadkkkdecejkeaa", sum := "0a043d240933fad6420822e7ac6798482a1f4c55f180b2d027b53972bac948f9", func := "widgetry/widgetrylaw19.GridFills", spec := "gridFills", unfollowed := true, recurses := true, apart := false }
def GridFillsSaid : Prop := gridFillsRow.holds Try.pinned (OpenSpec.ofChange gridFillsSpec)

/-- ITS FALSE NEIGHBOUR: 'it returns false'. Refute it at one input. -/
def gridFillsWrong : ChangeSpec := { name := "gridFills", fn := fun _ => fun
  | [d1, d2] => { results := [.lit (.bool false)], args := [d1, d2] }
  | _ => none }
def GridFillsWrongFalsely : Prop := gridFillsRow.holds Try.pinned (OpenSpec.ofChange gridFillsWrong)

/-- 'widgetrylaw19.GridStarts': WHATEVER THE INPUT: true; the input reads as it did. -/
def gridStartsSpec : ChangeSpec := { name := "gridStarts", fn := fun _ => fun
  | [d1, d2] => { results := [.lit (.bool true)], args := [d1, d2] }
  | _ => none }
def gridStartsRow : OpenClaim := { program := "ytadkkkdecejkeaa", sum := "0a043d240933fad6420822e7ac6798482a1f4c55f180b2d027b53972bac948f9", func := "widgetry/widgetrylaw19.GridStarts", spec := "gridStarts", unfollowed := true, recurses := true, apart := false }
def GridStartsSaid : Prop := gridStartsRow.holds Try.pinned (OpenSpec.ofChange gridStartsSpec)

/-- ITS FALSE NEIGHBOUR: 'it returns false'. Refute it at one input. -/
def gridStartsWrong : ChangeSpec := { name := "gridStarts", fn := fun _ => fun
  | [d1, d2] => { results := [.lit (.bool false)], args := [d1, d2] }
  | _ => none }
def GridStartsWrongFalsely : Prop := gridStartsRow.holds Try.pinned (OpenSpec.ofChange gridStartsWrong)

/- THE SECOND FORM. 'bulk': how many values and letters a reading holds, each counted each time it is reached (what is shared counts as often as it is met; a slice's spare places count too). A statement '..UptoSaid' is the law's where the arguments, and the package variables that the reading takes, are together of bulk at most 1048576: NARROWER than '..Said'. Prove '..Said' where nothing that the law and all that it calls make is longer than what came in: it says more and counts as full. Else prove '..UptoSaid'. A law counts once. -/
mutual
def uptoBulk {H : Type} : DataW H → Nat
  | .lit (.string bytes) => bytes.length + 1
  | .lit _ => 1
  | .nil => 1
  | .ptr d => uptoBulk d + 1
  | .slice elems spare => uptoBulkAll elems + uptoBulkAll spare + 1
  | .agg parts => uptoBulkAll parts + 1
  | .iface _ d => uptoBulk d + 1
  | .map entries => uptoBulkEntries entries + 1
  | .held _ => 1
def uptoBulkAll {H : Type} : List (DataW H) → Nat
  | [] => 0
  | d :: r => uptoBulk d + uptoBulkAll r
def uptoBulkEntries {H : Type} : List (Lit × DataW H) → Nat
  | [] => 0
  | x :: r => uptoBulkEntry x + uptoBulkEntries r
def uptoBulkEntry {H : Type} : Lit × DataW H → Nat
  | (.string bytes, d) => bytes.length + uptoBulk d + 1
  | (_, d) => uptoBulk d + 1
 end
def uptoSmall : (H : Type) → List (DataW H) → Bool := fun _ ds => decide (uptoBulkAll ds ≤ 1048576)
def OpenSpec.upto (s : _root_.Go.ChangeSpec) : _root_.Go.OpenSpec := { _root_.Go.OpenSpec.ofChange s with cond := some uptoSmall }

/-- 'widgetrylaw19.GridTracksRaw', WHERE WHAT IT READS IS OF BULK AT MOST 1048576: true; the input reads as it did. -/
def gridTracksRawUptoRow : OpenClaim := { program := "ytadkkkdecejkeaa", sum := "0a043d240933fad6420822e7ac6798482a1f4c55f180b2d027b53972bac948f9", func := "widgetry/widgetrylaw19.GridTracksRaw", spec := "gridTracksRaw", unfollowed := true, recurses := true, apart := false, narrowed := true }
def GridTracksRawUptoSaid : Prop := gridTracksRawUptoRow.holds Try.pinned (OpenSpec.upto gridTracksRawSpec)

/-- 'widgetrylaw19.GridTracks', WHERE WHAT IT READS IS OF BULK AT MOST 1048576: true; the input reads as it did. -/
def gridTracksUptoRow : OpenClaim := { program := "ytadkkkdecejkeaa", sum := "0a043d240933fad6420822e7ac6798482a1f4c55f180b2d027b53972bac948f9", func := "widgetry/widgetrylaw19.GridTracks", spec := "gridTracks", unfollowed := true, recurses := true, apart := false, narrowed := true }
def GridTracksUptoSaid : Prop := gridTracksUptoRow.holds Try.pinned (OpenSpec.upto gridTracksSpec)

/-- 'widgetrylaw19.GridPlaces', WHERE WHAT IT READS IS OF BULK AT MOST 1048576: true; the input reads as it did. -/
def gridPlacesUptoRow : OpenClaim := { program := "ytadkkkdecejkeaa", sum := "0a043d240933fad6420822e7ac6798482a1f4c55f180b2d027b53972bac948f9", func := "widgetry/widgetrylaw19.GridPlaces", spec := "gridPlaces", unfollowed := true, recurses := true, apart := false, narrowed := true }
def GridPlacesUptoSaid : Prop := gridPlacesUptoRow.holds Try.pinned (OpenSpec.upto gridPlacesSpec)

/-- 'widgetrylaw19.GridTiles', WHERE WHAT IT READS IS OF BULK AT MOST 1048576: true; the input reads as it did. -/
def gridTilesUptoRow : OpenClaim := { program := "ytadkkkdecejkeaa", sum := "0a043d240933fad6420822e7ac6798482a1f4c55f180b2d027b53972bac948f9", func := "widgetry/widgetrylaw19.GridTiles", spec := "gridTiles", unfollowed := true, recurses := true, apart := false, narrowed := true }
def GridTilesUptoSaid : Prop := gridTilesUptoRow.holds Try.pinned (OpenSpec.upto gridTilesSpec)

/-- 'widgetrylaw19.GridFills', WHERE WHAT IT READS IS OF BULK AT MOST 1048576: true; the input reads as it did. -/
def gridFillsUptoRow : OpenClaim := { program := "ytadkkkdecejkeaa", sum := "0a043d240933fad6420822e7ac6798482a1f4c55f180b2d027b53972bac948f9", func := "widgetry/widgetrylaw19.GridFills", spec := "gridFills", unfollowed := true, recurses := true, apart := false, narrowed := true }
def GridFillsUptoSaid : Prop := gridFillsUptoRow.holds Try.pinned (OpenSpec.upto gridFillsSpec)

/-- 'widgetrylaw19.GridStarts', WHERE WHAT IT READS IS OF BULK AT MOST 1048576: true; the input reads as it did. -/
def gridStartsUptoRow : OpenClaim := { program := "ytadkkkdecejkeaa", sum := "0a043d240933fad6420822e7ac6798482a1f4c55f180b2d027b53972bac948f9", func := "widgetry/widgetrylaw19.GridStarts", spec := "gridStarts", unfollowed := true, recurses := true, apart := false, narrowed := true }
def GridStartsUptoSaid : Prop := gridStartsUptoRow.holds Try.pinned (OpenSpec.upto gridStartsSpec)

end Rows
end Go.Proofs.Ytadkkkdecejkeaa
