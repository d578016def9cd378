/- A walk that stops ahead of the operation that fills a slot: go_wp2_with (refine stop_dst 32 ?_). -/
import Derived.Test.YtfcffmjmohkpoaaQuiet
namespace Go.Proofs.Ytfcffmjmohkpoaa
open Go.RowKit

/-- A goal that no step of the walk takes. -/
structure Stop (p : Prop) : Prop where
  on : p
theorem stop_dst (d : Nat) {P : Program} {ops : Array Oper} {Q : Exit → Act → World → Prop} {o : Op} {t : TypeId} {s : String} {af : Array Edge} {g : Option (Nat × Bool)} {rest : List Oper} {a : Act} {w : World}
    (h : Stop (wpList P ops Q (⟨some d, o, t, s, af, g⟩ :: rest) a w)) : wpList P ops Q (⟨some d, o, t, s, af, g⟩ :: rest) a w := h.on
theorem go_on {p : Prop} (h : p) : Stop p := ⟨h⟩
end Go.Proofs.Ytfcffmjmohkpoaa
