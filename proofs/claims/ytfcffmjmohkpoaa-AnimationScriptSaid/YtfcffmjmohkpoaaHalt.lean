/- A walk that stops ahead of the operation that fills a slot: go_wp2_with (refine halt_dst 32 ?_; intro G HGo), then refine HGo.out ?_. -/
import Derived.Test.YtfcffmjmohkpoaaQuiet
namespace Go.Proofs.Ytfcffmjmohkpoaa
open Go.RowKit

theorem halt_dst (d : Nat) {P : Program} {ops : Array Oper} {Q : Exit → Act → World → Prop} {o : Op} {t : TypeId} {s : String} {af : Array Edge} {g : Option (Nat × Bool)} {rest : List Oper} {a : Act} {w : World}
    (h : ∀ G : Prop, Hid (wpList P ops Q (⟨some d, o, t, s, af, g⟩ :: rest) a w → G) → G) : wpList P ops Q (⟨some d, o, t, s, af, g⟩ :: rest) a w := h _ (Lib.hid id)
end Go.Proofs.Ytfcffmjmohkpoaa
