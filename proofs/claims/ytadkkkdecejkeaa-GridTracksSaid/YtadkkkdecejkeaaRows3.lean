/- Three rows of the call's own that lie apart. -/
import Derived.Test.YtadkkkdecejkeaaBoxStep
import Derived.Test.YtadkkkdecejkeaaTrkPlainB
import Derived.Test.YtadkkkdecejkeaaTail
import Derived.Deep.AppendLies
namespace Go.Proofs.Ytadkkkdecejkeaa
open Go.RowKit
set_option linter.unusedVariables false
set_option linter.unusedSimpArgs false

def sep (a b : Value) : Prop := ∀ x, a.ownBlock = some x → b.ownBlock ≠ some x
theorem sep.symm {a b : Value} (h : sep a b) : sep b a := fun x hb ha => h x ha hb
/-- Rows a, b, c of numbers from H on. -/
structure Rows3 (H : Nat) (a b c : Value) (na nb nc : Nat) (A B C : List Value) (w : World) : Prop where
  oa : w.ownsRow H 3 1 a na A
  ob : w.ownsRow H 3 1 b nb B
  oc : w.ownsRow H 3 1 c nc C
  ab : sep a b
  ac : sep a c
  bc : sep b c
  hw : H ≤ w.heap.size
section
variable {H : Nat} {a b c : Value} {na nb nc : Nat} {A B C : List Value} {w w' : World}
theorem Rows3.nil (hw : H ≤ w.heap.size) : Rows3 H (.slice none 0 0) (.slice none 0 0) (.slice none 0 0) 0 0 0 [] [] [] w :=
  ⟨World.ownsRow_nil _ _ _ _, World.ownsRow_nil _ _ _ _, World.ownsRow_nil _ _ _ _, fun x h => (by cases h), fun x h => (by cases h), fun x h => (by cases h), hw⟩
theorem Rows3.alloc (h : Rows3 H a b c na nb nc A B C w) (o : Obj) : Rows3 H a b c na nb nc A B C (w.alloc o) := ⟨h.oa.alloc _, h.ob.alloc _, h.oc.alloc _, h.ab, h.ac, h.bc, by have := h.hw; simp; omega⟩
theorem Rows3.drew (h : Rows3 H a b c na nb nc A B C w) : Rows3 H a b c na nb nc A B C w.drew := ⟨h.oa, h.ob, h.oc, h.ab, h.ac, h.bc, h.hw⟩
theorem sep.kept {x y : Value} (h : sep x y) : y.ownBlock = none ∨ y.ownBlock ≠ x.ownBlock := by
  cases e : y.ownBlock with
  | none => exact .inl rfl
  | some q => exact .inr (fun k => h q k.symm e)
theorem sep.new {x y : Value} {g m cap n sz e : Nat} {xs : List Value} (h : sep x y) (ho : w.ownsRow H e sz y n xs) (hat : x.ownBlock = some g ∨ g = w.heap.size) : sep (.slice (some ⟨g, 0, none⟩) m cap) y := fun q hq hy => by
  have hg : g = q := by simpa [Value.ownBlock] using hq
  subst hg
  rcases hat with h1 | h1
  · exact h _ h1 hy
  · have := (ho.lt _ hy).2; omega
theorem Rows3.appA {g m cap : Nat} {A' : List Value} (h : Rows3 H a b c na nb nc A B C w) (hg : w.grownBy w' a.ownBlock) (ho : w'.ownsRow H 3 1 (.slice (some ⟨g, 0, none⟩) m cap) m A') (hat : a.ownBlock = some g ∨ g = w.heap.size) : Rows3 H (.slice (some ⟨g, 0, none⟩) m cap) b c m nb nc A' B C w' :=
  ⟨ho, h.ob.kept hg h.ab.kept, h.oc.kept hg h.ac.kept, h.ab.new h.ob hat, h.ac.new h.oc hat, h.bc, Nat.le_trans h.hw hg.size⟩
theorem Rows3.appB {g m cap : Nat} {B' : List Value} (h : Rows3 H a b c na nb nc A B C w) (hg : w.grownBy w' b.ownBlock) (ho : w'.ownsRow H 3 1 (.slice (some ⟨g, 0, none⟩) m cap) m B') (hat : b.ownBlock = some g ∨ g = w.heap.size) : Rows3 H a (.slice (some ⟨g, 0, none⟩) m cap) c na m nc A B' C w' :=
  ⟨h.oa.kept hg h.ab.symm.kept, ho, h.oc.kept hg h.bc.kept, (h.ab.symm.new h.oa hat).symm, h.ac, h.bc.new h.oc hat, Nat.le_trans h.hw hg.size⟩
theorem Rows3.appC {g m cap : Nat} {C' : List Value} (h : Rows3 H a b c na nb nc A B C w) (hg : w.grownBy w' c.ownBlock) (ho : w'.ownsRow H 3 1 (.slice (some ⟨g, 0, none⟩) m cap) m C') (hat : c.ownBlock = some g ∨ g = w.heap.size) : Rows3 H a b (.slice (some ⟨g, 0, none⟩) m cap) na nb m A B C' w' :=
  ⟨h.oa.kept hg h.ac.symm.kept, h.ob.kept hg h.bc.symm.kept, ho, h.ab, (h.ac.symm.new h.oa hat).symm, (h.bc.symm.new h.ob hat).symm, Nat.le_trans h.hw hg.size⟩
theorem Rows3.low {P : Nat} (h : Rows3 H a b c na nb nc A B C w) {u : World} (hb : Below P u w) : Below P u w := hb
end
end Go.Proofs.Ytadkkkdecejkeaa
