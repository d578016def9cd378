/- Many operations of a drawn region taken at once: the order's conditions in one reckoning. -/
import Derived.Test.YtadkkkdecejkeaaTail
namespace Go.Proofs.Ytadkkkdecejkeaa
open Go
set_option linter.unusedVariables false
set_option linter.unusedSimpArgs false

section
variable {P : Program} {ops : Array Oper} {Q : Exit → Act → World → Prop} {md : Region.Mode} {S : World → Prop} {n : Nat}
def stepOkB (md : Region.Mode) (ops : Array Oper) (n : Nat) (listed : Array Bool) (i : Nat) : Bool :=
  decide (i < n) && headB md ops n listed && Region.free md ops listed i && (Region.ready md ops listed).contains i
def seqB (md : Region.Mode) (ops : Array Oper) (n : Nat) : Array Bool → List Nat → Bool
  | _, [] => true
  | listed, i :: is => stepOkB md ops n listed i && seqB md ops n (listed.setIfInBounds i true) is
def listAll : Array Bool → List Nat → Array Bool
  | listed, [] => listed
  | listed, i :: is => listAll (listed.setIfInBounds i true) is
/-- The operations of these numbers, run one behind the other, bring the frame a to the frame b. -/
def Runs (P : Program) (ops : Array Oper) (S : World → Prop) : List Nat → Act → Act → Prop
  | [], a, b => a = b
  | i :: is, a, b => ∃ oi v j, ops[i]? = some oi ∧ oi.dst = some j ∧ YieldsIf P ops S oi v a ∧ Runs P ops S is (a.put (some j) v) b
theorem Runs.nil {a : Act} : Runs P ops S [] a a := rfl
theorem Runs.cons {i j : Nat} {is : List Nat} {oi : Oper} {v : Value} {a b : Act} (hi : ops[i]? = some oi) (hd : oi.dst = some j) (hy : YieldsIf P ops S oi v a) (h : Runs P ops S is (a.put (some j) v) b) : Runs P ops S (i :: is) a b := ⟨oi, v, j, hi, hd, hy, h⟩
theorem wpAnyT_many (ht : tailB md ops n = true) (hQ : ∀ c a j v w, Q (.panic c) (a.put (some j) v) w → Q (.panic c) a w) : ∀ (is : List Nat) (listed : Array Bool) (fuel : Nat) (a b : Act) (w : World),
    seqB md ops n listed is = true → Runs P ops S is a b → S w → wpAnyT P md ops Q S n fuel (listAll listed is) b w → wpAnyT P md ops Q S n (fuel + is.length) listed a w
  | [], listed, fuel, a, b, w, _, hr, _, h => by
    have e : a = b := hr
    subst e; exact h
  | i :: is, listed, fuel, a, b, w, hs, hr, hS, h => by
    obtain ⟨oi, v, j, hi, hd, hy, hr⟩ := hr
    simp only [seqB, stepOkB, Bool.and_eq_true] at hs
    obtain ⟨⟨⟨⟨h1, h2⟩, h3⟩, h4⟩, h5⟩ := hs
    exact wpAnyT_take hi ht h1 h2 h3 h4 (fun c a' w' hq => hQ c a' j v w' (by rw [hd] at hq; exact hq)) hy hS (by rw [hd]; exact wpAnyT_many ht hQ is _ fuel _ b w h5 hr hS h)
end
end Go.Proofs.Ytadkkkdecejkeaa
