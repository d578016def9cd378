/- Plain mathematics of the law AnimationFull: the list of k springs, and Set upon it. -/
import Derived.Test.YtfcffmjmohkpoaaSetPlain
namespace Go.Proofs.Ytfcffmjmohkpoaa
open Go.RowKit
set_option linter.unusedVariables false
set_option linter.unusedSimpArgs false

/-- The law's spring of node i. -/
def fullA (i : Int) : Anim := ⟨i, 0, 2, 0, 10, 0, 0, 0, 0, 0, 0, 200, 240, 0, 0, 0⟩
def fullL (k : Nat) : List Anim := (List.range k).map fun i : Nat => fullA ((i : Int) + 1)
theorem fullL_len (k : Nat) : (fullL k).length = k := by simp [fullL]
def stepB (k : Nat) : Bool := decide (setErr (fullL k) (fullA ((k : Int) + 1)) 0 = 0) && decide ((setOn (fullL k) (fullA ((k : Int) + 1)) 0).map recA = (fullL (k + 1)).map recA)
set_option maxRecDepth 100000 in
theorem full_all : ((List.range 64).all stepB) = true := by decide +kernel
theorem full_step {k : Nat} (h : k < 64) : setErr (fullL k) (fullA ((k : Int) + 1)) 0 = 0 ∧ (setOn (fullL k) (fullA ((k : Int) + 1)) 0).map recA = (fullL (k + 1)).map recA := by
  have := List.all_eq_true.1 full_all k (List.mem_range.2 h)
  simpa [stepB] using this
def moreB (n : Nat) : Bool := decide (setErr (fullL 64) (fullA (65 + (n : Int))) 0 = 11)
def lessB (n : Nat) : Bool := decide (setErr (fullL 64) (fullA (1 + (n : Int))) 0 = 0) && decide ((setOn (fullL 64) (fullA (1 + (n : Int))) 0).length = 64)
set_option maxRecDepth 100000 in
theorem more_all : ((List.range 256).all moreB) = true := by decide +kernel
set_option maxRecDepth 100000 in
theorem less_all : ((List.range 64).all lessB) = true := by decide +kernel
theorem full_more {n : Nat} (h : n < 256) : setErr (fullL 64) (fullA (65 + (n : Int))) 0 = 11 := by
  have := List.all_eq_true.1 more_all n (List.mem_range.2 h)
  simpa [moreB] using this
theorem full_less {n : Nat} (h : n < 64) : setErr (fullL 64) (fullA (1 + (n : Int))) 0 = 0 ∧ (setOn (fullL 64) (fullA (1 + (n : Int))) 0).length = 64 := by
  have := List.all_eq_true.1 less_all n (List.mem_range.2 h)
  simpa [lessB] using this
theorem IsAnims.congr {w : World} {v : Value} {l m : List Anim} (h : IsAnims w v l) (e : l.map recA = m.map recA) : IsAnims w v m := by
  unfold IsAnims at h ⊢
  rwa [← e]
end Go.Proofs.Ytfcffmjmohkpoaa
