/- When a quotient is defined. -/
import Derived.Test.YtfcffmjmohkpoaaQuiet
import Derived.Test.YtfcffmjmohkpoaaPlainB
namespace Go.Proofs.Ytfcffmjmohkpoaa
open Go.RowKit

theorem numOk_iff {a b : Int} : numOk a b = true ↔ b ≠ 0 ∧ -1152921504606846976 ≤ a ∧ a ≤ 1152921504606846976 ∧ -1152921504606846976 ≤ b ∧ b ≤ 1152921504606846976 := by simp [numOk]

theorem tdiv_bd' {a b : Int} (hb : b ≠ 0) (h0 : -1152921504606846976 ≤ a) (h1 : a ≤ 1152921504606846976) : -1152921504606846976 ≤ a.tdiv b ∧ a.tdiv b ≤ 1152921504606846976 := by
  by_cases h : b < 0
  · rw [tdiv_neg_neg]
    have := tdiv_bd (a := -a) (b := -b) (by omega)
    by_cases ha : 0 ≤ -a
    · have := this.1 ha; omega
    · have := this.2 (by omega); omega
  · have := tdiv_bd (a := a) (b := b) (by omega)
    by_cases ha : 0 ≤ a
    · have := this.1 ha; omega
    · have := this.2 (by omega); omega

end Go.Proofs.Ytfcffmjmohkpoaa
