/- When Scale gives an error. -/
import Derived.Test.YtcjhefkipghloaaNumOk
namespace Go.Proofs.Ytcjhefkipghloaa
open Go.RowKit

theorem scale_case (x num den : Int) : (scaleE x num den = 1 ∧ scaleZ x num den = 0 ∧ (x < -1099511627776 ∨ (-1099511627776 ≤ x ∧ 1099511627776 < x) ∨ (-1099511627776 ≤ x ∧ x ≤ 1099511627776 ∧ num < 0) ∨
      (-1099511627776 ≤ x ∧ x ≤ 1099511627776 ∧ 0 ≤ num ∧ 65536 < num) ∨ (-1099511627776 ≤ x ∧ x ≤ 1099511627776 ∧ 0 ≤ num ∧ num ≤ 65536 ∧ den < 1) ∨ (-1099511627776 ≤ x ∧ x ≤ 1099511627776 ∧ 0 ≤ num ∧ num ≤ 65536 ∧ 1 ≤ den ∧ 65536 < den))) ∨
    (scaleE x num den = 0 ∧ scaleZ x num den = roundZ (x * num) den ∧ -1099511627776 ≤ x ∧ x ≤ 1099511627776 ∧ 0 ≤ num ∧ num ≤ 65536 ∧ 1 ≤ den ∧ den ≤ 65536) := by
  by_cases h : x < -1099511627776 ∨ 1099511627776 < x ∨ num < 0 ∨ 65536 < num ∨ den < 1 ∨ 65536 < den
  · left
    have e : scaleE x num den = 1 := by rw [scaleE, if_pos h]
    exact ⟨e, by rw [scaleZ, if_neg (by omega)], by omega⟩
  · right
    have e : scaleE x num den = 0 := by rw [scaleE, if_neg h]
    exact ⟨e, by rw [scaleZ, if_pos e], by omega⟩
theorem mul_bd_sym {x n m k : Int} (h0 : -m ≤ x) (h1 : x ≤ m) (h2 : 0 ≤ n) (h3 : n ≤ k) (hm : 0 ≤ m) : -(m * k) ≤ x * n ∧ x * n ≤ m * k := by
  have a1 : x * n ≤ m * n := Int.mul_le_mul_of_nonneg_right h1 h2
  have a2 : -m * n ≤ x * n := Int.mul_le_mul_of_nonneg_right h0 h2
  have a3 : m * n ≤ m * k := Int.mul_le_mul_of_nonneg_left h3 hm
  rw [Int.neg_mul] at a2
  omega

end Go.Proofs.Ytcjhefkipghloaa
