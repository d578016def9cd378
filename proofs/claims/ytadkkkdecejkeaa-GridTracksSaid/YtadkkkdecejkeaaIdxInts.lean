/- slices.IndexFunc and slices.ContainsFunc over numbers, at a predicate that has a contract. -/
import Derived.Test.YtadkkkdecejkeaaQuiet
namespace Go.Proofs.Ytadkkkdecejkeaa
open Go.RowKit

def noneTo (p : Int → Bool) (xs : List Int) (k : Nat) : Prop := ∀ j, j < k → p (gz xs j) = false
theorem noneTo_zero (p : Int → Bool) (xs : List Int) : noneTo p xs 0 := fun _ h => absurd h (Nat.not_lt_zero _)
theorem noneTo_succ {p : Int → Bool} {xs : List Int} {k : Nat} (h : noneTo p xs k) (e : p (gz xs k) = false) : noneTo p xs (k + 1) := by
  intro j hj
  by_cases c : j = k
  · subst c; exact e
  · exact h j (by omega)
theorem any_of_hit {p : Int → Bool} {xs : List Int} {k : Nat} (hk : k < xs.length) (e : p (gz xs k) = true) : xs.any p = true := by
  rw [List.any_eq_true]
  have e2 : gz xs k = xs[k] := by simp [gz, hk]
  exact ⟨xs[k], List.getElem_mem hk, by rw [← e2]; exact e⟩
theorem any_of_none {p : Int → Bool} {xs : List Int} (h : noneTo p xs xs.length) : xs.any p = false := by
  rw [List.any_eq_false]
  intro x hx
  obtain ⟨j, hj, rfl⟩ := List.mem_iff_getElem.1 hx
  have := h j hj
  have e : gz xs j = xs[j] := by simp [gz, hj]
  rw [e] at this
  simp [this]
theorem none_of_any {p : Int → Bool} {xs : List Int} (h : xs.any p = false) : noneTo p xs xs.length := by
  intro j hj
  rw [List.any_eq_false] at h
  have := h xs[j] (List.getElem_mem hj)
  have e : gz xs j = xs[j] := by simp [gz, hj]
  rw [e]
  simpa using this

/-- What IndexFunc gives: a number that is negative just where no element hits. -/
def FoundI (p : Int → Bool) (xs : List Int) (w : World) (e : Ending) (w' : World) : Prop :=
  ∃ n : Int, e = .returned (.int .i64 n) ∧ (xs.any p = true ↔ 0 ≤ n) ∧ w = w'

end Go.Proofs.Ytadkkkdecejkeaa
