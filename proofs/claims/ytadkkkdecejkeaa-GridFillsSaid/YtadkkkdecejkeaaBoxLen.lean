/- length of package box, and its closure in slices.ContainsFunc. -/
import Derived.Test.YtadkkkdecejkeaaIdxInts
import Derived.Test.YtadkkkdecejkeaaBoxPlain
namespace Go.Proofs.Ytadkkkdecejkeaa
open Go.RowKit
set_option linter.unusedVariables false
set_option linter.unusedSimpArgs false

def noLen (x : Int) : Bool := !lenB x
set_option maxHeartbeats 400000 in
theorem len1_any (x : Int) (w : World) : Calls Try.prog 57 #[.int .i64 x] w fun e w' => e = .returned (.bool (noLen x)) ∧ w = w' := by
  go_enter Try.func57, Try.ntmps57
  go_wp2
  all_goals
    go_ret
    exact ⟨ret_bool (by rw [Bool.eq_iff_iff]; simp [noLen, lenB]; try omega), rfl⟩

set_option maxHeartbeats 400000 in
theorem len1_index (v : Value) (xs : List Int) (w : World) (hv : IsInts w v xs) :
    Calls Try.prog 60 #[v, .func (.func 57) #[] #[]] w (FoundI noLen xs w) := by
  obtain ⟨a, cap, rfl, h1, h2, h3⟩ := hv
  obtain ⟨n, hn⟩ : ∃ n, xs.length = n := ⟨_, rfl⟩
  rw [hn] at h1 h3 ⊢
  have H3 := Lib.hid h3
  have HN := Lib.hid hn
  clear h3 hn
  unfold maxLen at h2
  go_enter Try.func60, Try.ntmps60
  go_wp2
  go_loop [8] (fun i => ∃ k : Nat, k ≤ n ∧ i = .int .i64 k ∧ noneTo noLen xs k) (fun i => n - (intOf i).toNat)
  case atStart => exact ⟨0, Nat.zero_le _, rfl, noneTo_zero _ _⟩
  case round =>
    obtain ⟨k, hk, rfl, hno⟩ := hrel
    by_cases hkn : k < n
    · obtain ⟨b, off, rfl, _, hcell⟩ := H3.out (by omega)
      have hck := hcell k hkn
      clear hcell
      by_cases hp : noLen (gz xs k) = true
      · have HP := Lib.hid hp
        clear hp
        go_wp2_with fail
        refine (len1_any _ _).mono ?_
        rw [HP.out]
        rintro e w' ⟨rfl, rfl⟩
        go_wp2
        go_ret
        exact ⟨k, rfl, ⟨fun _ => by omega, fun _ => any_of_hit (by rw [HN.out]; exact hkn) HP.out⟩, rfl⟩
      · have hp' : noLen (gz xs k) = false := by simpa using hp
        have HP := Lib.hid hp'
        clear hp hp'
        go_wp2_with fail
        refine (len1_any _ _).mono ?_
        rw [HP.out]
        rintro e w' ⟨rfl, rfl⟩
        go_wp2
        go_round
        case rel => exact ⟨k + 1, by omega, by go_num, noneTo_succ hno HP.out⟩
        case measure => simp [intOf]; omega
    · obtain rfl : k = n := by omega
      go_wp2
      go_ret
      refine ⟨-1, rfl, ⟨fun h => ?_, fun h => by omega⟩, rfl⟩
      rw [any_of_none (by rw [HN.out]; exact hno)] at h
      simp at h

set_option maxHeartbeats 400000 in
theorem len1_contains (v : Value) (xs : List Int) (w : World) (hv : IsInts w v xs) :
    Calls Try.prog 56 #[v, .func (.func 57) #[] #[]] w fun e w' => e = .returned (.bool (xs.any noLen)) ∧ w = w' := by
  go_enter Try.func56, Try.ntmps56
  go_wp2_with fail
  refine (len1_index _ xs _ hv).mono ?_
  rintro e w' ⟨n, rfl, hn, rfl⟩
  have H := Lib.hid hn
  clear hn
  go_wp2
  go_ret
  exact ⟨ret_bool (by rw [Bool.eq_iff_iff, H.out]; simp), rfl⟩

/-- All numbers are lengths. -/
def lensB (xs : List Int) : Bool := xs.all lenB
theorem lensB_any (xs : List Int) : (!(xs.any noLen)) = lensB xs := by
  induction xs with
  | nil => rfl
  | cons x xs ih => simp only [List.any_cons, lensB, List.all_cons, Bool.not_or]; rw [ih]; simp [noLen, lensB]
set_option maxHeartbeats 400000 in
theorem length_any (v : Value) (xs : List Int) (w : World) (hv : IsInts w v xs) :
    Calls Try.prog 53 #[v] w fun e w' => e = .returned (.bool (lensB xs)) ∧ w = w' := by
  have HL := Lib.hid (lensB_any xs)
  go_enter Try.func53, Try.ntmps53
  go_wp2_with fail
  refine (len1_contains _ xs _ hv).mono ?_
  rintro e w' ⟨rfl, rfl⟩
  go_wp2
  go_ret
  exact ⟨ret_bool HL.out, rfl⟩
end Go.Proofs.Ytadkkkdecejkeaa
