/- within and heights of package scroll. -/
import Derived.Test.YtchlnelpgjjmgaaIdxInts
namespace Go.Proofs.Ytchlnelpgjjmgaa
open Go.RowKit

def farZ (n : Int) : Bool := decide (n < -1099511627776) || decide (1099511627776 < n)
def noHeight (n : Int) : Bool := decide (n < 0) || decide (1099511627776 < n)

set_option maxHeartbeats 400000 in
theorem within1_any (x : Int) (w : World) : Calls Try.prog 33 #[.int .i64 x] w fun e w' => e = .returned (.bool (farZ x)) ∧ w = w' := by
  go_enter Try.func33, Try.ntmps33
  go_wp2
  all_goals
    go_ret
    exact ⟨ret_bool (by rw [Bool.eq_iff_iff]; simp [farZ]; try omega), rfl⟩
set_option maxHeartbeats 400000 in
theorem heights1_any (x : Int) (w : World) : Calls Try.prog 34 #[.int .i64 x] w fun e w' => e = .returned (.bool (noHeight x)) ∧ w = w' := by
  go_enter Try.func34, Try.ntmps34
  go_wp2
  all_goals
    go_ret
    exact ⟨ret_bool (by rw [Bool.eq_iff_iff]; simp [noHeight]; try omega), rfl⟩

set_option maxHeartbeats 400000 in
theorem within1_index (v : Value) (xs : List Int) (w : World) (hv : IsInts w v xs) :
    Calls Try.prog 37 #[v, .func (.func 33) #[] #[]] w (FoundI farZ xs w) := by
  obtain ⟨a, cap, rfl, h1, h2, h3⟩ := hv
  obtain ⟨n, hn⟩ : ∃ n, xs.length = n := ⟨_, rfl⟩
  rw [hn] at h1 h3 ⊢
  have H3 := Lib.hid h3
  have HN := Lib.hid hn
  clear h3 hn
  unfold maxLen at h2
  go_enter Try.func37, Try.ntmps37
  go_wp2
  go_loop [8] (fun i => ∃ k : Nat, k ≤ n ∧ i = .int .i64 k ∧ noneTo farZ xs k) (fun i => n - (intOf i).toNat)
  case atStart => exact ⟨0, Nat.zero_le _, rfl, noneTo_zero _ _⟩
  case round =>
    obtain ⟨k, hk, rfl, hno⟩ := hrel
    by_cases hkn : k < n
    · obtain ⟨b, off, rfl, _, hcell⟩ := H3.out (by omega)
      have hck := hcell k hkn
      clear hcell
      by_cases hp : farZ (gz xs k) = true
      · have HP := Lib.hid hp
        clear hp
        go_wp2_with fail
        refine (within1_any _ _).mono ?_
        rw [HP.out]
        rintro e w' ⟨rfl, rfl⟩
        go_wp2
        go_ret
        exact ⟨k, rfl, ⟨fun _ => by omega, fun _ => any_of_hit (by rw [HN.out]; exact hkn) HP.out⟩, rfl⟩
      · have hp' : farZ (gz xs k) = false := by simpa using hp
        have HP := Lib.hid hp'
        clear hp hp'
        go_wp2_with fail
        refine (within1_any _ _).mono ?_
        rw [HP.out]
        rintro e w' ⟨rfl, rfl⟩
        go_wp2
        go_round
        case rel => exact ⟨k + 1, by omega, by go_num, noneTo_succ hno HP.out⟩
        case measure => simp [intOf]; omega
    · obtain rfl : k = n := by omega
      go_wp2
      go_ret
      refine ⟨-1, rfl, ⟨fun h => ?_, fun h => by omega⟩, rfl⟩
      rw [any_of_none (by rw [HN.out]; exact hno)] at h
      simp at h

set_option maxHeartbeats 400000 in
theorem within1_contains (v : Value) (xs : List Int) (w : World) (hv : IsInts w v xs) :
    Calls Try.prog 32 #[v, .func (.func 33) #[] #[]] w fun e w' => e = .returned (.bool (xs.any farZ)) ∧ w = w' := by
  go_enter Try.func32, Try.ntmps32
  go_wp2_with fail
  refine (within1_index _ xs _ hv).mono ?_
  rintro e w' ⟨n, rfl, hn, rfl⟩
  have H := Lib.hid hn
  clear hn
  go_wp2
  go_ret
  exact ⟨ret_bool (by rw [Bool.eq_iff_iff, H.out]; simp), rfl⟩

set_option maxHeartbeats 400000 in
theorem heights1_index (v : Value) (xs : List Int) (w : World) (hv : IsInts w v xs) :
    Calls Try.prog 37 #[v, .func (.func 34) #[] #[]] w (FoundI noHeight xs w) := by
  obtain ⟨a, cap, rfl, h1, h2, h3⟩ := hv
  obtain ⟨n, hn⟩ : ∃ n, xs.length = n := ⟨_, rfl⟩
  rw [hn] at h1 h3 ⊢
  have H3 := Lib.hid h3
  have HN := Lib.hid hn
  clear h3 hn
  unfold maxLen at h2
  go_enter Try.func37, Try.ntmps37
  go_wp2
  go_loop [8] (fun i => ∃ k : Nat, k ≤ n ∧ i = .int .i64 k ∧ noneTo noHeight xs k) (fun i => n - (intOf i).toNat)
  case atStart => exact ⟨0, Nat.zero_le _, rfl, noneTo_zero _ _⟩
  case round =>
    obtain ⟨k, hk, rfl, hno⟩ := hrel
    by_cases hkn : k < n
    · obtain ⟨b, off, rfl, _, hcell⟩ := H3.out (by omega)
      have hck := hcell k hkn
      clear hcell
      by_cases hp : noHeight (gz xs k) = true
      · have HP := Lib.hid hp
        clear hp
        go_wp2_with fail
        refine (heights1_any _ _).mono ?_
        rw [HP.out]
        rintro e w' ⟨rfl, rfl⟩
        go_wp2
        go_ret
        exact ⟨k, rfl, ⟨fun _ => by omega, fun _ => any_of_hit (by rw [HN.out]; exact hkn) HP.out⟩, rfl⟩
      · have hp' : noHeight (gz xs k) = false := by simpa using hp
        have HP := Lib.hid hp'
        clear hp hp'
        go_wp2_with fail
        refine (heights1_any _ _).mono ?_
        rw [HP.out]
        rintro e w' ⟨rfl, rfl⟩
        go_wp2
        go_round
        case rel => exact ⟨k + 1, by omega, by go_num, noneTo_succ hno HP.out⟩
        case measure => simp [intOf]; omega
    · obtain rfl : k = n := by omega
      go_wp2
      go_ret
      refine ⟨-1, rfl, ⟨fun h => ?_, fun h => by omega⟩, rfl⟩
      rw [any_of_none (by rw [HN.out]; exact hno)] at h
      simp at h

set_option maxHeartbeats 400000 in
theorem heights1_contains (v : Value) (xs : List Int) (w : World) (hv : IsInts w v xs) :
    Calls Try.prog 32 #[v, .func (.func 34) #[] #[]] w fun e w' => e = .returned (.bool (xs.any noHeight)) ∧ w = w' := by
  go_enter Try.func32, Try.ntmps32
  go_wp2_with fail
  refine (heights1_index _ xs _ hv).mono ?_
  rintro e w' ⟨n, rfl, hn, rfl⟩
  have H := Lib.hid hn
  clear hn
  go_wp2
  go_ret
  exact ⟨ret_bool (by rw [Bool.eq_iff_iff, H.out]; simp), rfl⟩

set_option maxHeartbeats 400000 in
theorem within_any (v : Value) (xs : List Int) (w : World) (hv : IsInts w v xs) :
    Calls Try.prog 22 #[v] w fun e w' => e = .returned (.bool (!xs.any farZ)) ∧ w = w' := by
  go_enter Try.func22, Try.ntmps22
  go_wp2_with fail
  refine (within1_contains _ xs _ hv).mono ?_
  rintro e w' ⟨rfl, rfl⟩
  go_wp2
  go_ret
  exact ⟨rfl, rfl⟩
set_option maxHeartbeats 400000 in
theorem heights_any (v : Value) (xs : List Int) (w : World) (hv : IsInts w v xs) :
    Calls Try.prog 23 #[v] w fun e w' => e = .returned (.bool (!xs.any noHeight)) ∧ w = w' := by
  go_enter Try.func23, Try.ntmps23
  go_wp2_with fail
  refine (heights1_contains _ xs _ hv).mono ?_
  rintro e w' ⟨rfl, rfl⟩
  go_wp2
  go_ret
  exact ⟨rfl, rfl⟩
end Go.Proofs.Ytchlnelpgjjmgaa
