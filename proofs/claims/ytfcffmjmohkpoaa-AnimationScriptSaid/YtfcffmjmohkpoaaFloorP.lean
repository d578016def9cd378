/- floor, ok and Floor of package fixed. -/
import Derived.Test.YtfcffmjmohkpoaaNumOk
namespace Go.Proofs.Ytfcffmjmohkpoaa
open Go.RowKit

set_option maxHeartbeats 400000 in
theorem floor_any (a b : Int) (w : World) (h0 : -4611686018427387904 ≤ a) (h1 : a ≤ 4611686018427387904) (hb : 1 ≤ b) (hb1 : b ≤ 4611686018427387904) :
    Calls Try.prog 60 #[.int .i64 a, .int .i64 b] w fun e w' => e = .returned (.int .i64 (a / b)) ∧ w = w' := by
  have hz : (b == 0) = false := by simp; omega
  by_cases ha : 0 ≤ a
  · have h2 := (quo_bd (a := a) (b := b) (by omega)).1 ha
    have h3 := Int.emod_nonneg a (show b ≠ 0 by omega)
    go_enter Try.func60, Try.ntmps60
    go_wp2
    go_ret
    exact ⟨rfl, rfl⟩
  · have ha' : a < 0 := by omega
    have h2 := (tdiv_bd (a := a) (b := b) (by omega)).2 ha'
    by_cases hm : a.tmod b < 0
    · have H : Hid (a / b = a.tdiv b - 1) := by rw [floor_pos (by omega), if_pos hm]; exact rfl
      go_enter Try.func60, Try.ntmps60
      go_wp2
      go_ret
      exact ⟨by rw [H.out]; rfl, rfl⟩
    · have H : Hid (a / b = a.tdiv b) := by rw [floor_pos (by omega), if_neg hm]; exact rfl
      go_enter Try.func60, Try.ntmps60
      go_wp2
      go_ret
      exact ⟨by rw [H.out]; rfl, rfl⟩

set_option maxHeartbeats 400000 in
theorem ok_any (a b : Int) (w : World) :
    Calls Try.prog 59 #[.int .i64 a, .int .i64 b] w fun e w' => e = .returned (.bool (numOk a b)) ∧ w = w' := by
  go_enter Try.func59, Try.ntmps59
  go_wp2
  all_goals
    go_ret
    exact ⟨ret_bool (by rw [Bool.eq_iff_iff]; simp [numOk]; try omega), rfl⟩

set_option maxHeartbeats 400000 in
/-- FLOOR OF PACKAGE fixed. -/
theorem Floor_any (a b : Int) (w : World) :
    Calls Try.prog 43 #[.int .i64 a, .int .i64 b] w fun e w' => e = .returned (.int .i64 (floorZ a b)) ∧ w = w' := by
  by_cases hok : numOk a b = true
  · obtain ⟨h0, h1, h2, h3, h4⟩ := numOk_iff.1 hok
    by_cases hb : b < 0
    · have H : Hid (floorZ a b = (-a) / (-b)) := by rw [floorZ, if_pos hok, if_pos hb]; exact rfl
      go_enter Try.func43, Try.ntmps43
      go_wp2_with (first | (go_at_call 59; refine (ok_any _ _ _).mono ?_; rintro e w' ⟨rfl, rfl⟩) | (go_at_call 60; refine (floor_any _ _ _ (by omega) (by omega) (by omega) (by omega)).mono ?_; rintro e w' ⟨rfl, rfl⟩))
      go_ret
      exact ⟨by rw [H.out, Int.ediv_neg]; rfl, rfl⟩
    · have H : Hid (floorZ a b = a / b) := by rw [floorZ, if_pos hok, if_neg hb]; exact rfl
      go_enter Try.func43, Try.ntmps43
      go_wp2_with (first | (go_at_call 59; refine (ok_any _ _ _).mono ?_; rintro e w' ⟨rfl, rfl⟩) | (go_at_call 60; refine (floor_any _ _ _ (by omega) (by omega) (by omega) (by omega)).mono ?_; rintro e w' ⟨rfl, rfl⟩))
      go_ret
      exact ⟨by rw [H.out]; rfl, rfl⟩
  · have hok' : numOk a b = false := by simpa using hok
    have H : Hid (floorZ a b = 0) := by rw [floorZ, if_neg hok]; exact rfl
    clear hok
    go_enter Try.func43, Try.ntmps43
    go_wp2_with (go_at_call 59; refine (ok_any _ _ _).mono ?_; rintro e w' ⟨rfl, rfl⟩)
    go_ret
    exact ⟨by rw [H.out]; rfl, rfl⟩

end Go.Proofs.Ytfcffmjmohkpoaa
