/- Round of package fixed. -/
import Derived.Test.YtfcffmjmohkpoaaFloorP
namespace Go.Proofs.Ytfcffmjmohkpoaa
open Go.RowKit

set_option maxHeartbeats 400000 in
/-- ROUND OF PACKAGE fixed. -/
theorem Round_any (a b : Int) (w : World) :
    Calls Try.prog 50 #[.int .i64 a, .int .i64 b] w fun e w' => e = .returned (.int .i64 (roundZ a b)) ∧ w = w' := by
  by_cases hok : numOk a b = true
  · obtain ⟨h0, h1, h2, h3, h4⟩ := numOk_iff.1 hok
    by_cases hb : b < 0
    · have H : Hid (roundZ a b = (2 * -a + -b) / (2 * -b)) := by rw [roundZ, if_pos hok, if_pos hb]; exact rfl
      go_enter Try.func50, Try.ntmps50
      go_wp2_with (first | (go_at_call 59; refine (ok_any _ _ _).mono ?_; rintro e w' ⟨rfl, rfl⟩) | (go_at_call 60; refine (floor_any _ _ _ (by omega) (by omega) (by omega) (by omega)).mono ?_; rintro e w' ⟨rfl, rfl⟩))
      go_ret
      exact ⟨by rw [H.out]; rfl, rfl⟩
    · have H : Hid (roundZ a b = (2 * a + b) / (2 * b)) := by rw [roundZ, if_pos hok, if_neg hb]; exact rfl
      go_enter Try.func50, Try.ntmps50
      go_wp2_with (first | (go_at_call 59; refine (ok_any _ _ _).mono ?_; rintro e w' ⟨rfl, rfl⟩) | (go_at_call 60; refine (floor_any _ _ _ (by omega) (by omega) (by omega) (by omega)).mono ?_; rintro e w' ⟨rfl, rfl⟩))
      go_ret
      exact ⟨by rw [H.out]; rfl, rfl⟩
  · have hok' : numOk a b = false := by simpa using hok
    have H : Hid (roundZ a b = 0) := by rw [roundZ, if_neg hok]; exact rfl
    clear hok
    go_enter Try.func50, Try.ntmps50
    go_wp2_with (go_at_call 59; refine (ok_any _ _ _).mono ?_; rintro e w' ⟨rfl, rfl⟩)
    go_ret
    exact ⟨by rw [H.out]; rfl, rfl⟩
end Go.Proofs.Ytfcffmjmohkpoaa
