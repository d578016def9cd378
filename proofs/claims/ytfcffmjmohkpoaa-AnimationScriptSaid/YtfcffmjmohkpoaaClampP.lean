/- Clamp of package fixed. -/
import Derived.Test.YtfcffmjmohkpoaaQuiet
namespace Go.Proofs.Ytfcffmjmohkpoaa
open Go.RowKit

/-! ### The integer functions -/
set_option maxHeartbeats 400000 in
theorem clamp_any (x low high : Int) (w : World) :
    Calls Try.prog 51 #[.int .i64 x, .int .i64 low, .int .i64 high] w fun e w' => e = .returned (.int .i64 (clampZ x low high)) ∧ w = w' := by
  by_cases h1 : x < low
  · go_enter Try.func51, Try.ntmps51
    go_wp2
    go_ret
    exact ⟨by rw [clampZ, if_pos (.inl h1)]; rfl, rfl⟩
  · by_cases h2 : high < low
    · go_enter Try.func51, Try.ntmps51
      go_wp2
      go_ret
      exact ⟨by rw [clampZ, if_pos (.inr h2)]; rfl, rfl⟩
    · have h12 : ¬ (x < low ∨ high < low) := by omega
      by_cases h3 : high < x
      · have H : Hid (clampZ x low high = high) := by rw [clampZ, if_neg h12, if_pos h3]; exact rfl
        clear h12
        go_enter Try.func51, Try.ntmps51
        go_wp2
        go_ret
        exact ⟨by rw [H.out]; rfl, rfl⟩
      · have H : Hid (clampZ x low high = x) := by rw [clampZ, if_neg h12, if_neg h3]; exact rfl
        clear h12
        go_enter Try.func51, Try.ntmps51
        go_wp2
        go_ret
        exact ⟨by rw [H.out]; rfl, rfl⟩

end Go.Proofs.Ytfcffmjmohkpoaa
