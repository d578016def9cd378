/- Size of package theme and of the reference. -/
import Derived.Test.YtcjhefkipghloaaThemePlain
import Derived.Test.YtcjhefkipghloaaScaleP
import Derived.Test.YtcjhefkipghloaaScaleR
import Derived.Test.YtcjhefkipghloaaClampP
import Derived.Test.YtcjhefkipghloaaClampR
namespace Go.Proofs.Ytcjhefkipghloaa
open Go.RowKit

/-- The call returns the number z; of what was there nothing has turned. -/
def Gives (z : Int) (w : World) (e : Ending) (w' : World) : Prop := e = .returned (.int .i64 z) ∧ Below w.heap.size w w'

set_option maxHeartbeats 800000 in
theorem size_any (dark high : Bool) (scale size : Int) (w : World) :
    Calls Try.prog 8 #[.agg #[.bool dark, .bool high, .int .i64 scale], .int .i64 size] w (Gives (sizeZ scale size) w) := by
  by_cases h : 50 ≤ scale ∧ scale ≤ 400 ∧ 1 ≤ size ∧ size ≤ 1000
  · have HS : Hid (sizeZ scale size = clampZ (scaleZ size scale 100) 1 1000) := by show _ = _; rw [sizeZ, if_pos h]
    obtain ⟨h1, h2, h3, h4⟩ := h
    go_enter Try.func8, Try.ntmps8
    go_wp2_with (first | (go_at_call 23; refine (Scale_any _ _ _ _).mono ?_; rintro e w' ⟨rfl, rfl⟩) | (go_at_call 24; refine (clamp_any _ _ _ _).mono ?_; rintro e w' ⟨rfl, rfl⟩))
    go_ret
    exact ⟨by rw [HS.out]; rfl, (Below.refl _ _).alloc (Nat.le_refl _) _⟩
  · have HS : Hid (sizeZ scale size = clampZ size 1 1000) := by show _ = _; rw [sizeZ, if_neg h]
    have hc : scale < 50 ∨ (50 ≤ scale ∧ 400 < scale) ∨ (50 ≤ scale ∧ scale ≤ 400 ∧ size < 1) ∨ (50 ≤ scale ∧ scale ≤ 400 ∧ 1 ≤ size ∧ 1000 < size) := by omega
    clear h
    rcases hc with h | h | h | h
    all_goals
      go_enter Try.func8, Try.ntmps8
      go_wp2_with (go_at_call 24; refine (clamp_any _ _ _ _).mono ?_; rintro e w' ⟨rfl, rfl⟩)
      go_ret
      exact ⟨by rw [HS.out]; rfl, (Below.refl _ _).alloc (Nat.le_refl _) _⟩

set_option maxHeartbeats 800000 in
theorem rsize_any (dark high : Bool) (scale size : Int) (w : World) :
    Calls Try.prog 9 #[.agg #[.bool dark, .bool high, .int .i64 scale], .int .i64 size] w (Gives (sizeZ scale size) w) := by
  by_cases h : 50 ≤ scale ∧ scale ≤ 400 ∧ 1 ≤ size ∧ size ≤ 1000
  · have HS : Hid (sizeZ scale size = clampZ (scaleZ size scale 100) 1 1000) := by show _ = _; rw [sizeZ, if_pos h]
    obtain ⟨h1, h2, h3, h4⟩ := h
    go_enter Try.func9, Try.ntmps9
    go_wp2_with (first | (go_at_call 26; refine (rScale_any _ _ _ _).mono ?_; rintro e w' ⟨rfl, rfl⟩) | (go_at_call 25; refine (rclamp_any _ _ _ _).mono ?_; rintro e w' ⟨rfl, rfl⟩))
    go_ret
    exact ⟨by rw [HS.out]; rfl, (Below.refl _ _).alloc (Nat.le_refl _) _⟩
  · have HS : Hid (sizeZ scale size = clampZ size 1 1000) := by show _ = _; rw [sizeZ, if_neg h]
    have hc : scale < 50 ∨ (50 ≤ scale ∧ 400 < scale) ∨ (50 ≤ scale ∧ scale ≤ 400 ∧ size < 1) ∨ (50 ≤ scale ∧ scale ≤ 400 ∧ 1 ≤ size ∧ 1000 < size) := by omega
    clear h
    rcases hc with h | h | h | h
    all_goals
      go_enter Try.func9, Try.ntmps9
      go_wp2_with (go_at_call 25; refine (rclamp_any _ _ _ _).mono ?_; rintro e w' ⟨rfl, rfl⟩)
      go_ret
      exact ⟨by rw [HS.out]; rfl, (Below.refl _ _).alloc (Nat.le_refl _) _⟩
end Go.Proofs.Ytcjhefkipghloaa
