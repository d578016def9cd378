/- Readable of package theme. -/
import Derived.Test.YtcjhefkipghloaaThemeF
namespace Go.Proofs.Ytcjhefkipghloaa
open Go.RowKit

set_option maxHeartbeats 400000 in
theorem read_any (n b least : Int) (w : World) : Calls Try.prog 15 #[.int .i64 n, .int .i64 b, .int .i64 least] w fun e w' => e = .returned (.int .i64 (readZ n b least)) ∧ w = w' := by
  by_cases hc : colorZ n = true
  · by_cases hd : colorZ b = true
    · by_cases hl : least ≤ conZ n b
      · have HL : Hid (readZ n b least = n) := by show _ = _; rw [readZ, if_pos (by rw [hc, hd]; simp; exact hl)]
        go_enter Try.func15, Try.ntmps15
        go_wp2_with (first | (go_at_call 27; refine (color_any _ _).mono ?_; rintro e w' ⟨rfl, rfl⟩) | (go_at_call 13; refine (con_any _ _ _).mono ?_; rintro e w' ⟨rfl, rfl⟩))
        go_ret
        exact ⟨by rw [HL.out]; rfl, rfl⟩
      · have h0 : readZ n b least = if conZ 16777215 b ≤ conZ 0 b then 0 else 16777215 := by rw [readZ, if_neg (by rw [hc, hd]; simp; omega)]
        by_cases hw : conZ 16777215 b ≤ conZ 0 b
        · have HL : Hid (readZ n b least = 0) := by show _ = _; rw [h0, if_pos hw]
          clear h0
          go_enter Try.func15, Try.ntmps15
          go_wp2_with (first | (go_at_call 27; refine (color_any _ _).mono ?_; rintro e w' ⟨rfl, rfl⟩) | (go_at_call 13; refine (con_any _ _ _).mono ?_; rintro e w' ⟨rfl, rfl⟩))
          go_ret
          exact ⟨by rw [HL.out]; rfl, rfl⟩
        · have HL : Hid (readZ n b least = 16777215) := by show _ = _; rw [h0, if_neg hw]
          clear h0
          go_enter Try.func15, Try.ntmps15
          go_wp2_with (first | (go_at_call 27; refine (color_any _ _).mono ?_; rintro e w' ⟨rfl, rfl⟩) | (go_at_call 13; refine (con_any _ _ _).mono ?_; rintro e w' ⟨rfl, rfl⟩))
          go_ret
          exact ⟨by rw [HL.out]; rfl, rfl⟩
    · have hd' : colorZ b = false := by simpa using hd
      have HL : Hid (readZ n b least = n) := by show _ = _; rw [readZ, if_pos (by rw [hd']; simp)]
      clear hd
      go_enter Try.func15, Try.ntmps15
      go_wp2_with (go_at_call 27; refine (color_any _ _).mono ?_; rintro e w' ⟨rfl, rfl⟩)
      go_ret
      exact ⟨by rw [HL.out]; rfl, rfl⟩
  · have hc' : colorZ n = false := by simpa using hc
    have HL : Hid (readZ n b least = n) := by show _ = _; rw [readZ, if_pos (by rw [hc']; simp)]
    clear hc
    go_enter Try.func15, Try.ntmps15
    go_wp2_with (go_at_call 27; refine (color_any _ _).mono ?_; rintro e w' ⟨rfl, rfl⟩)
    go_ret
    exact ⟨by rw [HL.out]; rfl, rfl⟩
end Go.Proofs.Ytcjhefkipghloaa
