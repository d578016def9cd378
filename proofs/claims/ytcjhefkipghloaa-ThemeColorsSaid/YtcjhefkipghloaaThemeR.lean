/- Luminance, Contrast, Readable of the reference. -/
import Derived.Test.YtcjhefkipghloaaThemeF
import Derived.Test.YtcjhefkipghloaaFloorR
namespace Go.Proofs.Ytcjhefkipghloaa
open Go.RowKit

set_option maxHeartbeats 400000 in
theorem rcolor_any (n : Int) (w : World) : Calls Try.prog 29 #[.int .i64 n] w fun e w' => e = .returned (.bool (colorZ n)) ∧ w = w' := by
  go_enter Try.func29, Try.ntmps29
  go_wp2
  all_goals
    go_ret
    exact ⟨ret_bool (by rw [Bool.eq_iff_iff]; simp [colorZ]; try omega), rfl⟩

set_option maxHeartbeats 400000 in
theorem rlum_any (n : Int) (w : World) : Calls Try.prog 12 #[.int .i64 n] w fun e w' => e = .returned (.int .i64 (lumZ n)) ∧ w = w' := by
  by_cases hc : colorZ n = true
  · obtain ⟨h0, h1⟩ := color_iff.1 hc
    obtain ⟨⟨a0, a1⟩, ⟨b0, b1⟩, c0, c1⟩ := lum_mul h0 h1
    have HL : Hid (lumZ n = floorZ (partsZ n) 650250) := by show _ = _; rw [lumZ, if_pos hc]
    have hm : ∀ x, bits .and .i64 x 255 = x % 256 := fun x => and_255 x
    go_enter Try.func12, Try.ntmps12
    go_wp2_with (first | (go_at_call 29; refine (rcolor_any _ _).mono ?_; rintro e w' ⟨rfl, rfl⟩) | (go_at_call 30; refine (rFloor_any _ _ _).mono ?_; rintro e w' ⟨rfl, rfl⟩))
    go_ret
    exact ⟨by rw [HL.out]; rfl, rfl⟩
  · have hc' : colorZ n = false := by simpa using hc
    have HL : Hid (lumZ n = 0) := by show _ = _; rw [lumZ, if_neg hc]
    clear hc
    go_enter Try.func12, Try.ntmps12
    go_wp2_with (go_at_call 29; refine (rcolor_any _ _).mono ?_; rintro e w' ⟨rfl, rfl⟩)
    go_ret
    exact ⟨by rw [HL.out]; rfl, rfl⟩

set_option maxHeartbeats 400000 in
theorem rcon_any (a b : Int) (w : World) : Calls Try.prog 14 #[.int .i64 a, .int .i64 b] w fun e w' => e = .returned (.int .i64 (conZ a b)) ∧ w = w' := by
  have la := lumZ_bd a
  have lb := lumZ_bd b
  by_cases hc : colorZ a = true
  · by_cases hd : colorZ b = true
    · have HL : Hid (conZ a b = floorZ ((max (lumZ a) (lumZ b) + 50) * 100) (min (lumZ a) (lumZ b) + 50)) := by show _ = _; rw [conZ, if_pos (by rw [hc, hd]; rfl)]
      by_cases hx : lumZ a ≤ lumZ b
      · have HM : Hid (max (lumZ a) (lumZ b) = lumZ b ∧ min (lumZ a) (lumZ b) = lumZ a) := ⟨by omega, by omega⟩
        by_cases hy : lumZ b ≤ lumZ a
        · have hz : lumZ a = lumZ b := by omega
          have HZ := Lib.hid hz
          clear hz
          go_enter Try.func14, Try.ntmps14
          go_wp2_with (first | (go_at_call 29; refine (rcolor_any _ _).mono ?_; rintro e w' ⟨rfl, rfl⟩) | (go_at_call 12; refine (rlum_any _ _).mono ?_; rintro e w' ⟨rfl, rfl⟩) | (go_at_call 30; refine (rFloor_any _ _ _).mono ?_; rintro e w' ⟨rfl, rfl⟩))
          go_ret
          exact ⟨by rw [HL.out, HM.out.1, HM.out.2, HZ.out]; rfl, rfl⟩
        · go_enter Try.func14, Try.ntmps14
          go_wp2_with (first | (go_at_call 29; refine (rcolor_any _ _).mono ?_; rintro e w' ⟨rfl, rfl⟩) | (go_at_call 12; refine (rlum_any _ _).mono ?_; rintro e w' ⟨rfl, rfl⟩) | (go_at_call 30; refine (rFloor_any _ _ _).mono ?_; rintro e w' ⟨rfl, rfl⟩))
          go_ret
          exact ⟨by rw [HL.out, HM.out.1, HM.out.2]; rfl, rfl⟩
      · have HM : Hid (max (lumZ a) (lumZ b) = lumZ a ∧ min (lumZ a) (lumZ b) = lumZ b) := ⟨by omega, by omega⟩
        go_enter Try.func14, Try.ntmps14
        go_wp2_with (first | (go_at_call 29; refine (rcolor_any _ _).mono ?_; rintro e w' ⟨rfl, rfl⟩) | (go_at_call 12; refine (rlum_any _ _).mono ?_; rintro e w' ⟨rfl, rfl⟩) | (go_at_call 30; refine (rFloor_any _ _ _).mono ?_; rintro e w' ⟨rfl, rfl⟩))
        go_ret
        exact ⟨by rw [HL.out, HM.out.1, HM.out.2]; rfl, rfl⟩
    · have hd' : colorZ b = false := by simpa using hd
      have HL : Hid (conZ a b = 0) := by show _ = _; rw [conZ, if_neg (by rw [hd']; simp)]
      clear hd
      go_enter Try.func14, Try.ntmps14
      go_wp2_with (go_at_call 29; refine (rcolor_any _ _).mono ?_; rintro e w' ⟨rfl, rfl⟩)
      go_ret
      exact ⟨by rw [HL.out]; rfl, rfl⟩
  · have hc' : colorZ a = false := by simpa using hc
    have HL : Hid (conZ a b = 0) := by show _ = _; rw [conZ, if_neg (by rw [hc']; simp)]
    clear hc
    go_enter Try.func14, Try.ntmps14
    go_wp2_with (go_at_call 29; refine (rcolor_any _ _).mono ?_; rintro e w' ⟨rfl, rfl⟩)
    go_ret
    exact ⟨by rw [HL.out]; rfl, rfl⟩

set_option maxHeartbeats 400000 in
theorem rread_any (n b least : Int) (w : World) : Calls Try.prog 16 #[.int .i64 n, .int .i64 b, .int .i64 least] w fun e w' => e = .returned (.int .i64 (readZ n b least)) ∧ w = w' := by
  by_cases hc : colorZ n = true
  · by_cases hd : colorZ b = true
    · by_cases hl : least ≤ conZ n b
      · have HL : Hid (readZ n b least = n) := by show _ = _; rw [readZ, if_pos (by rw [hc, hd]; simp; exact hl)]
        go_enter Try.func16, Try.ntmps16
        go_wp2_with (first | (go_at_call 29; refine (rcolor_any _ _).mono ?_; rintro e w' ⟨rfl, rfl⟩) | (go_at_call 14; refine (rcon_any _ _ _).mono ?_; rintro e w' ⟨rfl, rfl⟩))
        go_ret
        exact ⟨by rw [HL.out]; rfl, rfl⟩
      · have h0 : readZ n b least = if conZ 16777215 b ≤ conZ 0 b then 0 else 16777215 := by rw [readZ, if_neg (by rw [hc, hd]; simp; omega)]
        by_cases hw : conZ 16777215 b ≤ conZ 0 b
        · have HL : Hid (readZ n b least = 0) := by show _ = _; rw [h0, if_pos hw]
          clear h0
          go_enter Try.func16, Try.ntmps16
          go_wp2_with (first | (go_at_call 29; refine (rcolor_any _ _).mono ?_; rintro e w' ⟨rfl, rfl⟩) | (go_at_call 14; refine (rcon_any _ _ _).mono ?_; rintro e w' ⟨rfl, rfl⟩))
          go_ret
          exact ⟨by rw [HL.out]; rfl, rfl⟩
        · have HL : Hid (readZ n b least = 16777215) := by show _ = _; rw [h0, if_neg hw]
          clear h0
          go_enter Try.func16, Try.ntmps16
          go_wp2_with (first | (go_at_call 29; refine (rcolor_any _ _).mono ?_; rintro e w' ⟨rfl, rfl⟩) | (go_at_call 14; refine (rcon_any _ _ _).mono ?_; rintro e w' ⟨rfl, rfl⟩))
          go_ret
          exact ⟨by rw [HL.out]; rfl, rfl⟩
    · have hd' : colorZ b = false := by simpa using hd
      have HL : Hid (readZ n b least = n) := by show _ = _; rw [readZ, if_pos (by rw [hd']; simp)]
      clear hd
      go_enter Try.func16, Try.ntmps16
      go_wp2_with (go_at_call 29; refine (rcolor_any _ _).mono ?_; rintro e w' ⟨rfl, rfl⟩)
      go_ret
      exact ⟨by rw [HL.out]; rfl, rfl⟩
  · have hc' : colorZ n = false := by simpa using hc
    have HL : Hid (readZ n b least = n) := by show _ = _; rw [readZ, if_pos (by rw [hc']; simp)]
    clear hc
    go_enter Try.func16, Try.ntmps16
    go_wp2_with (go_at_call 29; refine (rcolor_any _ _).mono ?_; rintro e w' ⟨rfl, rfl⟩)
    go_ret
    exact ⟨by rw [HL.out]; rfl, rfl⟩
end Go.Proofs.Ytcjhefkipghloaa
