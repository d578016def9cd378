/- color, Luminance, Contrast, Readable of package theme. -/
import Derived.Test.YtcjhefkipghloaaThemePlain
import Derived.Test.YtcjhefkipghloaaFloorP
import Derived.Test.YtcjhefkipghloaaBits
namespace Go.Proofs.Ytcjhefkipghloaa
open Go.RowKit

set_option maxHeartbeats 400000 in
theorem color_any (n : Int) (w : World) : Calls Try.prog 27 #[.int .i64 n] w fun e w' => e = .returned (.bool (colorZ n)) ∧ w = w' := by
  go_enter Try.func27, Try.ntmps27
  go_wp2
  all_goals
    go_ret
    exact ⟨ret_bool (by rw [Bool.eq_iff_iff]; simp [colorZ]; try omega), rfl⟩

theorem lum_mul {n : Int} (h0 : 0 ≤ n) (h1 : n ≤ 16777215) : (0 ≤ 2126 * (n / 65536) * (n / 65536) ∧ 2126 * (n / 65536) * (n / 65536) ≤ 138243150) ∧
    (0 ≤ 7152 * (n / 256 % 256) * (n / 256 % 256) ∧ 7152 * (n / 256 % 256) * (n / 256 % 256) ≤ 465058800) ∧ (0 ≤ 722 * (n % 256) * (n % 256) ∧ 722 * (n % 256) * (n % 256) ≤ 46948050) := by
  have a := sq_bd (x := n / 65536) (m := 255) (by omega) (by omega)
  have b := sq_bd (x := n / 256 % 256) (m := 255) (by omega) (by omega)
  have c := sq_bd (x := n % 256) (m := 255) (by omega) (by omega)
  rw [Int.mul_assoc, Int.mul_assoc, Int.mul_assoc]
  omega

set_option maxHeartbeats 400000 in
theorem lum_any (n : Int) (w : World) : Calls Try.prog 11 #[.int .i64 n] w fun e w' => e = .returned (.int .i64 (lumZ n)) ∧ w = w' := by
  by_cases hc : colorZ n = true
  · obtain ⟨h0, h1⟩ := color_iff.1 hc
    obtain ⟨⟨a0, a1⟩, ⟨b0, b1⟩, c0, c1⟩ := lum_mul h0 h1
    have HL : Hid (lumZ n = floorZ (partsZ n) 650250) := by show _ = _; rw [lumZ, if_pos hc]
    have hm : ∀ x, bits .and .i64 x 255 = x % 256 := fun x => and_255 x
    go_enter Try.func11, Try.ntmps11
    go_wp2_with (first | (go_at_call 27; refine (color_any _ _).mono ?_; rintro e w' ⟨rfl, rfl⟩) | (go_at_call 28; refine (Floor_any _ _ _).mono ?_; rintro e w' ⟨rfl, rfl⟩))
    go_ret
    exact ⟨by rw [HL.out]; rfl, rfl⟩
  · have hc' : colorZ n = false := by simpa using hc
    have HL : Hid (lumZ n = 0) := by show _ = _; rw [lumZ, if_neg hc]
    clear hc
    go_enter Try.func11, Try.ntmps11
    go_wp2_with (go_at_call 27; refine (color_any _ _).mono ?_; rintro e w' ⟨rfl, rfl⟩)
    go_ret
    exact ⟨by rw [HL.out]; rfl, rfl⟩

set_option maxHeartbeats 400000 in
theorem con_any (a b : Int) (w : World) : Calls Try.prog 13 #[.int .i64 a, .int .i64 b] w fun e w' => e = .returned (.int .i64 (conZ a b)) ∧ w = w' := by
  have la := lumZ_bd a
  have lb := lumZ_bd b
  by_cases hc : colorZ a = true
  · by_cases hd : colorZ b = true
    · have HL : Hid (conZ a b = floorZ ((max (lumZ a) (lumZ b) + 50) * 100) (min (lumZ a) (lumZ b) + 50)) := by show _ = _; rw [conZ, if_pos (by rw [hc, hd]; rfl)]
      by_cases hx : lumZ a ≤ lumZ b
      · have HM : Hid (max (lumZ a) (lumZ b) = lumZ b ∧ min (lumZ a) (lumZ b) = lumZ a) := ⟨by omega, by omega⟩
        by_cases hy : lumZ b ≤ lumZ a
        · have hz : lumZ a = lumZ b := by omega
          have HZ := Lib.hid hz
          clear hz
          go_enter Try.func13, Try.ntmps13
          go_wp2_with (first | (go_at_call 27; refine (color_any _ _).mono ?_; rintro e w' ⟨rfl, rfl⟩) | (go_at_call 11; refine (lum_any _ _).mono ?_; rintro e w' ⟨rfl, rfl⟩) | (go_at_call 28; refine (Floor_any _ _ _).mono ?_; rintro e w' ⟨rfl, rfl⟩))
          go_ret
          exact ⟨by rw [HL.out, HM.out.1, HM.out.2, HZ.out]; rfl, rfl⟩
        · go_enter Try.func13, Try.ntmps13
          go_wp2_with (first | (go_at_call 27; refine (color_any _ _).mono ?_; rintro e w' ⟨rfl, rfl⟩) | (go_at_call 11; refine (lum_any _ _).mono ?_; rintro e w' ⟨rfl, rfl⟩) | (go_at_call 28; refine (Floor_any _ _ _).mono ?_; rintro e w' ⟨rfl, rfl⟩))
          go_ret
          exact ⟨by rw [HL.out, HM.out.1, HM.out.2]; rfl, rfl⟩
      · have HM : Hid (max (lumZ a) (lumZ b) = lumZ a ∧ min (lumZ a) (lumZ b) = lumZ b) := ⟨by omega, by omega⟩
        go_enter Try.func13, Try.ntmps13
        go_wp2_with (first | (go_at_call 27; refine (color_any _ _).mono ?_; rintro e w' ⟨rfl, rfl⟩) | (go_at_call 11; refine (lum_any _ _).mono ?_; rintro e w' ⟨rfl, rfl⟩) | (go_at_call 28; refine (Floor_any _ _ _).mono ?_; rintro e w' ⟨rfl, rfl⟩))
        go_ret
        exact ⟨by rw [HL.out, HM.out.1, HM.out.2]; rfl, rfl⟩
    · have hd' : colorZ b = false := by simpa using hd
      have HL : Hid (conZ a b = 0) := by show _ = _; rw [conZ, if_neg (by rw [hd']; simp)]
      clear hd
      go_enter Try.func13, Try.ntmps13
      go_wp2_with (go_at_call 27; refine (color_any _ _).mono ?_; rintro e w' ⟨rfl, rfl⟩)
      go_ret
      exact ⟨by rw [HL.out]; rfl, rfl⟩
  · have hc' : colorZ a = false := by simpa using hc
    have HL : Hid (conZ a b = 0) := by show _ = _; rw [conZ, if_neg (by rw [hc']; simp)]
    clear hc
    go_enter Try.func13, Try.ntmps13
    go_wp2_with (go_at_call 27; refine (color_any _ _).mono ?_; rintro e w' ⟨rfl, rfl⟩)
    go_ret
    exact ⟨by rw [HL.out]; rfl, rfl⟩
end Go.Proofs.Ytcjhefkipghloaa
