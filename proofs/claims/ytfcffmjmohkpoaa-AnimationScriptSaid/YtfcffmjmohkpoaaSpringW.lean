/- Spring of package animation and of the reference. -/
import Derived.Test.YtfcffmjmohkpoaaSpringPlain
import Derived.Test.YtfcffmjmohkpoaaEaseW
import Derived.Test.YtfcffmjmohkpoaaRoundP
import Derived.Test.YtfcffmjmohkpoaaRoundR
import Derived.Test.YtfcffmjmohkpoaaClampP
namespace Go.Proofs.Ytfcffmjmohkpoaa
open Go.RowKit
set_option linter.unusedVariables false
set_option linter.unusedSimpArgs false

set_option maxHeartbeats 400000 in
theorem spring_any (x v k d : Int) (w : World) : Calls Try.prog 48 #[.int .i64 x, .int .i64 v, .int .i64 k, .int .i64 d] w fun e w' => e = .returned (.bool (springB x v k d)) ∧ w = w' := by
  go_enter Try.func48, Try.ntmps48
  go_wp2_with (go_at_call 39; refine (between_any _ _ _ _).mono ?_; rintro e w' ⟨rfl, rfl⟩)
  all_goals
    go_ret
    exact ⟨ret_bool (by unfold springB; simp_all), rfl⟩
set_option maxHeartbeats 400000 in
theorem value_any (x : Int) (w : World) : Calls Try.prog 49 #[.int .i64 x] w fun e w' => e = .returned (.bool (valueB x)) ∧ w = w' := by
  go_enter Try.func49, Try.ntmps49
  go_wp2_with (go_at_call 39; refine (between_any _ _ _ _).mono ?_; rintro e w' ⟨rfl, rfl⟩)
  go_ret
  exact ⟨rfl, rfl⟩
theorem springOk_eq (x v target k d n : Int) : springOk x v target k d n = (springB x v k d && valueB target && btw n 0 10000) := by
  rw [Bool.eq_iff_iff, springOk_iff]; simp [springB, valueB, btw_iff]; omega

/-- The call returns the pair s and leaves the world alone. -/
def Pair (s : Int × Int) (w : World) (e : Ending) (w' : World) : Prop := e = .returned (.tuple #[.int .i64 s.1, .int .i64 s.2]) ∧ w = w'
theorem near_iff (t x v : Int) : near t x v ↔ (btw (t - x) (-32768) 32768 = true ∧ btw v (-64) 64 = true) := by
  rw [btw_iff, btw_iff]; unfold near; omega

set_option maxHeartbeats 1600000 in
set_option maxRecDepth 100000 in
theorem Spring_yes (x v target k d n : Int) (w : World) (hok : springOk x v target k d n = true) :
    Calls Try.prog 19 #[.int .i64 x, .int .i64 v, .int .i64 target, .int .i64 k, .int .i64 d, .int .i64 n] w (Pair (steps (65536 * target) k d n.toNat (x, v)) w) := by
  have HO : Hid (springB x v k d = true ∧ valueB target = true ∧ btw n 0 10000 = true) := by
    have := hok; rw [springOk_eq] at this; simp at this; exact ⟨this.1.1, this.1.2, this.2⟩
  obtain ⟨a0, a1, b0, b1, t0, t1, k0, k1, d0, d1, n0, n1⟩ := springOk_iff.1 hok
  obtain ⟨N, rfl⟩ : ∃ N : Nat, n = (N : Int) := ⟨n.toNat, by omega⟩
  have HI : Hid (∀ i, inS (steps (65536 * target) k d i (x, v))) := steps_in _ _ _ ⟨a0, a1, b0, b1⟩
  clear hok
  rw [Int.toNat_natCast]
  go_enter Try.func19, Try.ntmps19
  go_wp2_with (first | (go_at_call 48; refine (spring_any _ _ _ _ _).mono ?_; rw [HO.out.1]; rintro e w' ⟨rfl, rfl⟩) | (go_at_call 49; refine (value_any _ _).mono ?_; rw [HO.out.2.1]; rintro e w' ⟨rfl, rfl⟩) | (go_at_call 39; refine (between_any _ _ _ _).mono ?_; rw [HO.out.2.2]; rintro e w' ⟨rfl, rfl⟩))
  go_loop [0, 1, 34] (fun a b c => ∃ i : Nat, i ≤ N ∧ c = .int .i64 i ∧ a = .int .i64 (steps (65536 * target) k d i (x, v)).1 ∧ b = .int .i64 (steps (65536 * target) k d i (x, v)).2) (fun _ _ c => N - (intOf c).toNat)
  case atStart => exact ⟨0, Nat.zero_le _, rfl, rfl, rfl⟩
  case round =>
    obtain ⟨i, hi, rfl, rfl, rfl⟩ := hrel
    have hin := HI.out i
    have HS := Lib.hid (steps_succ (65536 * target) k d i (x, v))
    obtain ⟨s, hs⟩ : ∃ s, steps (65536 * target) k d i (x, v) = s := ⟨_, rfl⟩
    have HSi := Lib.hid hs
    rw [hs] at hin HS ⊢
    obtain ⟨X, V⟩ := s
    clear hs
    by_cases hiN : i < N
    · obtain ⟨p1, p2, p3, p4, p5, p6⟩ := step_bd (t := 65536 * target) (by omega) (by omega) k0 k1 d0 d1 hin
      obtain ⟨i0, i1, i2, i3⟩ := hin
      simp only at p1 p2 p3 p4 p5 p6 i0 i1 i2 i3
      have HR1 := Lib.hid p3
      have HR2 := Lib.hid p4
      obtain ⟨A, hA⟩ : ∃ A, rnd (k * (65536 * target - X)) 1048576 = A := ⟨_, rfl⟩
      obtain ⟨B, hB⟩ : ∃ B, rnd (d * V) 8192 = B := ⟨_, rfl⟩
      rw [hA] at p5 HR1
      rw [hB] at p6 HR2
      have HV : Hid (stepV (65536 * target) k d (X, V) = V + (A - B)) := by show _ = _; unfold stepV; simp only; rw [hA, hB]
      clear p3 p4 hA hB
      have HC1 := Lib.hid (lim_clamp (X + (V + (A - B))) 274877906944 (by omega))
      have HC2 := Lib.hid (lim_clamp (V + (A - B)) 17179869184 (by omega))
      have HC3 := Lib.hid ((lim_clamp (65536 * target) 274877906944 (by omega)).trans (lim_id (by omega) (by omega)))
      have HC4 := Lib.hid ((lim_clamp 0 17179869184 (by omega)).trans (lim_id (by omega) (by omega)))
      by_cases h1 : btw (65536 * target - (X + (V + (A - B)))) (-32768) 32768 = true
      · have H1 := Lib.hid h1
        by_cases h2 : btw (V + (A - B)) (-64) 64 = true
        · have H2 := Lib.hid h2
          have HZ : Hid (steps (65536 * target) k d (i + 1) (x, v) = (65536 * target, 0)) := by
            show _ = _
            rw [HS.out, step_near (by rw [HV.out]; exact (near_iff _ _ _).2 ⟨h1, h2⟩) (by omega) (by omega)]
          clear h1 h2
          go_wp2_with (first | (go_at_call 50; refine (Round_any _ _ _).mono ?_; (first | rw [HR1.out] | rw [HR2.out]); rintro e w' ⟨rfl, rfl⟩) | (go_at_call 39; refine (between_any _ _ _ _).mono ?_; (first | rw [H1.out] | rw [H2.out]); rintro e w' ⟨rfl, rfl⟩) | (go_at_call 51; refine (clamp_any _ _ _ _).mono ?_; (first | rw [HC3.out] | rw [HC4.out]); rintro e w' ⟨rfl, rfl⟩))
          go_round
          case rel => exact ⟨i + 1, by omega, by go_num, by rw [HZ.out], by rw [HZ.out]⟩
          case measure => simp [intOf]; omega
        · have h2' : btw (V + (A - B)) (-64) 64 = false := by simpa using h2
          have H2 := Lib.hid h2'
          have HZ : Hid (steps (65536 * target) k d (i + 1) (x, v) = (lim (X + (V + (A - B))) 274877906944, lim (V + (A - B)) 17179869184)) := by
            show _ = _
            rw [HS.out, step_far (by rw [HV.out]; exact fun h => h2 ((near_iff _ _ _).1 h).2), HV.out]
          clear h1 h2 h2'
          go_wp2_with (first | (go_at_call 50; refine (Round_any _ _ _).mono ?_; (first | rw [HR1.out] | rw [HR2.out]); rintro e w' ⟨rfl, rfl⟩) | (go_at_call 39; refine (between_any _ _ _ _).mono ?_; (first | rw [H1.out] | rw [H2.out]); rintro e w' ⟨rfl, rfl⟩) | (go_at_call 51; refine (clamp_any _ _ _ _).mono ?_; (first | rw [HC1.out] | rw [HC2.out]); rintro e w' ⟨rfl, rfl⟩))
          go_round
          case rel => exact ⟨i + 1, by omega, by go_num, by rw [HZ.out], by rw [HZ.out]⟩
          case measure => simp [intOf]; omega
      · have h1' : btw (65536 * target - (X + (V + (A - B)))) (-32768) 32768 = false := by simpa using h1
        have H1 := Lib.hid h1'
        have HZ : Hid (steps (65536 * target) k d (i + 1) (x, v) = (lim (X + (V + (A - B))) 274877906944, lim (V + (A - B)) 17179869184)) := by
          show _ = _
          rw [HS.out, step_far (by rw [HV.out]; exact fun h => h1 ((near_iff _ _ _).1 h).1), HV.out]
        clear h1 h1'
        go_wp2_with (first | (go_at_call 50; refine (Round_any _ _ _).mono ?_; (first | rw [HR1.out] | rw [HR2.out]); rintro e w' ⟨rfl, rfl⟩) | (go_at_call 39; refine (between_any _ _ _ _).mono ?_; rw [H1.out]; rintro e w' ⟨rfl, rfl⟩) | (go_at_call 51; refine (clamp_any _ _ _ _).mono ?_; (first | rw [HC1.out] | rw [HC2.out]); rintro e w' ⟨rfl, rfl⟩))
        go_round
        case rel => exact ⟨i + 1, by omega, by go_num, by rw [HZ.out], by rw [HZ.out]⟩
        case measure => simp [intOf]; omega
    · obtain rfl : i = N := by omega
      go_wp2_with fail
      go_ret2
      exact ⟨by rw [HSi.out]; rfl, rfl⟩

set_option maxHeartbeats 1600000 in
theorem Spring_no (x v target k d n : Int) (w : World) (hok : springOk x v target k d n = false) :
    Calls Try.prog 19 #[.int .i64 x, .int .i64 v, .int .i64 target, .int .i64 k, .int .i64 d, .int .i64 n] w (Pair (0, 0) w) := by
  rw [springOk_eq] at hok
  have HO := Lib.hid hok
  clear hok
  go_enter Try.func19, Try.ntmps19
  go_wp2_with (first | (go_at_call 48; refine (spring_any _ _ _ _ _).mono ?_; rintro e w' ⟨rfl, rfl⟩) | (go_at_call 49; refine (value_any _ _).mono ?_; rintro e w' ⟨rfl, rfl⟩) | (go_at_call 39; refine (between_any _ _ _ _).mono ?_; rintro e w' ⟨rfl, rfl⟩))
  all_goals first
    | (go_ret2
       exact ⟨rfl, rfl⟩)
    | (exfalso
       have := HO.out
       simp_all)

theorem Spring_any (x v target k d n : Int) (w : World) :
    Calls Try.prog 19 #[.int .i64 x, .int .i64 v, .int .i64 target, .int .i64 k, .int .i64 d, .int .i64 n] w (Pair (springZ x v target k d n) w) := by
  cases h : springOk x v target k d n with
  | true => rw [springZ, if_pos h]; exact Spring_yes x v target k d n w h
  | false => rw [springZ, if_neg (by simp [h])]; exact Spring_no x v target k d n w h
end Go.Proofs.Ytfcffmjmohkpoaa
