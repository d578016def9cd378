/- Spring of the reference. -/
import Derived.Test.YtfcffmjmohkpoaaSpringW
namespace Go.Proofs.Ytfcffmjmohkpoaa
open Go.RowKit
set_option linter.unusedVariables false
set_option linter.unusedSimpArgs false

set_option maxHeartbeats 400000 in
theorem rlim_any (x m : Int) (w : World) (h0 : 1 ≤ m) (h1 : m ≤ 1099511627776) :
    Calls Try.prog 52 #[.int .i64 x, .int .i64 m] w fun e w' => e = .returned (.int .i64 (lim x m)) ∧ w = w' := by
  have hmm : -m < m := by omega
  by_cases c1 : m < x
  · have HR : Hid (lim x m = m) := by show _ = _; unfold lim; omega
    go_enter Try.func52, Try.ntmps52
    go_wp2
    go_ret
    exact ⟨ret_int HR.out.symm, rfl⟩
  · by_cases c2 : -m < x
    · have HR : Hid (lim x m = x) := by show _ = _; unfold lim; omega
      go_enter Try.func52, Try.ntmps52
      go_wp2
      go_ret
      exact ⟨ret_int HR.out.symm, rfl⟩
    · have HR : Hid (lim x m = -m) := by show _ = _; unfold lim; omega
      go_enter Try.func52, Try.ntmps52
      go_wp2
      go_ret
      exact ⟨ret_int HR.out.symm, rfl⟩

set_option maxHeartbeats 1600000 in
set_option maxRecDepth 100000 in
theorem rSpring_yes (x v target k d n : Int) (w : World) (hok : springOk x v target k d n = true) :
    Calls Try.prog 20 #[.int .i64 x, .int .i64 v, .int .i64 target, .int .i64 k, .int .i64 d, .int .i64 n] w (Pair (steps (65536 * target) k d n.toNat (x, v)) w) := by
  have HO : Hid (btw x (-274877906944) 274877906944 = true ∧ btw v (-17179869184) 17179869184 = true ∧ btw target (-1048576) 1048576 = true ∧ btw k 50 1000 = true ∧ btw d 64 1000 = true ∧ btw n 0 10000 = true) := by
    have := springOk_iff.1 hok
    show _ ∧ _
    simp only [btw_iff]
    omega
  obtain ⟨a0, a1, b0, b1, t0, t1, k0, k1, d0, d1, n0, n1⟩ := springOk_iff.1 hok
  obtain ⟨N, rfl⟩ : ∃ N : Nat, n = (N : Int) := ⟨n.toNat, by omega⟩
  have HI : Hid (∀ i, inS (steps (65536 * target) k d i (x, v))) := steps_in _ _ _ ⟨a0, a1, b0, b1⟩
  clear hok
  rw [Int.toNat_natCast]
  go_enter Try.func20, Try.ntmps20
  go_wp2_with (go_at_call 45; refine (rin_any _ _ _ _).mono ?_; (first | rw [HO.out.1] | rw [HO.out.2.1] | rw [HO.out.2.2.1] | rw [HO.out.2.2.2.1] | rw [HO.out.2.2.2.2.1] | rw [HO.out.2.2.2.2.2]); rintro e w' ⟨rfl, rfl⟩)
  go_loop [0, 1, 15] (fun a b c => ∃ i : Nat, i ≤ N ∧ c = .int .i64 i ∧ a = .int .i64 (steps (65536 * target) k d i (x, v)).1 ∧ b = .int .i64 (steps (65536 * target) k d i (x, v)).2) (fun _ _ c => N - (intOf c).toNat)
  case atStart => exact ⟨0, Nat.zero_le _, rfl, rfl, rfl⟩
  case round =>
    obtain ⟨i, hi, rfl, rfl, rfl⟩ := hrel
    have hin := HI.out i
    have HS := Lib.hid (steps_succ (65536 * target) k d i (x, v))
    obtain ⟨s, hs⟩ : ∃ s, steps (65536 * target) k d i (x, v) = s := ⟨_, rfl⟩
    have HSi := Lib.hid hs
    rw [hs] at hin HS ⊢
    obtain ⟨X, V⟩ := s
    clear hs
    by_cases hiN : i < N
    · obtain ⟨p1, p2, p3, p4, p5, p6⟩ := step_bd (t := 65536 * target) (by omega) (by omega) k0 k1 d0 d1 hin
      obtain ⟨i0, i1, i2, i3⟩ := hin
      simp only at p1 p2 p3 p4 p5 p6 i0 i1 i2 i3
      have HR1 := Lib.hid p3
      have HR2 := Lib.hid p4
      obtain ⟨A, hA⟩ : ∃ A, rnd (k * (65536 * target - X)) 1048576 = A := ⟨_, rfl⟩
      obtain ⟨B, hB⟩ : ∃ B, rnd (d * V) 8192 = B := ⟨_, rfl⟩
      rw [hA] at p5 HR1
      rw [hB] at p6 HR2
      have HV : Hid (stepV (65536 * target) k d (X, V) = V + (A - B)) := by show _ = _; unfold stepV; simp only; rw [hA, hB]
      clear p3 p4 hA hB
      have HC1 := Lib.hid (show lim (X + (V + (A - B))) 274877906944 = lim (X + (V + (A - B))) 274877906944 from rfl)
      have HC2 := Lib.hid (show lim (V + (A - B)) 17179869184 = lim (V + (A - B)) 17179869184 from rfl)
      have HC3 := Lib.hid (lim_id (x := 65536 * target) (m := 274877906944) (by omega) (by omega))
      have HC4 := Lib.hid (lim_id (x := 0) (m := 17179869184) (by omega) (by omega))
      by_cases h1 : btw (65536 * target - (X + (V + (A - B)))) (-32768) 32768 = true
      · have H1 := Lib.hid h1
        by_cases h2 : btw (V + (A - B)) (-64) 64 = true
        · have H2 := Lib.hid h2
          have HZ : Hid (steps (65536 * target) k d (i + 1) (x, v) = (65536 * target, 0)) := by
            show _ = _
            rw [HS.out, step_near (by rw [HV.out]; exact (near_iff _ _ _).2 ⟨h1, h2⟩) (by omega) (by omega)]
          have g1 := btw_iff.1 h1
          have g2 := btw_iff.1 h2
          obtain ⟨M1, hM1, hM1b⟩ : ∃ M, (if 65536 * target - (X + (V + (A - B))) < X + (V + (A - B)) - 65536 * target then X + (V + (A - B)) - 65536 * target else 65536 * target - (X + (V + (A - B)))) = M ∧ M ≤ 32768 := ⟨_, rfl, by split <;> omega⟩
          obtain ⟨M2, hM2, hM2b⟩ : ∃ M, (if V + (A - B) < -(V + (A - B)) then -(V + (A - B)) else V + (A - B)) = M ∧ M ≤ 64 := ⟨_, rfl, by split <;> omega⟩
          clear h1 h2
          go_wp2_with (first | (go_at_call 34; refine (rRound_any _ _ _).mono ?_; (first | rw [HR1.out] | rw [HR2.out]); rintro e w' ⟨rfl, rfl⟩) | (go_at_call 52; refine (rlim_any _ _ _ (by omega) (by omega)).mono ?_; (first | rw [HC3.out] | rw [HC4.out]); rintro e w' ⟨rfl, rfl⟩))
          go_round
          case rel => exact ⟨i + 1, by omega, by go_num, by rw [HZ.out], by rw [HZ.out]⟩
          case measure => simp [intOf]; omega
        · have h2' : btw (V + (A - B)) (-64) 64 = false := by simpa using h2
          have H2 := Lib.hid h2'
          have HZ : Hid (steps (65536 * target) k d (i + 1) (x, v) = (lim (X + (V + (A - B))) 274877906944, lim (V + (A - B)) 17179869184)) := by
            show _ = _
            rw [HS.out, step_far (by rw [HV.out]; exact fun h => h2 ((near_iff _ _ _).1 h).2), HV.out]
          have g1 := btw_iff.1 h1
          have g2 : ¬ (-64 ≤ V + (A - B) ∧ V + (A - B) ≤ 64) := fun h => h2 (btw_iff.2 h)
          obtain ⟨M1, hM1, hM1b⟩ : ∃ M, (if 65536 * target - (X + (V + (A - B))) < X + (V + (A - B)) - 65536 * target then X + (V + (A - B)) - 65536 * target else 65536 * target - (X + (V + (A - B)))) = M ∧ M ≤ 32768 := ⟨_, rfl, by split <;> omega⟩
          obtain ⟨M2, hM2, hM2b⟩ : ∃ M, (if V + (A - B) < -(V + (A - B)) then -(V + (A - B)) else V + (A - B)) = M ∧ 64 < M := ⟨_, rfl, by split <;> omega⟩
          clear h1 h2 h2' g2
          go_wp2_with (first | (go_at_call 34; refine (rRound_any _ _ _).mono ?_; (first | rw [HR1.out] | rw [HR2.out]); rintro e w' ⟨rfl, rfl⟩) | (go_at_call 52; refine (rlim_any _ _ _ (by omega) (by omega)).mono ?_; rintro e w' ⟨rfl, rfl⟩))
          go_round
          case rel => exact ⟨i + 1, by omega, by go_num, by rw [HZ.out], by rw [HZ.out]⟩
          case measure => simp [intOf]; omega
      · have h1' : btw (65536 * target - (X + (V + (A - B)))) (-32768) 32768 = false := by simpa using h1
        have H1 := Lib.hid h1'
        have HZ : Hid (steps (65536 * target) k d (i + 1) (x, v) = (lim (X + (V + (A - B))) 274877906944, lim (V + (A - B)) 17179869184)) := by
          show _ = _
          rw [HS.out, step_far (by rw [HV.out]; exact fun h => h1 ((near_iff _ _ _).1 h).1), HV.out]
        have g1 : ¬ (-32768 ≤ 65536 * target - (X + (V + (A - B))) ∧ 65536 * target - (X + (V + (A - B))) ≤ 32768) := fun h => h1 (btw_iff.2 h)
        obtain ⟨M1, hM1, hM1b⟩ : ∃ M, (if 65536 * target - (X + (V + (A - B))) < X + (V + (A - B)) - 65536 * target then X + (V + (A - B)) - 65536 * target else 65536 * target - (X + (V + (A - B)))) = M ∧ 32768 < M := ⟨_, rfl, by split <;> omega⟩
        clear h1 h1' g1
        go_wp2_with (first | (go_at_call 34; refine (rRound_any _ _ _).mono ?_; (first | rw [HR1.out] | rw [HR2.out]); rintro e w' ⟨rfl, rfl⟩) | (go_at_call 52; refine (rlim_any _ _ _ (by omega) (by omega)).mono ?_; rintro e w' ⟨rfl, rfl⟩))
        go_round
        case rel => exact ⟨i + 1, by omega, by go_num, by rw [HZ.out], by rw [HZ.out]⟩
        case measure => simp [intOf]; omega
    · obtain rfl : i = N := by omega
      go_wp2_with fail
      go_ret2
      exact ⟨by rw [HSi.out]; rfl, rfl⟩

set_option maxHeartbeats 1600000 in
theorem rSpring_no (x v target k d n : Int) (w : World) (hok : springOk x v target k d n = false) :
    Calls Try.prog 20 #[.int .i64 x, .int .i64 v, .int .i64 target, .int .i64 k, .int .i64 d, .int .i64 n] w (Pair (0, 0) w) := by
  have HO : Hid (¬ (btw x (-274877906944) 274877906944 = true ∧ btw v (-17179869184) 17179869184 = true ∧ btw target (-1048576) 1048576 = true ∧ btw k 50 1000 = true ∧ btw d 64 1000 = true ∧ btw n 0 10000 = true)) := by
    intro h
    simp only [btw_iff] at h
    have : springOk x v target k d n = true := springOk_iff.2 (by omega)
    rw [hok] at this
    cases this
  clear hok
  go_enter Try.func20, Try.ntmps20
  go_wp2_with (go_at_call 45; refine (rin_any _ _ _ _).mono ?_; rintro e w' ⟨rfl, rfl⟩)
  all_goals first
    | (go_ret2
       exact ⟨rfl, rfl⟩)
    | (exfalso
       apply HO.out
       refine ⟨?_, ?_, ?_, ?_, ?_, ?_⟩ <;> first | assumption | simp_all)

theorem rSpring_any (x v target k d n : Int) (w : World) :
    Calls Try.prog 20 #[.int .i64 x, .int .i64 v, .int .i64 target, .int .i64 k, .int .i64 d, .int .i64 n] w (Pair (springZ x v target k d n) w) := by
  cases h : springOk x v target k d n with
  | true => rw [springZ, if_pos h]; exact rSpring_yes x v target k d n w h
  | false => rw [springZ, if_neg (by simp [h])]; exact rSpring_no x v target k d n w h
end Go.Proofs.Ytfcffmjmohkpoaa
