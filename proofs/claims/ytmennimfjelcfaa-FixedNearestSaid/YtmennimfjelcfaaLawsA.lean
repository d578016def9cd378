/- The walks of the laws FixedClamps, FixedScales, FixedDivides and FixedNearest. -/
import Derived.Test.YtmennimfjelcfaaRound
import Derived.Test.YtmennimfjelcfaaAwake01
namespace Go.Proofs.Ytmennimfjelcfaa
open Go.RowKit

theorem clampZ_rev {x low high : Int} (h : high < low) : clampZ x low high = low := by rw [clampZ, if_pos (.inr h)]
theorem clampZ_in {x low high : Int} (h : low ≤ high) : low ≤ clampZ x low high ∧ clampZ x low high ≤ high := by
  unfold clampZ
  split
  · omega
  · split <;> omega

set_option maxHeartbeats 400000 in
theorem walk_FixedClamps (v0 : Value) (x : Int) (v1 : Value) (low : Int) (v2 : Value) (high : Int) (w : World)
    (h0 : v0 = .int .i64 x ∧ (Lit.int .i64 x).wf = true) (h1 : v1 = .int .i64 low ∧ (Lit.int .i64 low).wf = true) (h2 : v2 = .int .i64 high ∧ (Lit.int .i64 high).wf = true) :
    Calls Try.prog 6 #[v0, v1, v2] w (True_ w) := by
  obtain ⟨rfl, -⟩ := h0
  obtain ⟨rfl, -⟩ := h1
  obtain ⟨rfl, -⟩ := h2
  by_cases h : high < low
  · have e := clampZ_rev (x := x) h
    have HE := Lib.hid e
    clear e
    go_enter Try.func6, Try.ntmps6
    go_wp2_with (first | (go_at_call 14; refine (clamp_any _ _ _ _).mono ?_; rw [HE.out]; rintro e w' ⟨rfl, rfl⟩) | (go_at_call 15; refine (rclamp_any _ _ _ _).mono ?_; rw [HE.out]; rintro e w' ⟨rfl, rfl⟩) | (go_at_call 13; refine (awake_any _).mono ?_; rintro e w' ⟨rfl, hb⟩))
    go_ret
    exact ⟨rfl, hb⟩
  · have hc := clampZ_in (x := x) (low := low) (high := high) (by omega)
    go_enter Try.func6, Try.ntmps6
    go_wp2_with (first | (go_at_call 14; refine (clamp_any _ _ _ _).mono ?_; rintro e w' ⟨rfl, rfl⟩) | (go_at_call 15; refine (rclamp_any _ _ _ _).mono ?_; rintro e w' ⟨rfl, rfl⟩) | (go_at_call 13; refine (awake_any _).mono ?_; rintro e w' ⟨rfl, hb⟩))
    go_ret
    exact ⟨rfl, hb⟩

set_option maxHeartbeats 400000 in
theorem walk_FixedDivides (v0 : Value) (a : Int) (v1 : Value) (b : Int) (w : World)
    (h0 : v0 = .int .i64 a ∧ (Lit.int .i64 a).wf = true) (h1 : v1 = .int .i64 b ∧ (Lit.int .i64 b).wf = true) :
    Calls Try.prog 8 #[v0, v1] w (True_ w) := by
  obtain ⟨rfl, -⟩ := h0
  obtain ⟨rfl, -⟩ := h1
  go_enter Try.func8, Try.ntmps8
  go_wp2_with (first | (go_at_call 18; refine (Floor_any _ _ _).mono ?_; rintro e w' ⟨rfl, rfl⟩) | (go_at_call 19; refine (rFloor_any _ _ _).mono ?_; rintro e w' ⟨rfl, rfl⟩) | (go_at_call 20; refine (Round_any _ _ _).mono ?_; rintro e w' ⟨rfl, rfl⟩) | (go_at_call 21; refine (rRound_any _ _ _).mono ?_; rintro e w' ⟨rfl, rfl⟩) | (go_at_call 13; refine (awake_any _).mono ?_; rintro e w' ⟨rfl, hb⟩))
  go_ret
  exact ⟨rfl, hb⟩

set_option maxHeartbeats 400000 in
theorem walk_FixedScales (v0 : Value) (x : Int) (v1 : Value) (num : Int) (v2 : Value) (den : Int) (w : World)
    (h0 : v0 = .int .i64 x ∧ (Lit.int .i64 x).wf = true) (h1 : v1 = .int .i64 num ∧ (Lit.int .i64 num).wf = true) (h2 : v2 = .int .i64 den ∧ (Lit.int .i64 den).wf = true) :
    Calls Try.prog 7 #[v0, v1, v2] w (True_ w) := by
  obtain ⟨rfl, -⟩ := h0
  obtain ⟨rfl, -⟩ := h1
  obtain ⟨rfl, -⟩ := h2
  go_enter Try.func7, Try.ntmps7
  go_wp2_with (first | (go_at_call 16; refine (Scale_any _ _ _ _).mono ?_; rintro e w' ⟨rfl, rfl⟩) | (go_at_call 17; refine (rScale_any _ _ _ _).mono ?_; rintro e w' ⟨rfl, rfl⟩) | (go_at_call 13; refine (awake_any _).mono ?_; rintro e w' ⟨rfl, hb⟩))
  go_ret
  exact ⟨rfl, hb⟩

/-! ### FixedNearest -/
/-- What the law asks of the two quotients. -/
theorem near_facts {a b : Int} (hb : 1 ≤ b) (hb1 : b ≤ 1073741824) (h0 : -1152921504606846976 ≤ a) (h1 : a ≤ 1152921504606846976) :
    floorZ a b = a / b ∧ roundZ a b = (2 * a + b) / (2 * b) := by
  have hok : numOk a b = true := numOk_iff.2 ⟨by omega, h0, h1, by omega, by omega⟩
  exact ⟨by rw [floorZ, if_pos hok, if_neg (by omega)], by rw [roundZ, if_pos hok, if_neg (by omega)]⟩
theorem near_round {a b f : Int} (hb : 1 ≤ b) (hf : f = a / b) (l : Int) (hl : l = a - f * b) :
    0 ≤ l ∧ l < b ∧ (b - l ≤ l → (2 * a + b) / (2 * b) = f + 1) ∧ (l < b - l → (2 * a + b) / (2 * b) = f) := by
  have e := Int.mul_ediv_add_emod a b
  have h0 := Int.emod_nonneg a (show b ≠ 0 by omega)
  have h1 := Int.emod_lt_of_pos a (show 0 < b by omega)
  have e2 : f * b = b * (a / b) := by rw [hf, Int.mul_comm]
  have hm : l = a % b := by omega
  have ea : a = b * f + l := by rw [hm, hf]; omega
  have eq : ∀ q, 2 * b * q = 2 * (b * q) := fun q => Int.mul_assoc 2 b q
  refine ⟨by omega, by omega, fun h => ?_, fun h => ?_⟩
  · exact ediv_of (by omega) (r := 2 * l - b) (by rw [eq, Int.mul_add]; omega) (by omega) (by omega)
  · exact ediv_of (by omega) (r := 2 * l + b) (by rw [eq]; omega) (by omega) (by omega)

set_option maxHeartbeats 400000 in
theorem near_out (a b : Int) (w : World) (h : b < 1 ∨ (1 ≤ b ∧ 1073741824 < b) ∨ (1 ≤ b ∧ b ≤ 1073741824 ∧ a < -1152921504606846976) ∨ (1 ≤ b ∧ b ≤ 1073741824 ∧ -1152921504606846976 ≤ a ∧ 1152921504606846976 < a)) :
    Calls Try.prog 9 #[.int .i64 a, .int .i64 b] w (True_ w) := by
  rcases h with h | h | h | h
  all_goals
    go_enter Try.func9, Try.ntmps9
    go_wp2
    go_ret
    exact ⟨rfl, Below.refl _ _⟩

set_option maxHeartbeats 1000000 in
theorem near_in (a b : Int) (w : World) (hb : 1 ≤ b) (hb1 : b ≤ 1073741824) (h0 : -1152921504606846976 ≤ a) (h1 : a ≤ 1152921504606846976) :
    Calls Try.prog 9 #[.int .i64 a, .int .i64 b] w (True_ w) := by
  obtain ⟨e0, e1⟩ := near_facts hb hb1 h0 h1
  obtain ⟨f, hf⟩ : ∃ f, f = a / b := ⟨_, rfl⟩
  obtain ⟨r, hr⟩ : ∃ r, r = (2 * a + b) / (2 * b) := ⟨_, rfl⟩
  obtain ⟨k0, k1, k2, k3⟩ := near_round hb hf _ rfl
  have hfb : -1152921504606846976 ≤ f ∧ f ≤ 1152921504606846976 := by
    have := quo_bd (a := a) (b := b) (by omega)
    rw [hf]
    by_cases ha : 0 ≤ a
    · have := this.1 ha; omega
    · have := this.2 (by omega); omega
  rw [← hf] at e0
  rw [← hr] at e1 k2 k3
  have E0 := Lib.hid e0
  have E1 := Lib.hid e1
  have hp : -1152921504606846977 - 1073741824 ≤ f * b ∧ f * b ≤ 1152921504606846976 := by omega
  clear e0 e1 hf hr
  by_cases c : b - (a - f * b) ≤ a - f * b
  · have HR := Lib.hid (k2 c)
    have hrf : r = f + 1 := k2 c
    clear k2 k3 hrf
    have hd : decide (b - (a - f * b) ≤ a - f * b) = true := by simpa using c
    go_enter Try.func9, Try.ntmps9
    go_wp2_with (first | (go_at_call 18; refine (Floor_any _ _ _).mono ?_; rw [E0.out]; rintro e w' ⟨rfl, rfl⟩) | (go_at_call 20; refine (Round_any _ _ _).mono ?_; rw [E1.out, HR.out]; rintro e w' ⟨rfl, rfl⟩) | (go_at_call 13; refine (awake_any _).mono ?_; rintro e w' ⟨rfl, hb⟩))
    go_ret
    exact ⟨rfl, ‹_›⟩
  · have HR := Lib.hid (k3 (by omega))
    clear k2 k3
    have hd : decide (b - (a - f * b) ≤ a - f * b) = false := by simpa using c
    have hne : (f == f + 1) = false := by simp; omega
    go_enter Try.func9, Try.ntmps9
    go_wp2_with (first | (go_at_call 18; refine (Floor_any _ _ _).mono ?_; rw [E0.out]; rintro e w' ⟨rfl, rfl⟩) | (go_at_call 20; refine (Round_any _ _ _).mono ?_; rw [E1.out, HR.out]; rintro e w' ⟨rfl, rfl⟩) | (go_at_call 13; refine (awake_any _).mono ?_; rintro e w' ⟨rfl, hb⟩))
    go_ret
    exact ⟨rfl, ‹_›⟩

theorem walk_FixedNearest (v0 : Value) (a : Int) (v1 : Value) (b : Int) (w : World)
    (h0 : v0 = .int .i64 a ∧ (Lit.int .i64 a).wf = true) (h1 : v1 = .int .i64 b ∧ (Lit.int .i64 b).wf = true) :
    Calls Try.prog 9 #[v0, v1] w (True_ w) := by
  obtain ⟨rfl, -⟩ := h0
  obtain ⟨rfl, -⟩ := h1
  by_cases h : 1 ≤ b ∧ b ≤ 1073741824 ∧ -1152921504606846976 ≤ a ∧ a ≤ 1152921504606846976
  · exact near_in a b w h.1 h.2.1 h.2.2.1 h.2.2.2
  · exact near_out a b w (by omega)
end Go.Proofs.Ytmennimfjelcfaa
