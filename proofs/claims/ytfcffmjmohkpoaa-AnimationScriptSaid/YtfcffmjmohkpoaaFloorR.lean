/- The reference's Floor. -/
import Derived.Test.YtfcffmjmohkpoaaNumOk
namespace Go.Proofs.Ytfcffmjmohkpoaa
open Go.RowKit

set_option maxHeartbeats 400000 in
theorem rFloor_no (a b : Int) (w : World) (h : b = 0 ∨ a < -1152921504606846976 ∨ 1152921504606846976 < a ∨ b < -1152921504606846976 ∨ 1152921504606846976 < b) :
    Calls Try.prog 47 #[.int .i64 a, .int .i64 b] w fun e w' => e = .returned (.int .i64 0) ∧ w = w' := by
  have go : ∀ a b : Int, (b = 0) ∨ (b ≠ 0 ∧ a < -1152921504606846976) ∨ (b ≠ 0 ∧ -1152921504606846976 ≤ a ∧ 1152921504606846976 < a) ∨
      (b ≠ 0 ∧ -1152921504606846976 ≤ a ∧ a ≤ 1152921504606846976 ∧ b < -1152921504606846976) ∨ (b ≠ 0 ∧ -1152921504606846976 ≤ a ∧ a ≤ 1152921504606846976 ∧ 1152921504606846976 < b) → 
      Calls Try.prog 47 #[.int .i64 a, .int .i64 b] w fun e w' => e = .returned (.int .i64 0) ∧ w = w' := by
    clear h a b
    intro a b h
    rcases h with h | h | h | h | h
    · subst h
      go_enter Try.func47, Try.ntmps47
      go_wp2
      go_ret
      exact ⟨rfl, rfl⟩
    all_goals
      have hz : (b == 0) = false := by simp; omega
      go_enter Try.func47, Try.ntmps47
      go_wp2
      go_ret
      exact ⟨rfl, rfl⟩
  exact go a b (by omega)

set_option maxHeartbeats 400000 in
theorem rFloor_yes (a b r : Int) (w : World) (hb : b ≠ 0) (h1 : -1152921504606846976 ≤ a) (h2 : a ≤ 1152921504606846976) (h3 : -1152921504606846976 ≤ b) (h4 : b ≤ 1152921504606846976)
    (hr : r = if a.tmod b ≠ 0 ∧ (decide (a < 0) ≠ decide (b < 0)) then a.tdiv b - 1 else a.tdiv b) :
    Calls Try.prog 47 #[.int .i64 a, .int .i64 b] w fun e w' => e = .returned (.int .i64 r) ∧ w = w' := by
  have hz : (b == 0) = false := by simpa using hb
  have hq := tdiv_bd' hb h1 h2
  have HR := Lib.hid hr
  clear hr
  by_cases ha : 0 ≤ a
  · by_cases hb0 : 0 ≤ b
    · have e1 : a.tdiv b = a / b := Int.tdiv_eq_ediv_of_nonneg ha
      have hd : (!decide (a < 0) == decide (b < 0)) = false := by
        rw [decide_eq_false (by omega : ¬ a < 0), decide_eq_false (by omega : ¬ b < 0)]; rfl
      have HF : Hid (r = a / b) := by rw [HR.out, if_neg (by rw [decide_eq_false (by omega : ¬ a < 0), decide_eq_false (by omega : ¬ b < 0)]; simp), e1]; exact rfl
      rw [e1] at hq
      clear e1 HR
      by_cases hm : (a % b == 0) = true
      · have hm' : (a % b != 0) = false := by simpa using hm
        clear hm
        go_enter Try.func47, Try.ntmps47
        go_wp2
        go_ret
        exact ⟨by rw [HF.out]; rfl, rfl⟩
      · have hm' : (a % b != 0) = true := by simpa using hm
        clear hm
        go_enter Try.func47, Try.ntmps47
        go_wp2
        go_ret
        exact ⟨by rw [HF.out]; rfl, rfl⟩
    · have e1 : a.tmod b = a % b := Int.tmod_eq_emod_of_nonneg ha
      have hd : (!decide (a < 0) == decide (b < 0)) = true := by
        rw [decide_eq_false (by omega : ¬ a < 0), decide_eq_true (by omega : b < 0)]; rfl
      by_cases hm : a % b = 0
      · have hm' : (a % b != 0) = false := by simpa using hm
        have HF : Hid (r = a.tdiv b) := by rw [HR.out, if_neg (by rw [e1]; simp [hm])]; exact rfl
        clear hm e1 HR
        go_enter Try.func47, Try.ntmps47
        go_wp2
        go_ret
        exact ⟨by rw [HF.out]; rfl, rfl⟩
      · have hm' : (a % b != 0) = true := by simpa using hm
        have HF : Hid (r = a.tdiv b - 1) := by
          rw [HR.out, if_pos (by rw [e1, decide_eq_false (by omega : ¬ a < 0), decide_eq_true (by omega : b < 0)]; exact ⟨hm, by simp⟩)]; exact rfl
        clear hm e1 HR
        go_enter Try.func47, Try.ntmps47
        go_wp2
        go_ret
        exact ⟨by rw [HF.out]; rfl, rfl⟩
  · by_cases hb0 : 0 ≤ b
    · have hd : (!decide (a < 0) == decide (b < 0)) = true := by
        rw [decide_eq_true (by omega : a < 0), decide_eq_false (by omega : ¬ b < 0)]; rfl
      by_cases hm : a.tmod b = 0
      · have hm' : (a.tmod b != 0) = false := by simpa using hm
        have HF : Hid (r = a.tdiv b) := by rw [HR.out, if_neg (by simp [hm])]; exact rfl
        clear hm HR
        go_enter Try.func47, Try.ntmps47
        go_wp2
        go_ret
        exact ⟨by rw [HF.out]; rfl, rfl⟩
      · have hm' : (a.tmod b != 0) = true := by simpa using hm
        have HF : Hid (r = a.tdiv b - 1) := by
          rw [HR.out, if_pos (by rw [decide_eq_true (by omega : a < 0), decide_eq_false (by omega : ¬ b < 0)]; exact ⟨hm, by simp⟩)]; exact rfl
        clear hm HR
        go_enter Try.func47, Try.ntmps47
        go_wp2
        go_ret
        exact ⟨by rw [HF.out]; rfl, rfl⟩
    · have hd : (!decide (a < 0) == decide (b < 0)) = false := by
        rw [decide_eq_true (by omega : a < 0), decide_eq_true (by omega : b < 0)]; rfl
      have HF : Hid (r = a.tdiv b) := by rw [HR.out, if_neg (by rw [decide_eq_true (by omega : a < 0), decide_eq_true (by omega : b < 0)]; simp)]; exact rfl
      clear HR
      by_cases hm : a.tmod b = 0
      · have hm' : (a.tmod b != 0) = false := by simpa using hm
        clear hm
        go_enter Try.func47, Try.ntmps47
        go_wp2
        go_ret
        exact ⟨by rw [HF.out]; rfl, rfl⟩
      · have hm' : (a.tmod b != 0) = true := by simpa using hm
        clear hm
        go_enter Try.func47, Try.ntmps47
        go_wp2
        go_ret
        exact ⟨by rw [HF.out]; rfl, rfl⟩

/-- THE REFERENCE's FLOOR. -/
theorem rFloor_any (a b : Int) (w : World) :
    Calls Try.prog 47 #[.int .i64 a, .int .i64 b] w fun e w' => e = .returned (.int .i64 (floorZ a b)) ∧ w = w' := by
  by_cases hok : numOk a b = true
  · obtain ⟨h0, h1, h2, h3, h4⟩ := numOk_iff.1 hok
    exact rFloor_yes a b _ w h0 h1 h2 h3 h4 (by rw [floorZ, if_pos hok, ref_floor h0])
  · rw [floorZ, if_neg hok]
    have : ¬ (b ≠ 0 ∧ -1152921504606846976 ≤ a ∧ a ≤ 1152921504606846976 ∧ -1152921504606846976 ≤ b ∧ b ≤ 1152921504606846976) := fun h => hok (numOk_iff.2 h)
    exact rFloor_no a b w (by omega)

end Go.Proofs.Ytfcffmjmohkpoaa
