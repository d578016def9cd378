/- The reference's Round and the two Scales. -/
import Derived.Test.YtmennimfjelcfaaDivs
namespace Go.Proofs.Ytmennimfjelcfaa
open Go.RowKit

set_option maxHeartbeats 400000 in
theorem rRound_no (a b : Int) (w : World) (h : b = 0 ∨ a < -1152921504606846976 ∨ 1152921504606846976 < a ∨ b < -1152921504606846976 ∨ 1152921504606846976 < b) :
    Calls Try.prog 21 #[.int .i64 a, .int .i64 b] w fun e w' => e = .returned (.int .i64 0) ∧ w = w' := by
  have go : ∀ a b : Int, (b = 0) ∨ (b ≠ 0 ∧ a < -1152921504606846976) ∨ (b ≠ 0 ∧ -1152921504606846976 ≤ a ∧ 1152921504606846976 < a) ∨
      (b ≠ 0 ∧ -1152921504606846976 ≤ a ∧ a ≤ 1152921504606846976 ∧ b < -1152921504606846976) ∨ (b ≠ 0 ∧ -1152921504606846976 ≤ a ∧ a ≤ 1152921504606846976 ∧ 1152921504606846976 < b) → 
      Calls Try.prog 21 #[.int .i64 a, .int .i64 b] w fun e w' => e = .returned (.int .i64 0) ∧ w = w' := by
    clear h a b
    intro a b h
    rcases h with h | h | h | h | h
    · subst h
      go_enter Try.func21, Try.ntmps21
      go_wp2
      go_ret
      exact ⟨rfl, rfl⟩
    all_goals
      have hz : (b == 0) = false := by simp; omega
      go_enter Try.func21, Try.ntmps21
      go_wp2
      go_ret
      exact ⟨rfl, rfl⟩
  exact go a b (by omega)

set_option maxHeartbeats 800000 in
theorem rRound_pos (a b : Int) (w : World) (hb : 0 < b) (h1 : -1152921504606846976 ≤ a) (h2 : a ≤ 1152921504606846976) (h4 : b ≤ 1152921504606846976) :
    Calls Try.prog 21 #[.int .i64 a, .int .i64 b] w fun e w' => e = .returned (.int .i64 ((2 * a + b) / (2 * b))) ∧ w = w' := by
  obtain ⟨r, hr⟩ : ∃ r, r = (2 * a + b) / (2 * b) := ⟨_, rfl⟩
  rw [← hr]
  rw [ref_round hb] at hr
  have hz : (b == 0) = false := by simp; omega
  have hq := tdiv_bd' (show b ≠ 0 by omega) h1 h2
  obtain ⟨-, k2, k3⟩ := tdiv_facts (a := a) hb
  by_cases ha : 0 ≤ a
  · have e0 : a.tdiv b = a / b := Int.tdiv_eq_ediv_of_nonneg ha
    have e1 : a.tmod b = a % b := Int.tmod_eq_emod_of_nonneg ha
    have hm := k2 ha
    rw [e0, e1] at hr hm
    rw [e0] at hq
    clear k2 k3 e0 e1
    rw [if_neg (by omega)] at hr
    by_cases c : b - a % b ≤ a % b
    · rw [if_pos c] at hr
      have HR := Lib.hid hr
      clear hr
      go_enter Try.func21, Try.ntmps21
      go_wp2
      go_ret
      exact ⟨by rw [HR.out]; rfl, rfl⟩
    · rw [if_neg c] at hr
      have HR := Lib.hid hr
      clear hr
      go_enter Try.func21, Try.ntmps21
      go_wp2
      go_ret
      exact ⟨by rw [HR.out]; rfl, rfl⟩
  · have hm := k3 (by omega)
    clear k2 k3
    by_cases d : a.tmod b < 0
    · rw [if_pos d] at hr
      by_cases c : b - (a.tmod b + b) ≤ a.tmod b + b
      · rw [if_pos c, Int.sub_add_cancel] at hr
        have HR := Lib.hid hr
        clear hr
        go_enter Try.func21, Try.ntmps21
        go_wp2
        go_ret
        exact ⟨by rw [HR.out]; rfl, rfl⟩
      · rw [if_neg c] at hr
        have HR := Lib.hid hr
        clear hr
        go_enter Try.func21, Try.ntmps21
        go_wp2
        go_ret
        exact ⟨by rw [HR.out]; rfl, rfl⟩
    · rw [if_neg d, if_neg (by omega)] at hr
      have HR := Lib.hid hr
      clear hr
      go_enter Try.func21, Try.ntmps21
      go_wp2
      go_ret
      exact ⟨by rw [HR.out]; rfl, rfl⟩
set_option maxHeartbeats 800000 in
theorem rRound_neg (a b : Int) (w : World) (hb : 0 < b) (h1 : -1152921504606846976 ≤ a) (h2 : a ≤ 1152921504606846976) (h4 : b ≤ 1152921504606846976) :
    Calls Try.prog 21 #[.int .i64 (-a), .int .i64 (-b)] w fun e w' => e = .returned (.int .i64 ((2 * a + b) / (2 * b))) ∧ w = w' := by
  obtain ⟨r, hr⟩ : ∃ r, r = (2 * a + b) / (2 * b) := ⟨_, rfl⟩
  rw [← hr]
  rw [ref_round hb] at hr
  have hz : (-b == 0) = false := by simp; omega
  have hz' : (b == 0) = false := by simp; omega
  have hq := tdiv_bd' (show b ≠ 0 by omega) h1 h2
  obtain ⟨-, k2, k3⟩ := tdiv_facts (a := a) hb
  by_cases ha : 0 ≤ a
  · have e0 : a.tdiv b = a / b := Int.tdiv_eq_ediv_of_nonneg ha
    have e1 : a.tmod b = a % b := Int.tmod_eq_emod_of_nonneg ha
    have hm := k2 ha
    rw [e0, e1] at hr hm
    rw [e0] at hq
    clear k2 k3 e0 e1
    rw [if_neg (by omega)] at hr
    by_cases c : b - a % b ≤ a % b
    · rw [if_pos c] at hr
      have HR := Lib.hid hr
      clear hr
      go_enter Try.func21, Try.ntmps21
      go_wp2
      go_ret
      exact ⟨by rw [HR.out]; rfl, rfl⟩
    · rw [if_neg c] at hr
      have HR := Lib.hid hr
      clear hr
      go_enter Try.func21, Try.ntmps21
      go_wp2
      go_ret
      exact ⟨by rw [HR.out]; rfl, rfl⟩
  · have hm := k3 (by omega)
    clear k2 k3
    by_cases d : a.tmod b < 0
    · rw [if_pos d] at hr
      by_cases c : b - (a.tmod b + b) ≤ a.tmod b + b
      · rw [if_pos c, Int.sub_add_cancel] at hr
        have HR := Lib.hid hr
        clear hr
        go_enter Try.func21, Try.ntmps21
        go_wp2
        go_ret
        exact ⟨by rw [HR.out]; rfl, rfl⟩
      · rw [if_neg c] at hr
        have HR := Lib.hid hr
        clear hr
        go_enter Try.func21, Try.ntmps21
        go_wp2
        go_ret
        exact ⟨by rw [HR.out]; rfl, rfl⟩
    · rw [if_neg d, if_neg (by omega)] at hr
      have HR := Lib.hid hr
      clear hr
      go_enter Try.func21, Try.ntmps21
      go_wp2
      go_ret
      exact ⟨by rw [HR.out]; rfl, rfl⟩

/-- THE REFERENCE's FLOOR. -/
theorem rFloor_any (a b : Int) (w : World) :
    Calls Try.prog 19 #[.int .i64 a, .int .i64 b] w fun e w' => e = .returned (.int .i64 (floorZ a b)) ∧ w = w' := by
  by_cases hok : numOk a b = true
  · obtain ⟨h0, h1, h2, h3, h4⟩ := numOk_iff.1 hok
    exact rFloor_yes a b _ w h0 h1 h2 h3 h4 (by rw [floorZ, if_pos hok, ref_floor h0])
  · rw [floorZ, if_neg hok]
    have : ¬ (b ≠ 0 ∧ -1152921504606846976 ≤ a ∧ a ≤ 1152921504606846976 ∧ -1152921504606846976 ≤ b ∧ b ≤ 1152921504606846976) := fun h => hok (numOk_iff.2 h)
    exact rFloor_no a b w (by omega)

/-- THE REFERENCE's ROUND. -/
theorem rRound_any (a b : Int) (w : World) :
    Calls Try.prog 21 #[.int .i64 a, .int .i64 b] w fun e w' => e = .returned (.int .i64 (roundZ a b)) ∧ w = w' := by
  by_cases hok : numOk a b = true
  · obtain ⟨h0, h1, h2, h3, h4⟩ := numOk_iff.1 hok
    rw [roundZ, if_pos hok]
    by_cases hb : b < 0
    · rw [if_pos hb]
      have := rRound_neg (-a) (-b) w (by omega) (by omega) (by omega) (by omega)
      rwa [Int.neg_neg, Int.neg_neg] at this
    · rw [if_neg hb]
      exact rRound_pos a b w (by omega) h1 h2 h4
  · rw [roundZ, if_neg hok]
    have : ¬ (b ≠ 0 ∧ -1152921504606846976 ≤ a ∧ a ≤ 1152921504606846976 ∧ -1152921504606846976 ≤ b ∧ b ≤ 1152921504606846976) := fun h => hok (numOk_iff.2 h)
    exact rRound_no a b w (by omega)
/-! ### Scale -/

theorem scale_case (x num den : Int) : (scaleE x num den = 1 ∧ scaleZ x num den = 0 ∧ (x < -1099511627776 ∨ (-1099511627776 ≤ x ∧ 1099511627776 < x) ∨ (-1099511627776 ≤ x ∧ x ≤ 1099511627776 ∧ num < 0) ∨
      (-1099511627776 ≤ x ∧ x ≤ 1099511627776 ∧ 0 ≤ num ∧ 65536 < num) ∨ (-1099511627776 ≤ x ∧ x ≤ 1099511627776 ∧ 0 ≤ num ∧ num ≤ 65536 ∧ den < 1) ∨ (-1099511627776 ≤ x ∧ x ≤ 1099511627776 ∧ 0 ≤ num ∧ num ≤ 65536 ∧ 1 ≤ den ∧ 65536 < den))) ∨
    (scaleE x num den = 0 ∧ scaleZ x num den = roundZ (x * num) den ∧ -1099511627776 ≤ x ∧ x ≤ 1099511627776 ∧ 0 ≤ num ∧ num ≤ 65536 ∧ 1 ≤ den ∧ den ≤ 65536) := by
  by_cases h : x < -1099511627776 ∨ 1099511627776 < x ∨ num < 0 ∨ 65536 < num ∨ den < 1 ∨ 65536 < den
  · left
    have e : scaleE x num den = 1 := by rw [scaleE, if_pos h]
    exact ⟨e, by rw [scaleZ, if_neg (by omega)], by omega⟩
  · right
    have e : scaleE x num den = 0 := by rw [scaleE, if_neg h]
    exact ⟨e, by rw [scaleZ, if_pos e], by omega⟩
theorem mul_bd_sym {x n m k : Int} (h0 : -m ≤ x) (h1 : x ≤ m) (h2 : 0 ≤ n) (h3 : n ≤ k) (hm : 0 ≤ m) : -(m * k) ≤ x * n ∧ x * n ≤ m * k := by
  have a1 : x * n ≤ m * n := Int.mul_le_mul_of_nonneg_right h1 h2
  have a2 : -m * n ≤ x * n := Int.mul_le_mul_of_nonneg_right h0 h2
  have a3 : m * n ≤ m * k := Int.mul_le_mul_of_nonneg_left h3 hm
  rw [Int.neg_mul] at a2
  omega

set_option maxHeartbeats 400000 in
/-- SCALE OF PACKAGE fixed. -/
theorem Scale_any (x num den : Int) (w : World) :
    Calls Try.prog 16 #[.int .i64 x, .int .i64 num, .int .i64 den] w fun e w' => e = .returned (.tuple #[.int .i64 (scaleZ x num den), .int .i64 (scaleE x num den)]) ∧ w = w' := by
  rcases scale_case x num den with ⟨e0, e1, h⟩ | ⟨e0, e1, h1, h2, h3, h4, h5, h6⟩
  · rw [e0, e1]
    clear e0 e1
    rcases h with h | h | h | h | h | h
    all_goals
      go_enter Try.func16, Try.ntmps16
      go_wp2
      go_ret2
      exact ⟨rfl, rfl⟩
  · rw [e0, e1]
    clear e0 e1
    have hm := mul_bd_sym h1 h2 h3 h4 (by omega)
    go_enter Try.func16, Try.ntmps16
    go_wp2_with (go_at_call 20; refine (Round_any _ _ _).mono ?_; rintro e w' ⟨rfl, rfl⟩)
    go_ret2
    exact ⟨rfl, rfl⟩

set_option maxHeartbeats 400000 in
/-- THE REFERENCE's SCALE. -/
theorem rScale_any (x num den : Int) (w : World) :
    Calls Try.prog 17 #[.int .i64 x, .int .i64 num, .int .i64 den] w fun e w' => e = .returned (.tuple #[.int .i64 (scaleZ x num den), .int .i64 (scaleE x num den)]) ∧ w = w' := by
  rcases scale_case x num den with ⟨e0, e1, h⟩ | ⟨e0, e1, h1, h2, h3, h4, h5, h6⟩
  · rw [e0, e1]
    clear e0 e1
    rcases h with h | h | h | h | h | h
    all_goals
      go_enter Try.func17, Try.ntmps17
      go_wp2
      go_ret2
      exact ⟨rfl, rfl⟩
  · rw [e0, e1]
    clear e0 e1
    have hm := mul_bd_sym h1 h2 h3 h4 (by omega)
    go_enter Try.func17, Try.ntmps17
    go_wp2_with (go_at_call 21; refine (rRound_any _ _ _).mono ?_; rintro e w' ⟨rfl, rfl⟩)
    go_ret2
    exact ⟨rfl, rfl⟩
end Go.Proofs.Ytmennimfjelcfaa
