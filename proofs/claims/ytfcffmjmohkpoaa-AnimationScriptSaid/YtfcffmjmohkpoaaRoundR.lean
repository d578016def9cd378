/- The reference's Round. -/
import Derived.Test.YtfcffmjmohkpoaaNumOk
namespace Go.Proofs.Ytfcffmjmohkpoaa
open Go.RowKit

set_option maxHeartbeats 400000 in
theorem rRound_no (a b : Int) (w : World) (h : b = 0 ∨ a < -1152921504606846976 ∨ 1152921504606846976 < a ∨ b < -1152921504606846976 ∨ 1152921504606846976 < b) :
    Calls Try.prog 34 #[.int .i64 a, .int .i64 b] w fun e w' => e = .returned (.int .i64 0) ∧ w = w' := by
  have go : ∀ a b : Int, (b = 0) ∨ (b ≠ 0 ∧ a < -1152921504606846976) ∨ (b ≠ 0 ∧ -1152921504606846976 ≤ a ∧ 1152921504606846976 < a) ∨
      (b ≠ 0 ∧ -1152921504606846976 ≤ a ∧ a ≤ 1152921504606846976 ∧ b < -1152921504606846976) ∨ (b ≠ 0 ∧ -1152921504606846976 ≤ a ∧ a ≤ 1152921504606846976 ∧ 1152921504606846976 < b) → 
      Calls Try.prog 34 #[.int .i64 a, .int .i64 b] w fun e w' => e = .returned (.int .i64 0) ∧ w = w' := by
    clear h a b
    intro a b h
    rcases h with h | h | h | h | h
    · subst h
      go_enter Try.func34, Try.ntmps34
      go_wp2
      go_ret
      exact ⟨rfl, rfl⟩
    all_goals
      have hz : (b == 0) = false := by simp; omega
      go_enter Try.func34, Try.ntmps34
      go_wp2
      go_ret
      exact ⟨rfl, rfl⟩
  exact go a b (by omega)

set_option maxHeartbeats 800000 in
theorem rRound_pos (a b : Int) (w : World) (hb : 0 < b) (h1 : -1152921504606846976 ≤ a) (h2 : a ≤ 1152921504606846976) (h4 : b ≤ 1152921504606846976) :
    Calls Try.prog 34 #[.int .i64 a, .int .i64 b] w fun e w' => e = .returned (.int .i64 ((2 * a + b) / (2 * b))) ∧ w = w' := by
  obtain ⟨r, hr⟩ : ∃ r, r = (2 * a + b) / (2 * b) := ⟨_, rfl⟩
  rw [← hr]
  rw [ref_round hb] at hr
  have hz : (b == 0) = false := by simp; omega
  have hq := tdiv_bd' (show b ≠ 0 by omega) h1 h2
  obtain ⟨-, k2, k3⟩ := tdiv_facts (a := a) hb
  by_cases ha : 0 ≤ a
  · have e0 : a.tdiv b = a / b := Int.tdiv_eq_ediv_of_nonneg ha
    have e1 : a.tmod b = a % b := Int.tmod_eq_emod_of_nonneg ha
    have hm := k2 ha
    rw [e0, e1] at hr hm
    rw [e0] at hq
    clear k2 k3 e0 e1
    rw [if_neg (by omega)] at hr
    by_cases c : b - a % b ≤ a % b
    · rw [if_pos c] at hr
      have HR := Lib.hid hr
      clear hr
      go_enter Try.func34, Try.ntmps34
      go_wp2
      go_ret
      exact ⟨by rw [HR.out]; rfl, rfl⟩
    · rw [if_neg c] at hr
      have HR := Lib.hid hr
      clear hr
      go_enter Try.func34, Try.ntmps34
      go_wp2
      go_ret
      exact ⟨by rw [HR.out]; rfl, rfl⟩
  · have hm := k3 (by omega)
    clear k2 k3
    by_cases d : a.tmod b < 0
    · rw [if_pos d] at hr
      by_cases c : b - (a.tmod b + b) ≤ a.tmod b + b
      · rw [if_pos c, Int.sub_add_cancel] at hr
        have HR := Lib.hid hr
        clear hr
        go_enter Try.func34, Try.ntmps34
        go_wp2
        go_ret
        exact ⟨by rw [HR.out]; rfl, rfl⟩
      · rw [if_neg c] at hr
        have HR := Lib.hid hr
        clear hr
        go_enter Try.func34, Try.ntmps34
        go_wp2
        go_ret
        exact ⟨by rw [HR.out]; rfl, rfl⟩
    · rw [if_neg d, if_neg (by omega)] at hr
      have HR := Lib.hid hr
      clear hr
      go_enter Try.func34, Try.ntmps34
      go_wp2
      go_ret
      exact ⟨by rw [HR.out]; rfl, rfl⟩
set_option maxHeartbeats 800000 in
theorem rRound_neg (a b : Int) (w : World) (hb : 0 < b) (h1 : -1152921504606846976 ≤ a) (h2 : a ≤ 1152921504606846976) (h4 : b ≤ 1152921504606846976) :
    Calls Try.prog 34 #[.int .i64 (-a), .int .i64 (-b)] w fun e w' => e = .returned (.int .i64 ((2 * a + b) / (2 * b))) ∧ w = w' := by
  obtain ⟨r, hr⟩ : ∃ r, r = (2 * a + b) / (2 * b) := ⟨_, rfl⟩
  rw [← hr]
  rw [ref_round hb] at hr
  have hz : (-b == 0) = false := by simp; omega
  have hz' : (b == 0) = false := by simp; omega
  have hq := tdiv_bd' (show b ≠ 0 by omega) h1 h2
  obtain ⟨-, k2, k3⟩ := tdiv_facts (a := a) hb
  by_cases ha : 0 ≤ a
  · have e0 : a.tdiv b = a / b := Int.tdiv_eq_ediv_of_nonneg ha
    have e1 : a.tmod b = a % b := Int.tmod_eq_emod_of_nonneg ha
    have hm := k2 ha
    rw [e0, e1] at hr hm
    rw [e0] at hq
    clear k2 k3 e0 e1
    rw [if_neg (by omega)] at hr
    by_cases c : b - a % b ≤ a % b
    · rw [if_pos c] at hr
      have HR := Lib.hid hr
      clear hr
      go_enter Try.func34, Try.ntmps34
      go_wp2
      go_ret
      exact ⟨by rw [HR.out]; rfl, rfl⟩
    · rw [if_neg c] at hr
      have HR := Lib.hid hr
      clear hr
      go_enter Try.func34, Try.ntmps34
      go_wp2
      go_ret
      exact ⟨by rw [HR.out]; rfl, rfl⟩
  · have hm := k3 (by omega)
    clear k2 k3
    by_cases d : a.tmod b < 0
    · rw [if_pos d] at hr
      by_cases c : b - (a.tmod b + b) ≤ a.tmod b + b
      · rw [if_pos c, Int.sub_add_cancel] at hr
        have HR := Lib.hid hr
        clear hr
        go_enter Try.func34, Try.ntmps34
        go_wp2
        go_ret
        exact ⟨by rw [HR.out]; rfl, rfl⟩
      · rw [if_neg c] at hr
        have HR := Lib.hid hr
        clear hr
        go_enter Try.func34, Try.ntmps34
        go_wp2
        go_ret
        exact ⟨by rw [HR.out]; rfl, rfl⟩
    · rw [if_neg d, if_neg (by omega)] at hr
      have HR := Lib.hid hr
      clear hr
      go_enter Try.func34, Try.ntmps34
      go_wp2
      go_ret
      exact ⟨by rw [HR.out]; rfl, rfl⟩


/-- THE REFERENCE's ROUND. -/
theorem rRound_any (a b : Int) (w : World) :
    Calls Try.prog 34 #[.int .i64 a, .int .i64 b] w fun e w' => e = .returned (.int .i64 (roundZ a b)) ∧ w = w' := by
  by_cases hok : numOk a b = true
  · obtain ⟨h0, h1, h2, h3, h4⟩ := numOk_iff.1 hok
    rw [roundZ, if_pos hok]
    by_cases hb : b < 0
    · rw [if_pos hb]
      have := rRound_neg (-a) (-b) w (by omega) (by omega) (by omega) (by omega)
      rwa [Int.neg_neg, Int.neg_neg] at this
    · rw [if_neg hb]
      exact rRound_pos a b w (by omega) h1 h2 h4
  · rw [roundZ, if_neg hok]
    have : ¬ (b ≠ 0 ∧ -1152921504606846976 ≤ a ∧ a ≤ 1152921504606846976 ∧ -1152921504606846976 ≤ b ∧ b ≤ 1152921504606846976) := fun h => hok (numOk_iff.2 h)
    exact rRound_no a b w (by omega)
end Go.Proofs.Ytfcffmjmohkpoaa
