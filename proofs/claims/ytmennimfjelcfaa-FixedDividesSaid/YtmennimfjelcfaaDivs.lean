/- Floor, Round and Scale, of package fixed and of the reference: contracts. -/
import Derived.Test.YtmennimfjelcfaaInts
import Derived.Test.YtmennimfjelcfaaPlainB
namespace Go.Proofs.Ytmennimfjelcfaa
open Go.RowKit

set_option maxHeartbeats 400000 in
theorem floor_any (a b : Int) (w : World) (h0 : -4611686018427387904 ≤ a) (h1 : a ≤ 4611686018427387904) (hb : 1 ≤ b) (hb1 : b ≤ 4611686018427387904) :
    Calls Try.prog 23 #[.int .i64 a, .int .i64 b] w fun e w' => e = .returned (.int .i64 (a / b)) ∧ w = w' := by
  have hz : (b == 0) = false := by simp; omega
  by_cases ha : 0 ≤ a
  · have h2 := (quo_bd (a := a) (b := b) (by omega)).1 ha
    have h3 := Int.emod_nonneg a (show b ≠ 0 by omega)
    go_enter Try.func23, Try.ntmps23
    go_wp2
    go_ret
    exact ⟨rfl, rfl⟩
  · have ha' : a < 0 := by omega
    have h2 := (tdiv_bd (a := a) (b := b) (by omega)).2 ha'
    by_cases hm : a.tmod b < 0
    · have H : Hid (a / b = a.tdiv b - 1) := by rw [floor_pos (by omega), if_pos hm]; exact rfl
      go_enter Try.func23, Try.ntmps23
      go_wp2
      go_ret
      exact ⟨by rw [H.out]; rfl, rfl⟩
    · have H : Hid (a / b = a.tdiv b) := by rw [floor_pos (by omega), if_neg hm]; exact rfl
      go_enter Try.func23, Try.ntmps23
      go_wp2
      go_ret
      exact ⟨by rw [H.out]; rfl, rfl⟩

theorem ret_bool {a b : Bool} (h : a = b) : Ending.returned (.bool a) = .returned (.bool b) := by rw [h]
theorem ret_int {k : IntKind} {a b : Int} (h : a = b) : Ending.returned (.int k a) = .returned (.int k b) := by rw [h]

set_option maxHeartbeats 400000 in
theorem ok_any (a b : Int) (w : World) :
    Calls Try.prog 22 #[.int .i64 a, .int .i64 b] w fun e w' => e = .returned (.bool (numOk a b)) ∧ w = w' := by
  go_enter Try.func22, Try.ntmps22
  go_wp2
  all_goals
    go_ret
    exact ⟨ret_bool (by rw [Bool.eq_iff_iff]; simp [numOk]; try omega), rfl⟩

theorem numOk_iff {a b : Int} : numOk a b = true ↔ b ≠ 0 ∧ -1152921504606846976 ≤ a ∧ a ≤ 1152921504606846976 ∧ -1152921504606846976 ≤ b ∧ b ≤ 1152921504606846976 := by simp [numOk]

set_option maxHeartbeats 400000 in
/-- FLOOR OF PACKAGE fixed. -/
theorem Floor_any (a b : Int) (w : World) :
    Calls Try.prog 18 #[.int .i64 a, .int .i64 b] w fun e w' => e = .returned (.int .i64 (floorZ a b)) ∧ w = w' := by
  by_cases hok : numOk a b = true
  · obtain ⟨h0, h1, h2, h3, h4⟩ := numOk_iff.1 hok
    by_cases hb : b < 0
    · have H : Hid (floorZ a b = (-a) / (-b)) := by rw [floorZ, if_pos hok, if_pos hb]; exact rfl
      go_enter Try.func18, Try.ntmps18
      go_wp2_with (first | (go_at_call 22; refine (ok_any _ _ _).mono ?_; rintro e w' ⟨rfl, rfl⟩) | (go_at_call 23; refine (floor_any _ _ _ (by omega) (by omega) (by omega) (by omega)).mono ?_; rintro e w' ⟨rfl, rfl⟩))
      go_ret
      exact ⟨by rw [H.out, Int.ediv_neg]; rfl, rfl⟩
    · have H : Hid (floorZ a b = a / b) := by rw [floorZ, if_pos hok, if_neg hb]; exact rfl
      go_enter Try.func18, Try.ntmps18
      go_wp2_with (first | (go_at_call 22; refine (ok_any _ _ _).mono ?_; rintro e w' ⟨rfl, rfl⟩) | (go_at_call 23; refine (floor_any _ _ _ (by omega) (by omega) (by omega) (by omega)).mono ?_; rintro e w' ⟨rfl, rfl⟩))
      go_ret
      exact ⟨by rw [H.out]; rfl, rfl⟩
  · have hok' : numOk a b = false := by simpa using hok
    have H : Hid (floorZ a b = 0) := by rw [floorZ, if_neg hok]; exact rfl
    clear hok
    go_enter Try.func18, Try.ntmps18
    go_wp2_with (go_at_call 22; refine (ok_any _ _ _).mono ?_; rintro e w' ⟨rfl, rfl⟩)
    go_ret
    exact ⟨by rw [H.out]; rfl, rfl⟩

set_option maxHeartbeats 400000 in
/-- ROUND OF PACKAGE fixed. -/
theorem Round_any (a b : Int) (w : World) :
    Calls Try.prog 20 #[.int .i64 a, .int .i64 b] w fun e w' => e = .returned (.int .i64 (roundZ a b)) ∧ w = w' := by
  by_cases hok : numOk a b = true
  · obtain ⟨h0, h1, h2, h3, h4⟩ := numOk_iff.1 hok
    by_cases hb : b < 0
    · have H : Hid (roundZ a b = (2 * -a + -b) / (2 * -b)) := by rw [roundZ, if_pos hok, if_pos hb]; exact rfl
      go_enter Try.func20, Try.ntmps20
      go_wp2_with (first | (go_at_call 22; refine (ok_any _ _ _).mono ?_; rintro e w' ⟨rfl, rfl⟩) | (go_at_call 23; refine (floor_any _ _ _ (by omega) (by omega) (by omega) (by omega)).mono ?_; rintro e w' ⟨rfl, rfl⟩))
      go_ret
      exact ⟨by rw [H.out]; rfl, rfl⟩
    · have H : Hid (roundZ a b = (2 * a + b) / (2 * b)) := by rw [roundZ, if_pos hok, if_neg hb]; exact rfl
      go_enter Try.func20, Try.ntmps20
      go_wp2_with (first | (go_at_call 22; refine (ok_any _ _ _).mono ?_; rintro e w' ⟨rfl, rfl⟩) | (go_at_call 23; refine (floor_any _ _ _ (by omega) (by omega) (by omega) (by omega)).mono ?_; rintro e w' ⟨rfl, rfl⟩))
      go_ret
      exact ⟨by rw [H.out]; rfl, rfl⟩
  · have hok' : numOk a b = false := by simpa using hok
    have H : Hid (roundZ a b = 0) := by rw [roundZ, if_neg hok]; exact rfl
    clear hok
    go_enter Try.func20, Try.ntmps20
    go_wp2_with (go_at_call 22; refine (ok_any _ _ _).mono ?_; rintro e w' ⟨rfl, rfl⟩)
    go_ret
    exact ⟨by rw [H.out]; rfl, rfl⟩

theorem tdiv_bd' {a b : Int} (hb : b ≠ 0) (h0 : -1152921504606846976 ≤ a) (h1 : a ≤ 1152921504606846976) : -1152921504606846976 ≤ a.tdiv b ∧ a.tdiv b ≤ 1152921504606846976 := by
  by_cases h : b < 0
  · rw [tdiv_neg_neg]
    have := tdiv_bd (a := -a) (b := -b) (by omega)
    by_cases ha : 0 ≤ -a
    · have := this.1 ha; omega
    · have := this.2 (by omega); omega
  · have := tdiv_bd (a := a) (b := b) (by omega)
    by_cases ha : 0 ≤ a
    · have := this.1 ha; omega
    · have := this.2 (by omega); omega

set_option maxHeartbeats 400000 in
theorem rFloor_no (a b : Int) (w : World) (h : b = 0 ∨ a < -1152921504606846976 ∨ 1152921504606846976 < a ∨ b < -1152921504606846976 ∨ 1152921504606846976 < b) :
    Calls Try.prog 19 #[.int .i64 a, .int .i64 b] w fun e w' => e = .returned (.int .i64 0) ∧ w = w' := by
  have go : ∀ a b : Int, (b = 0) ∨ (b ≠ 0 ∧ a < -1152921504606846976) ∨ (b ≠ 0 ∧ -1152921504606846976 ≤ a ∧ 1152921504606846976 < a) ∨
      (b ≠ 0 ∧ -1152921504606846976 ≤ a ∧ a ≤ 1152921504606846976 ∧ b < -1152921504606846976) ∨ (b ≠ 0 ∧ -1152921504606846976 ≤ a ∧ a ≤ 1152921504606846976 ∧ 1152921504606846976 < b) → 
      Calls Try.prog 19 #[.int .i64 a, .int .i64 b] w fun e w' => e = .returned (.int .i64 0) ∧ w = w' := by
    clear h a b
    intro a b h
    rcases h with h | h | h | h | h
    · subst h
      go_enter Try.func19, Try.ntmps19
      go_wp2
      go_ret
      exact ⟨rfl, rfl⟩
    all_goals
      have hz : (b == 0) = false := by simp; omega
      go_enter Try.func19, Try.ntmps19
      go_wp2
      go_ret
      exact ⟨rfl, rfl⟩
  exact go a b (by omega)

set_option maxHeartbeats 400000 in
theorem rFloor_yes (a b r : Int) (w : World) (hb : b ≠ 0) (h1 : -1152921504606846976 ≤ a) (h2 : a ≤ 1152921504606846976) (h3 : -1152921504606846976 ≤ b) (h4 : b ≤ 1152921504606846976)
    (hr : r = if a.tmod b ≠ 0 ∧ (decide (a < 0) ≠ decide (b < 0)) then a.tdiv b - 1 else a.tdiv b) :
    Calls Try.prog 19 #[.int .i64 a, .int .i64 b] w fun e w' => e = .returned (.int .i64 r) ∧ w = w' := by
  have hz : (b == 0) = false := by simpa using hb
  have hq := tdiv_bd' hb h1 h2
  have HR := Lib.hid hr
  clear hr
  by_cases ha : 0 ≤ a
  · by_cases hb0 : 0 ≤ b
    · have e1 : a.tdiv b = a / b := Int.tdiv_eq_ediv_of_nonneg ha
      have hd : (!decide (a < 0) == decide (b < 0)) = false := by
        rw [decide_eq_false (by omega : ¬ a < 0), decide_eq_false (by omega : ¬ b < 0)]; rfl
      have HF : Hid (r = a / b) := by rw [HR.out, if_neg (by rw [decide_eq_false (by omega : ¬ a < 0), decide_eq_false (by omega : ¬ b < 0)]; simp), e1]; exact rfl
      rw [e1] at hq
      clear e1 HR
      by_cases hm : (a % b == 0) = true
      · have hm' : (a % b != 0) = false := by simpa using hm
        clear hm
        go_enter Try.func19, Try.ntmps19
        go_wp2
        go_ret
        exact ⟨by rw [HF.out]; rfl, rfl⟩
      · have hm' : (a % b != 0) = true := by simpa using hm
        clear hm
        go_enter Try.func19, Try.ntmps19
        go_wp2
        go_ret
        exact ⟨by rw [HF.out]; rfl, rfl⟩
    · have e1 : a.tmod b = a % b := Int.tmod_eq_emod_of_nonneg ha
      have hd : (!decide (a < 0) == decide (b < 0)) = true := by
        rw [decide_eq_false (by omega : ¬ a < 0), decide_eq_true (by omega : b < 0)]; rfl
      by_cases hm : a % b = 0
      · have hm' : (a % b != 0) = false := by simpa using hm
        have HF : Hid (r = a.tdiv b) := by rw [HR.out, if_neg (by rw [e1]; simp [hm])]; exact rfl
        clear hm e1 HR
        go_enter Try.func19, Try.ntmps19
        go_wp2
        go_ret
        exact ⟨by rw [HF.out]; rfl, rfl⟩
      · have hm' : (a % b != 0) = true := by simpa using hm
        have HF : Hid (r = a.tdiv b - 1) := by
          rw [HR.out, if_pos (by rw [e1, decide_eq_false (by omega : ¬ a < 0), decide_eq_true (by omega : b < 0)]; exact ⟨hm, by simp⟩)]; exact rfl
        clear hm e1 HR
        go_enter Try.func19, Try.ntmps19
        go_wp2
        go_ret
        exact ⟨by rw [HF.out]; rfl, rfl⟩
  · by_cases hb0 : 0 ≤ b
    · have hd : (!decide (a < 0) == decide (b < 0)) = true := by
        rw [decide_eq_true (by omega : a < 0), decide_eq_false (by omega : ¬ b < 0)]; rfl
      by_cases hm : a.tmod b = 0
      · have hm' : (a.tmod b != 0) = false := by simpa using hm
        have HF : Hid (r = a.tdiv b) := by rw [HR.out, if_neg (by simp [hm])]; exact rfl
        clear hm HR
        go_enter Try.func19, Try.ntmps19
        go_wp2
        go_ret
        exact ⟨by rw [HF.out]; rfl, rfl⟩
      · have hm' : (a.tmod b != 0) = true := by simpa using hm
        have HF : Hid (r = a.tdiv b - 1) := by
          rw [HR.out, if_pos (by rw [decide_eq_true (by omega : a < 0), decide_eq_false (by omega : ¬ b < 0)]; exact ⟨hm, by simp⟩)]; exact rfl
        clear hm HR
        go_enter Try.func19, Try.ntmps19
        go_wp2
        go_ret
        exact ⟨by rw [HF.out]; rfl, rfl⟩
    · have hd : (!decide (a < 0) == decide (b < 0)) = false := by
        rw [decide_eq_true (by omega : a < 0), decide_eq_true (by omega : b < 0)]; rfl
      have HF : Hid (r = a.tdiv b) := by rw [HR.out, if_neg (by rw [decide_eq_true (by omega : a < 0), decide_eq_true (by omega : b < 0)]; simp)]; exact rfl
      clear HR
      by_cases hm : a.tmod b = 0
      · have hm' : (a.tmod b != 0) = false := by simpa using hm
        clear hm
        go_enter Try.func19, Try.ntmps19
        go_wp2
        go_ret
        exact ⟨by rw [HF.out]; rfl, rfl⟩
      · have hm' : (a.tmod b != 0) = true := by simpa using hm
        clear hm
        go_enter Try.func19, Try.ntmps19
        go_wp2
        go_ret
        exact ⟨by rw [HF.out]; rfl, rfl⟩
end Go.Proofs.Ytmennimfjelcfaa
