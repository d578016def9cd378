/- Validate and State of the reference (printed by wip/gen_anim.py). -/
import Derived.Test.YtfcffmjmohkpoaaValid
import Derived.Test.YtfcffmjmohkpoaaSpringR
namespace Go.Proofs.Ytfcffmjmohkpoaa
open Go.RowKit
set_option linter.unusedVariables false
set_option linter.unusedSimpArgs false

set_option maxHeartbeats 4000000 in
set_option maxRecDepth 100000 in
theorem rValidate_curve (n p f t s du x1 y1 x2 y2 st da x v nw : Int) (w : World) : Calls Try.prog 23 #[.agg #[.int .i64 n, .int .i64 p, .int .i64 1, .int .i64 f, .int .i64 t, .int .i64 s, .int .i64 du, .int .i64 x1, .int .i64 y1, .int .i64 x2, .int .i64 y2, .int .i64 st, .int .i64 da, .int .i64 x, .int .i64 v, .int .i64 nw]] w (Gives (⟨n, p, 1, f, t, s, du, x1, y1, x2, y2, st, da, x, v, nw⟩ : Anim).err w) := by
  have HE : Hid ((⟨n, p, 1, f, t, s, du, x1, y1, x2, y2, st, da, x, v, nw⟩ : Anim).err = if ((⟨n, p, 1, f, t, s, du, x1, y1, x2, y2, st, da, x, v, nw⟩ : Anim).headB && (⟨n, p, 1, f, t, s, du, x1, y1, x2, y2, st, da, x, v, nw⟩ : Anim).curveB) = true then 0 else 1) := by show _ = _; unfold Anim.err; rw [if_pos rfl]
  go_enter Try.func23, Try.ntmps23
  go_wp2_with (first | (go_at_call 45; refine (rin_any _ _ _ _).mono ?_; rintro e w' ⟨rfl, rfl⟩) | (go_at_call 44; refine (validCurve_any _ _ _ _ _).mono ?_; rintro e w' ⟨rfl, rfl⟩))
  all_goals
    go_ret
    refine ⟨ret_int ?_, by first | exact below_new _ _ | exact below2 _ _ _⟩
    rw [HE.out]
    simp_all [Anim.headB, Anim.curveB, Anim.springB, valueB, springB]

set_option maxHeartbeats 4000000 in
set_option maxRecDepth 100000 in
theorem rValidate_spring (n p f t s du x1 y1 x2 y2 st da x v nw : Int) (w : World) : Calls Try.prog 23 #[.agg #[.int .i64 n, .int .i64 p, .int .i64 2, .int .i64 f, .int .i64 t, .int .i64 s, .int .i64 du, .int .i64 x1, .int .i64 y1, .int .i64 x2, .int .i64 y2, .int .i64 st, .int .i64 da, .int .i64 x, .int .i64 v, .int .i64 nw]] w (Gives (⟨n, p, 2, f, t, s, du, x1, y1, x2, y2, st, da, x, v, nw⟩ : Anim).err w) := by
  have HE : Hid ((⟨n, p, 2, f, t, s, du, x1, y1, x2, y2, st, da, x, v, nw⟩ : Anim).err = if ((⟨n, p, 2, f, t, s, du, x1, y1, x2, y2, st, da, x, v, nw⟩ : Anim).headB && (⟨n, p, 2, f, t, s, du, x1, y1, x2, y2, st, da, x, v, nw⟩ : Anim).springB) = true then 0 else 1) := by show _ = _; unfold Anim.err; rw [if_neg (show ¬ (2 : Int) = 1 by omega), if_pos rfl]
  go_enter Try.func23, Try.ntmps23
  go_wp2_with (first | (go_at_call 45; refine (rin_any _ _ _ _).mono ?_; rintro e w' ⟨rfl, rfl⟩) | (go_at_call 44; refine (validCurve_any _ _ _ _ _).mono ?_; rintro e w' ⟨rfl, rfl⟩))
  all_goals
    go_ret
    refine ⟨ret_int ?_, by first | exact below_new _ _ | exact below2 _ _ _⟩
    rw [HE.out]
    simp_all [Anim.headB, Anim.curveB, Anim.springB, valueB, springB]

set_option maxHeartbeats 1000000 in
set_option maxRecDepth 100000 in
theorem rValidate_any (n p k f t s du x1 y1 x2 y2 st da x v nw : Int) (w : World) : Calls Try.prog 23 #[.agg #[.int .i64 n, .int .i64 p, .int .i64 k, .int .i64 f, .int .i64 t, .int .i64 s, .int .i64 du, .int .i64 x1, .int .i64 y1, .int .i64 x2, .int .i64 y2, .int .i64 st, .int .i64 da, .int .i64 x, .int .i64 v, .int .i64 nw]] w (Gives (⟨n, p, k, f, t, s, du, x1, y1, x2, y2, st, da, x, v, nw⟩ : Anim).err w) := by
  by_cases h1 : k = 1
  · subst h1; exact rValidate_curve _ _ _ _ _ _ _ _ _ _ _ _ _ _ _ w
  · by_cases h2 : k = 2
    · subst h2; exact rValidate_spring _ _ _ _ _ _ _ _ _ _ _ _ _ _ _ w
    · have HE : Hid ((⟨n, p, k, f, t, s, du, x1, y1, x2, y2, st, da, x, v, nw⟩ : Anim).err = 9) := by show _ = _; unfold Anim.err; rw [if_neg h1, if_neg h2]
      have e1 : (k == 1) = false := by simpa using h1
      have e2 : (k == 2) = false := by simpa using h2
      have e3 : (k != 1) = true := by simpa using h1
      have e4 : (k != 2) = true := by simpa using h2
      clear h1 h2
      go_enter Try.func23, Try.ntmps23
      go_wp2
      go_ret
      exact ⟨ret_int HE.out.symm, below_new _ _⟩

set_option maxHeartbeats 1000000 in
set_option maxRecDepth 100000 in
theorem rstate_any (n p k f t s du x1 y1 x2 y2 st da x v nw : Int) (now : Int) (w : World) (hs0 : 0 ≤ s) (hs1 : s ≤ 1099511627776) (hn0 : 0 ≤ now) (hn1 : now ≤ 1099511627776) (ht0 : -1048576 ≤ t) (ht1 : t ≤ 1048576) (hw0 : 0 ≤ nw) (hw1 : nw ≤ 1099511627776) :
    Calls Try.prog 56 #[.agg #[.int .i64 n, .int .i64 p, .int .i64 k, .int .i64 f, .int .i64 t, .int .i64 s, .int .i64 du, .int .i64 x1, .int .i64 y1, .int .i64 x2, .int .i64 y2, .int .i64 st, .int .i64 da, .int .i64 x, .int .i64 v, .int .i64 nw], .int .i64 now] w (PairA ((⟨n, p, k, f, t, s, du, x1, y1, x2, y2, st, da, x, v, nw⟩ : Anim).state now) (.cells #[.int .i64 n, .int .i64 p, .int .i64 k, .int .i64 f, .int .i64 t, .int .i64 s, .int .i64 du, .int .i64 x1, .int .i64 y1, .int .i64 x2, .int .i64 y2, .int .i64 st, .int .i64 da, .int .i64 x, .int .i64 v, .int .i64 nw] 38) w) := by
  by_cases h : 10000 ≤ now - s
  · have HE : Hid ((⟨n, p, k, f, t, s, du, x1, y1, x2, y2, st, da, x, v, nw⟩ : Anim).state now = (65536 * t, 0)) := by show _ = _; unfold Anim.state; rw [if_pos h]
    go_enter Try.func56, Try.ntmps56
    go_wp2
    go_ret2
    exact ⟨by rw [HE.out]; rfl, rfl⟩
  · have HE : Hid ((⟨n, p, k, f, t, s, du, x1, y1, x2, y2, st, da, x, v, nw⟩ : Anim).state now = springZ x v t st da (max 0 (now - nw))) := by show _ = _; unfold Anim.state; rw [if_neg h]
    by_cases c : nw < now
    · have HM : Hid (max 0 (now - nw) = now - nw) := by show _ = _; omega
      rw [HM.out] at HE
      go_enter Try.func56, Try.ntmps56
      go_wp2_with (go_at_call 20; refine (rSpring_any _ _ _ _ _ _ _).mono ?_; rintro e w' ⟨rfl, rfl⟩)
      go_ret2
      exact ⟨by rw [HE.out]; rfl, rfl⟩
    · have HM : Hid (max 0 (now - nw) = 0) := by show _ = _; omega
      rw [HM.out] at HE
      by_cases d : now = nw
      · subst d
        rw [Int.sub_self] at HM
        have hz : now - now = 0 := Int.sub_self _
        go_enter Try.func56, Try.ntmps56
        go_wp2_with (go_at_call 20; refine (rSpring_any _ _ _ _ _ _ _).mono ?_; rintro e w' ⟨rfl, rfl⟩)
        go_ret2
        exact ⟨by rw [HE.out]; rfl, rfl⟩
      · have d' : now < nw := by omega
        go_enter Try.func56, Try.ntmps56
        go_wp2_with (go_at_call 20; refine (rSpring_any _ _ _ _ _ _ _).mono ?_; rintro e w' ⟨rfl, rfl⟩)
        go_ret2
        exact ⟨by rw [HE.out]; rfl, rfl⟩
end Go.Proofs.Ytfcffmjmohkpoaa
