/- Set of package animation at any list and any time. -/
import Derived.Test.YtfcffmjmohkpoaaSetW
namespace Go.Proofs.Ytfcffmjmohkpoaa
open Go.RowKit
set_option linter.unusedVariables false
set_option linter.unusedSimpArgs false

set_option maxHeartbeats 1000000 in
set_option maxRecDepth 100000 in
theorem set_long (a : Option Addr) (n cap : Nat) (l : List Anim) (q0 q1 q2 q3 q4 q5 q6 q7 q8 q9 q10 q11 q12 q13 q14 q15 now : Int) (w : World) (HN : Hid (l.length = n)) (hn : 64 < n) (hm : n ≤ maxLen) :
    Calls Try.prog 33 #[.slice a n cap, .agg #[.int .i64 q0, .int .i64 q1, .int .i64 q2, .int .i64 q3, .int .i64 q4, .int .i64 q5, .int .i64 q6, .int .i64 q7, .int .i64 q8, .int .i64 q9, .int .i64 q10, .int .i64 q11, .int .i64 q12, .int .i64 q13, .int .i64 q14, .int .i64 q15], .int .i64 now] w (Setted l (⟨q0, q1, q2, q3, q4, q5, q6, q7, q8, q9, q10, q11, q12, q13, q14, q15⟩ : Anim) now w) := by
  unfold maxLen at hm
  have hn' : (64 : Int) < (n : Int) := by omega
  have HE : Hid (setErr l (⟨q0, q1, q2, q3, q4, q5, q6, q7, q8, q9, q10, q11, q12, q13, q14, q15⟩ : Anim) now = 2) := by show _ = _; rw [setErr, if_pos (by rw [HN.out]; exact hn)]
  go_enter Try.func33, Try.ntmps33
  go_wp2
  go_ret2
  exact Setted.no HE.out (by omega) (by first | exact Below.refl _ _ | exact (Below.refl _ _).alloc (Nat.le_refl _) _)

set_option maxHeartbeats 1000000 in
set_option maxRecDepth 100000 in
theorem set_late (a : Option Addr) (n cap : Nat) (l : List Anim) (q0 q1 q2 q3 q4 q5 q6 q7 q8 q9 q10 q11 q12 q13 q14 q15 now : Int) (w : World) (HN : Hid (l.length = n)) (hn : n ≤ 64) (hbt : btw now 0 1099511627776 = false) :
    Calls Try.prog 33 #[.slice a n cap, .agg #[.int .i64 q0, .int .i64 q1, .int .i64 q2, .int .i64 q3, .int .i64 q4, .int .i64 q5, .int .i64 q6, .int .i64 q7, .int .i64 q8, .int .i64 q9, .int .i64 q10, .int .i64 q11, .int .i64 q12, .int .i64 q13, .int .i64 q14, .int .i64 q15], .int .i64 now] w (Setted l (⟨q0, q1, q2, q3, q4, q5, q6, q7, q8, q9, q10, q11, q12, q13, q14, q15⟩ : Anim) now w) := by
  have hn' : (n : Int) ≤ 64 := by omega
  have HE : Hid (setErr l (⟨q0, q1, q2, q3, q4, q5, q6, q7, q8, q9, q10, q11, q12, q13, q14, q15⟩ : Anim) now = 1) := by show _ = _; rw [setErr, if_neg (by rw [HN.out]; omega), if_pos hbt]
  go_enter Try.func33, Try.ntmps33
  go_wp2_with (go_at_call 39; refine (between_any _ _ _ _).mono ?_; rintro e w' ⟨rfl, rfl⟩)
  go_ret2
  exact Setted.no HE.out (by omega) (by first | exact Below.refl _ _ | exact (Below.refl _ _).alloc (Nat.le_refl _) _)

theorem set_any (v : Value) (l : List Anim) (q0 q1 q2 q3 q4 q5 q6 q7 q8 q9 q10 q11 q12 q13 q14 q15 now : Int) (w : World) (hv : IsAnims w v l) :
    Calls Try.prog 33 #[v, .agg #[.int .i64 q0, .int .i64 q1, .int .i64 q2, .int .i64 q3, .int .i64 q4, .int .i64 q5, .int .i64 q6, .int .i64 q7, .int .i64 q8, .int .i64 q9, .int .i64 q10, .int .i64 q11, .int .i64 q12, .int .i64 q13, .int .i64 q14, .int .i64 q15], .int .i64 now] w (Setted l (⟨q0, q1, q2, q3, q4, q5, q6, q7, q8, q9, q10, q11, q12, q13, q14, q15⟩ : Anim) now w) := by
  by_cases hl : l.length ≤ 64
  · by_cases hbt : btw now 0 1099511627776 = true
    · exact set_in v l q0 q1 q2 q3 q4 q5 q6 q7 q8 q9 q10 q11 q12 q13 q14 q15 now w hv hl hbt
    · obtain ⟨a, cap, rfl, h1, h2, _⟩ := hv.open_
      exact set_late a _ cap l q0 q1 q2 q3 q4 q5 q6 q7 q8 q9 q10 q11 q12 q13 q14 q15 now w rfl hl (by simpa using hbt)
  · obtain ⟨a, cap, rfl, h1, h2, _⟩ := hv.open_
    exact set_long a _ cap l q0 q1 q2 q3 q4 q5 q6 q7 q8 q9 q10 q11 q12 q13 q14 q15 now w rfl (by omega) (by omega)
end Go.Proofs.Ytfcffmjmohkpoaa
