/- interrupt at any two animations (printed by wip/gen_set.py). -/
import Derived.Test.YtfcffmjmohkpoaaInter
namespace Go.Proofs.Ytfcffmjmohkpoaa
open Go.RowKit
set_option linter.unusedVariables false
set_option linter.unusedSimpArgs false

/-- What a call of interrupt leaves. -/
def Intered (o a : Anim) (now : Int) (w : World) (e : Ending) (w' : World) : Prop :=
  ∃ e0 e1 e2 e3 e4 e5 e6 e7 e8 e9 e10 e11 e12 e13 e14 e15 : Int, e = .returned (.agg #[.int .i64 e0, .int .i64 e1, .int .i64 e2, .int .i64 e3, .int .i64 e4, .int .i64 e5, .int .i64 e6, .int .i64 e7, .int .i64 e8, .int .i64 e9, .int .i64 e10, .int .i64 e11, .int .i64 e12, .int .i64 e13, .int .i64 e14, .int .i64 e15]) ∧ o.after a now = ⟨e0, e1, e2, e3, e4, e5, e6, e7, e8, e9, e10, e11, e12, e13, e14, e15⟩ ∧ Below w.heap.size w w'
theorem inter_any (p0 p1 p2 p3 p4 p5 p6 p7 p8 p9 p10 p11 p12 p13 p14 p15 q0 q1 q2 q3 q4 q5 q6 q7 q8 q9 q10 q11 q12 q13 q14 q15 now : Int) (w : World) (he : (⟨p0, p1, p2, p3, p4, p5, p6, p7, p8, p9, p10, p11, p12, p13, p14, p15⟩ : Anim).err = 0) (hn : btw now 0 1099511627776 = true) :
    Calls Try.prog 58 #[.agg #[.int .i64 p0, .int .i64 p1, .int .i64 p2, .int .i64 p3, .int .i64 p4, .int .i64 p5, .int .i64 p6, .int .i64 p7, .int .i64 p8, .int .i64 p9, .int .i64 p10, .int .i64 p11, .int .i64 p12, .int .i64 p13, .int .i64 p14, .int .i64 p15], .agg #[.int .i64 q0, .int .i64 q1, .int .i64 q2, .int .i64 q3, .int .i64 q4, .int .i64 q5, .int .i64 q6, .int .i64 q7, .int .i64 q8, .int .i64 q9, .int .i64 q10, .int .i64 q11, .int .i64 q12, .int .i64 q13, .int .i64 q14, .int .i64 q15], .int .i64 now] w (Intered (⟨p0, p1, p2, p3, p4, p5, p6, p7, p8, p9, p10, p11, p12, p13, p14, p15⟩ : Anim) (⟨q0, q1, q2, q3, q4, q5, q6, q7, q8, q9, q10, q11, q12, q13, q14, q15⟩ : Anim) now w) := by
  obtain ⟨hh, hk⟩ := Anim.ok_cases he
  obtain ⟨b0, b1, b2, b3, b4, b5, b6, b7, b8, b9⟩ := Anim.head_bd hh
  have hnn := btw_iff.1 hn
  have hv := value_bd now he
  obtain ⟨V, hV⟩ : ∃ V, (⟨p0, p1, p2, p3, p4, p5, p6, p7, p8, p9, p10, p11, p12, p13, p14, p15⟩ : Anim).value now = V := ⟨_, rfl⟩
  rw [hV] at hv
  simp only at b0 b1 b2 b3 b4 b5 b6 b7 b8 b9
  rcases hk with ⟨hk, hc⟩ | ⟨hk, hc⟩
  · simp only at hk
    subst hk
    refine (inter_cc _ _ _ _ _ _ _ _ _ _ _ _ _ _ _ _ _ _ _ _ _ _ _ _ _ _ _ _ _ _ _ now V w hV hv.1 hv.2).mono ?_
    rintro e w' ⟨rfl, hb⟩
    refine ⟨_, _, _, _, _, _, _, _, _, _, _, _, _, _, _, _, rfl, ?_, hb⟩
    unfold Anim.after
    rw [if_neg (fun h => absurd h.1 (show ¬ (1 : Int) = 2 by decide)), hV]
  · simp only at hk
    subst hk
    obtain ⟨d0, d1, d2, d3, d4, d5, d6, d7, d8, d9⟩ := Anim.spring_bd hc
    simp only at d0 d1 d2 d3 d4 d5 d6 d7 d8 d9
    by_cases hq : q2 = 2
    · subst hq
      obtain ⟨S, hS⟩ : ∃ S, (⟨p0, p1, 2, p3, p4, p5, p6, p7, p8, p9, p10, p11, p12, p13, p14, p15⟩ : Anim).state now = S := ⟨_, rfl⟩
      obtain ⟨S1, S2⟩ := S
      refine (inter_ss _ _ _ _ _ _ _ _ _ _ _ _ _ _ _ _ _ _ _ _ _ _ _ _ _ _ _ _ _ _ now V w hV hv.1 hv.2 S1 S2 hS b8 b9 hnn.1 hnn.2 b6 b7 (by omega) (by omega)).mono ?_
      rintro e w' ⟨rfl, hb⟩
      refine ⟨_, _, _, _, _, _, _, _, _, _, _, _, _, _, _, _, rfl, ?_, hb⟩
      unfold Anim.after
      rw [if_pos ⟨rfl, rfl⟩, hV, hS]
    · refine (inter_sc _ _ _ _ _ _ _ _ _ _ _ _ _ _ _ _ _ _ _ _ _ _ _ _ _ _ _ _ _ _ _ now V w hV hv.1 hv.2 hq).mono ?_
      rintro e w' ⟨rfl, hb⟩
      refine ⟨_, _, _, _, _, _, _, _, _, _, _, _, _, _, _, _, rfl, ?_, hb⟩
      unfold Anim.after
      rw [if_neg (fun h => hq h.2), hV]
end Go.Proofs.Ytfcffmjmohkpoaa
