/- Plain mathematics of the law AnimationEnds: behind MaxDuration nothing goes on, and the value is the target. -/
import Derived.Test.YtfcffmjmohkpoaaAnims
namespace Go.Proofs.Ytfcffmjmohkpoaa
set_option linter.unusedVariables false
set_option linter.unusedSimpArgs false

theorem rnd_mul {d b : Int} (hb : 0 < b) : rnd (d * b) b = d := by
  unfold rnd
  have e : 2 * (d * b) + b = b + 2 * b * d := by rw [Int.mul_assoc 2 b d, Int.mul_comm b d]; omega
  rw [e, Int.add_mul_ediv_left _ _ (by omega), Int.ediv_eq_zero_of_lt (by omega) (by omega)]; omega
theorem ends_plain {a : Anim} (he : a.err = 0) (hb : a.begin_ ≤ 50) (hn : a.now = a.begin_) :
    advErr [a] (a.begin_ + 10000) = 0 ∧ advOn [a] (a.begin_ + 10000) = [] ∧ a.value (a.begin_ + 10000) = a.goal := by
  obtain ⟨hh, hk⟩ := Anim.ok_cases he
  obtain ⟨b0, b1, b2, b3, b4, b5, b6, b7, b8, b9⟩ := Anim.head_bd hh
  have hE : advErr [a] (a.begin_ + 10000) = 0 := by
    unfold advErr
    have h1 : firstErr [a] = 0 := by simp [firstErr, he]
    have h2 : lateL [a] (a.begin_ + 10000) = false := by
      have h3 : btw (a.begin_ + 10000) 0 1099511627776 = true := btw_iff.2 (by omega)
      simp only [lateL, h3, Anim.late, List.any_cons, List.any_nil, Bool.not_true, Bool.false_or, Bool.or_false]
      rw [Bool.and_eq_false_iff]
      exact .inr (by simp; omega)
    rw [if_neg (by simp), h1, if_neg (by omega), h2]
    rfl
  have hs : a.state (a.begin_ + 10000) = (65536 * a.goal, 0) := by unfold Anim.state; rw [if_pos (by omega)]
  refine ⟨hE, ?_, ?_⟩
  · rw [advOn, if_pos hE]
    have hx : a.next (a.begin_ + 10000) = none := by
      unfold Anim.next
      rcases hk with ⟨k1, hc⟩ | ⟨k1, hc⟩
      · simp only [Anim.curveB, Bool.and_eq_true, btw_iff] at hc
        rw [if_pos k1, if_neg (by omega)]
      · rw [if_neg (by omega), hs, if_pos ⟨rfl, rfl⟩]
    simp [hx]
  · unfold Anim.value
    rw [if_pos ⟨he, btw_iff.2 (by omega)⟩]
    rcases hk with ⟨k1, hc⟩ | ⟨k1, hc⟩
    · simp only [Anim.curveB, Bool.and_eq_true, btw_iff] at hc
      have hz : easeZ a.x1 a.y1 a.x2 a.y2 (a.begin_ + 10000 - a.begin_) a.dur = 1000 := by
        unfold easeZ
        rw [if_pos ⟨hc.2, by omega, by omega, by omega⟩, if_pos (by omega)]
      rw [if_pos k1, hz, rnd_mul (by omega)]
      omega
    · rw [if_neg (by omega), hs]
      show rnd (65536 * a.goal) 65536 = a.goal
      rw [Int.mul_comm, rnd_mul (by omega)]
end Go.Proofs.Ytfcffmjmohkpoaa
