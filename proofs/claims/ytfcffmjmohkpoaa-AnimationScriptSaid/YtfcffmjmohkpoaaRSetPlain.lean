/- Plain mathematics of the reference's Set: what it puts into the list is what the program puts there, where it is valid. -/
import Derived.Test.YtfcffmjmohkpoaaSetPlain
namespace Go.Proofs.Ytfcffmjmohkpoaa
open Go.RowKit
set_option linter.unusedVariables false
set_option linter.unusedSimpArgs false

/-- The reference's place: 0 where the first value is out of range. -/
def safeX (s : Int) : Int := if valueB s then 65536 * s else 0
theorem safeX_w {s : Int} (h : valueB s = true) : w64 (65536 * s) = safeX s := by
  unfold safeX w64
  rw [if_pos h]
  unfold valueB at h
  have := btw_iff.1 h
  exact IntWalk.i64_in _ (by omega)
theorem bad_from {a b : Anim} (hk : a.kind = b.kind) (ha : valueB a.start0 = false) (hb : valueB b.start0 = false) : a.err = b.err ∧ a.err ≠ 0 := by
  have h1 : a.headB = false := by unfold Anim.headB; rw [ha]; simp
  have h2 : b.headB = false := by unfold Anim.headB; rw [hb]; simp
  unfold Anim.err
  rw [hk, h1, h2]
  by_cases c1 : b.kind = 1
  · simp [c1]
  · by_cases c2 : b.kind = 2
    · simp [c2]
    · simp [c1, c2]
/-- Agreed: the same error, and the same animation where there is none. -/
def Agreed (r s : Anim) : Prop := r.err = s.err ∧ (s.err = 0 → r = s)
theorem Agreed.refl (a : Anim) : Agreed a a := ⟨rfl, fun _ => rfl⟩
theorem agreed_still {r s : Anim} (hk : r.kind = s.kind) (hf : r.start0 = s.start0) (h : valueB s.start0 = true → r = s) : Agreed r.still s.still := by
  by_cases hv : valueB s.start0 = true
  · rw [h hv]; exact Agreed.refl _
  · have hv2 : valueB s.start0 = false := by simpa using hv
    have e1 : (Anim.still r).kind = (Anim.still s).kind := by unfold Anim.still; rw [hk]; split <;> simp [hk]
    have e2 : valueB (Anim.still r).start0 = false := by unfold Anim.still; split <;> simp [hf, hv2]
    have e3 : valueB (Anim.still s).start0 = false := by unfold Anim.still; split <;> simp [hv2]
    have k := bad_from e1 e2 e3
    exact ⟨k.1, fun h0 => absurd (k.1.trans h0) k.2⟩
end Go.Proofs.Ytfcffmjmohkpoaa
