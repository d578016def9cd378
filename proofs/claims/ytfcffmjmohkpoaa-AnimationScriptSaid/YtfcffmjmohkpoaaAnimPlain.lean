/- Plain mathematics of animations: validity, state, value. -/
import Derived.Test.YtfcffmjmohkpoaaSpringPlain
namespace Go.Proofs.Ytfcffmjmohkpoaa
set_option linter.unusedVariables false
set_option linter.unusedSimpArgs false

/-- lo <= x <= hi. -/
def btw (x lo hi : Int) : Bool := decide (lo ≤ x ∧ x ≤ hi)
theorem btw_iff {x lo hi : Int} : btw x lo hi = true ↔ lo ≤ x ∧ x ≤ hi := by simp [btw]
def springB (x v k d : Int) : Bool := btw x (-274877906944) 274877906944 && btw v (-17179869184) 17179869184 && btw k 50 1000 && btw d 64 1000
def valueB (x : Int) : Bool := btw x (-1048576) 1048576

/-- An animation: its numbers in the struct's order. -/
structure Anim where
  node : Int
  prop : Int
  kind : Int
  start0 : Int
  goal : Int
  begin_ : Int
  dur : Int
  x1 : Int
  y1 : Int
  x2 : Int
  y2 : Int
  stiff : Int
  damp : Int
  x : Int
  v : Int
  now : Int
def Anim.headB (a : Anim) : Bool := btw a.node 1 1099511627776 && btw a.prop 0 1000 && valueB a.start0 && valueB a.goal && btw a.begin_ 0 1099511627776
def Anim.curveB (a : Anim) : Bool := btw a.dur 1 10000 && curveOk a.x1 a.y1 a.x2 a.y2
def Anim.springB (a : Anim) : Bool := Go.Proofs.Ytfcffmjmohkpoaa.springB a.x a.v a.stiff a.damp && btw a.now a.begin_ 1099511627776
/-- Validate's number. -/
def Anim.err (a : Anim) : Int := if a.kind = 1 then (if a.headB && a.curveB then 0 else 1) else if a.kind = 2 then (if a.headB && a.springB then 0 else 1) else 9
/-- Position and velocity. -/
def Anim.state (a : Anim) (now : Int) : Int × Int := if 10000 ≤ now - a.begin_ then (65536 * a.goal, 0) else springZ a.x a.v a.goal a.stiff a.damp (max 0 (now - a.now))
def Anim.value (a : Anim) (now : Int) : Int :=
  if a.err = 0 ∧ btw now 0 1099511627776 = true then (if a.kind = 1 then a.start0 + rnd ((a.goal - a.start0) * easeZ a.x1 a.y1 a.x2 a.y2 (now - a.begin_) a.dur) 1000 else rnd (a.state now).1 65536) else 0

theorem Anim.ok_cases {a : Anim} (h : a.err = 0) : a.headB = true ∧ ((a.kind = 1 ∧ a.curveB = true) ∨ (a.kind = 2 ∧ a.springB = true)) := by
  unfold Anim.err at h
  by_cases c1 : a.kind = 1
  · rw [if_pos c1] at h
    by_cases c : (a.headB && a.curveB) = true
    · simp at c; exact ⟨c.1, .inl ⟨c1, c.2⟩⟩
    · rw [if_neg c] at h; omega
  · rw [if_neg c1] at h
    by_cases c2 : a.kind = 2
    · rw [if_pos c2] at h
      by_cases c : (a.headB && a.springB) = true
      · simp at c; exact ⟨c.1, .inr ⟨c2, c.2⟩⟩
      · rw [if_neg c] at h; omega
    · rw [if_neg c2] at h; omega
theorem Anim.head_bd {a : Anim} (h : a.headB = true) : 1 ≤ a.node ∧ a.node ≤ 1099511627776 ∧ 0 ≤ a.prop ∧ a.prop ≤ 1000 ∧ -1048576 ≤ a.start0 ∧ a.start0 ≤ 1048576 ∧ -1048576 ≤ a.goal ∧ a.goal ≤ 1048576 ∧ 0 ≤ a.begin_ ∧ a.begin_ ≤ 1099511627776 := by
  simp only [Anim.headB, valueB, Bool.and_eq_true, btw_iff] at h
  omega
theorem Anim.spring_bd {a : Anim} (h : a.springB = true) : -274877906944 ≤ a.x ∧ a.x ≤ 274877906944 ∧ -17179869184 ≤ a.v ∧ a.v ≤ 17179869184 ∧ 50 ≤ a.stiff ∧ a.stiff ≤ 1000 ∧ 64 ≤ a.damp ∧ a.damp ≤ 1000 ∧ a.begin_ ≤ a.now ∧ a.now ≤ 1099511627776 := by
  simp only [Anim.springB, Go.Proofs.Ytfcffmjmohkpoaa.springB, Bool.and_eq_true, btw_iff] at h
  omega
theorem easeZ_bd (x1 y1 x2 y2 p w : Int) : -14000 ≤ easeZ x1 y1 x2 y2 p w ∧ easeZ x1 y1 x2 y2 p w ≤ 14000 := by
  unfold easeZ
  split
  · rename_i h
    split
    · omega
    · have hc : 0 ≤ x1 ∧ x1 ≤ 1000 ∧ 0 ≤ x2 ∧ x2 ≤ 1000 ∧ -1000 ≤ y1 ∧ y1 ≤ 2000 ∧ -1000 ≤ y2 ∧ y2 ≤ 2000 := by simpa [curveOk] using h.1
      have hb := bez_bd (a := y1) (b := y2) (u := (easeU x1 x2 p w : Int)) (by omega) (by omega) (by omega) (by omega) (by omega) (by have := easeU_le x1 x2 p w; omega)
      omega
  · omega
theorem springZ_in {x v t k d n : Int} : inS (springZ x v t k d n) := by
  unfold springZ
  split
  · rename_i h
    obtain ⟨a0, a1, b0, b1, _⟩ := springOk_iff.1 h
    exact steps_in _ _ _ ⟨a0, a1, b0, b1⟩ _
  · unfold inS; omega
theorem Anim.state_in {a : Anim} (h0 : -1048576 ≤ a.goal) (h1 : a.goal ≤ 1048576) (now : Int) : inS (a.state now) := by
  unfold Anim.state
  split
  · unfold inS; simp only; omega
  · exact springZ_in
theorem rnd_of_round {a b : Int} (hb : 0 < b) (hb1 : b ≤ 1152921504606846976) (h0 : -1152921504606846976 ≤ a) (h1 : a ≤ 1152921504606846976) : roundZ a b = rnd a b := rnd_eq hb hb1 h0 h1
end Go.Proofs.Ytfcffmjmohkpoaa
