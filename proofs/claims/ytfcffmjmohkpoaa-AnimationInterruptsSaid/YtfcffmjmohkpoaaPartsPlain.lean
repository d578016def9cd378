/- Plain mathematics of the law AnimationParts: a spring that is advanced in two parts. -/
import Derived.Test.YtfcffmjmohkpoaaAnims
namespace Go.Proofs.Ytfcffmjmohkpoaa
set_option linter.unusedVariables false
set_option linter.unusedSimpArgs false

/-- The law's spring. -/
def lawA (f t k d v : Int) : Anim := ⟨1, 0, 2, f, t, 0, 0, 0, 0, 0, 0, k, d, 65536 * f, v, 0⟩
/-- .. at a later time. -/
def lawB (f t k d : Int) (S : Int × Int) (now : Int) : Anim := ⟨1, 0, 2, f, t, 0, 0, 0, 0, 0, 0, k, d, S.1, S.2, now⟩
theorem lawB_ok {f t k d now : Int} {S : Int × Int} (hf : -1000 ≤ f ∧ f ≤ 1000) (ht : -1000 ≤ t ∧ t ≤ 1000) (hk : 50 ≤ k ∧ k ≤ 1000) (hd : 64 ≤ d ∧ d ≤ 1000) (hS : inS S) (hn : 0 ≤ now ∧ now ≤ 10000) : (lawB f t k d S now).err = 0 := by
  obtain ⟨a0, a1, b0, b1⟩ := hS
  unfold Anim.err lawB
  simp only
  rw [if_neg (show ¬ (2 : Int) = 1 by omega), if_pos trivial, if_pos]
  simp only [Anim.headB, Anim.springB, springB, valueB, Bool.and_eq_true, btw_iff]
  omega
theorem lawA_eq (f t k d v : Int) : lawA f t k d v = lawB f t k d (65536 * f, v) 0 := rfl
theorem lawB_state {f t k d now m : Int} {S : Int × Int} (ht : -1000 ≤ t ∧ t ≤ 1000) (hk : 50 ≤ k ∧ k ≤ 1000) (hd : 64 ≤ d ∧ d ≤ 1000) (hS : inS S) (hn : 0 ≤ now) (hm : now ≤ m) (hm2 : m < 10000) :
    (lawB f t k d S now).state m = steps (65536 * t) k d (m - now).toNat S := by
  obtain ⟨a0, a1, b0, b1⟩ := hS
  have hmx : max 0 (m - now) = m - now := by omega
  unfold Anim.state lawB
  simp only
  rw [if_neg (by omega), hmx, springZ, if_pos (springOk_iff.2 (by omega))]
theorem lawB_next {f t k d now m : Int} {S : Int × Int} (ht : -1000 ≤ t ∧ t ≤ 1000) (hk : 50 ≤ k ∧ k ≤ 1000) (hd : 64 ≤ d ∧ d ≤ 1000) (hS : inS S) (hn : 0 ≤ now) (hm : now ≤ m) (hm2 : m < 10000) :
    (lawB f t k d S now).next m = (if (steps (65536 * t) k d (m - now).toNat S) = (65536 * t, 0) then none else some (lawB f t k d (steps (65536 * t) k d (m - now).toNat S) m)) := by
  have hs := lawB_state (f := f) ht hk hd hS hn hm hm2
  unfold Anim.next
  have hkind : (lawB f t k d S now).kind = 2 := rfl
  have hgoal : (lawB f t k d S now).goal = t := rfl
  rw [hkind, hgoal, if_neg (show ¬ (2 : Int) = 1 by omega), hs]
  obtain ⟨X, hX⟩ : ∃ X, steps (65536 * t) k d (m - now).toNat S = X := ⟨_, rfl⟩
  rw [hX]
  obtain ⟨X1, X2⟩ := X
  by_cases c : X1 = 65536 * t ∧ X2 = 0
  · rw [if_pos c, if_pos (by rw [c.1, c.2])]
  · rw [if_neg c, if_neg (fun h => c (by simpa using h))]
    rfl
theorem lawB_value {f t k d now m : Int} {S : Int × Int} (hf : -1000 ≤ f ∧ f ≤ 1000) (ht : -1000 ≤ t ∧ t ≤ 1000) (hk : 50 ≤ k ∧ k ≤ 1000) (hd : 64 ≤ d ∧ d ≤ 1000) (hS : inS S) (hn : 0 ≤ now) (hm : now ≤ m) (hm2 : m < 10000) :
    (lawB f t k d S now).value m = rnd (steps (65536 * t) k d (m - now).toNat S).1 65536 := by
  have he := lawB_ok (now := now) hf ht hk hd hS ⟨hn, by omega⟩
  unfold Anim.value
  have hkind : (lawB f t k d S now).kind = 2 := rfl
  rw [if_pos ⟨he, btw_iff.2 (by omega)⟩, hkind, if_neg (show ¬ (2 : Int) = 1 by omega), lawB_state ht hk hd hS hn hm hm2]
theorem rnd_one (t : Int) : rnd (65536 * t) 65536 = t := by unfold rnd; omega

/-- What the law asks. -/
theorem parts_facts {f t k d v t1 t2 : Int} (hf : -1000 ≤ f ∧ f ≤ 1000) (ht : -1000 ≤ t ∧ t ≤ 1000) (hk : 50 ≤ k ∧ k ≤ 1000) (hd : 64 ≤ d ∧ d ≤ 1000) (hv : -200000 ≤ v ∧ v ≤ 200000) (h1 : 0 ≤ t1) (h12 : t1 ≤ t2) (h2 : t2 < 2000) :
    let a := lawA f t k d v
    advErr [a] t1 = 0 ∧ advErr [a] t2 = 0 ∧ advErr (advOn [a] t1) t2 = 0 ∧ advOn (advOn [a] t1) t2 = advOn [a] t2 ∧
    ((advOn [a] t1 = [] ∧ a.value t1 = t ∧ a.value t2 = t ∧ advOn [a] t2 = []) ∨ (∃ b, advOn [a] t1 = [b] ∧ motionR t2 b = motionR t2 a)) := by
  intro a
  have hS0 : inS (65536 * f, v) := by unfold inS; simp only; omega
  have haB : a = lawB f t k d (65536 * f, v) 0 := rfl
  have he : a.err = 0 := by rw [haB]; exact lawB_ok hf ht hk hd hS0 ⟨by omega, by omega⟩
  have hlate : ∀ m : Int, 0 ≤ m → a.late m = false := fun m hm => by
    have e : a.now = 0 := rfl
    simp [Anim.late, e]; intro _; omega
  have herr : ∀ m : Int, 0 ≤ m → m < 2000 → advErr [a] m = 0 := fun m hm hm2 => by
    have hbt : btw m 0 1099511627776 = true := btw_iff.2 (by omega)
    simp [advErr, firstErr, he, lateL, hlate m hm, hbt]
  have e1 := herr t1 h1 (by omega)
  have e2 := herr t2 (by omega) h2
  have hS1 := steps_in (65536 * t) k d hS0 t1.toNat
  have hn1 : a.next t1 = (if steps (65536 * t) k d t1.toNat (65536 * f, v) = (65536 * t, 0) then none else some (lawB f t k d (steps (65536 * t) k d t1.toNat (65536 * f, v)) t1)) := by
    rw [haB, lawB_next ht hk hd hS0 (by omega) h1 (by omega), Int.sub_zero]
  have hn2 : a.next t2 = (if steps (65536 * t) k d t2.toNat (65536 * f, v) = (65536 * t, 0) then none else some (lawB f t k d (steps (65536 * t) k d t2.toNat (65536 * f, v)) t2)) := by
    rw [haB, lawB_next ht hk hd hS0 (by omega) (by omega) (by omega), Int.sub_zero]
  have hsum : steps (65536 * t) k d t2.toNat (65536 * f, v) = steps (65536 * t) k d (t2 - t1).toNat (steps (65536 * t) k d t1.toNat (65536 * f, v)) := by
    rw [← steps_add]; congr 1; omega
  have o1 : advOn [a] t1 = (a.next t1).toList := by
    rw [advOn, if_pos e1]
    cases hx : a.next t1 <;> simp [hx]
  have o2 : advOn [a] t2 = (a.next t2).toList := by
    rw [advOn, if_pos e2]
    cases hx : a.next t2 <;> simp [hx]
  have v1 : a.value t1 = rnd (steps (65536 * t) k d t1.toNat (65536 * f, v)).1 65536 := by
    rw [haB, lawB_value hf ht hk hd hS0 (by omega) h1 (by omega), Int.sub_zero]
  have v2 : a.value t2 = rnd (steps (65536 * t) k d t2.toNat (65536 * f, v)).1 65536 := by
    rw [haB, lawB_value hf ht hk hd hS0 (by omega) (by omega) (by omega), Int.sub_zero]
  by_cases c : steps (65536 * t) k d t1.toNat (65536 * f, v) = (65536 * t, 0)
  · rw [if_pos c] at hn1
    have c2 : steps (65536 * t) k d t2.toNat (65536 * f, v) = (65536 * t, 0) := by rw [hsum, c]; exact steps_rest (by omega) (by omega) _
    rw [if_pos c2] at hn2
    have z1 : advOn [a] t1 = [] := by rw [o1, hn1]; rfl
    have z2 : advOn [a] t2 = [] := by rw [o2, hn2]; rfl
    have hbt : btw t2 0 1099511627776 = true := btw_iff.2 (by omega)
    have z3 : advErr (advOn [a] t1) t2 = 0 := by rw [z1]; simp [advErr, firstErr, lateL, hbt]
    refine ⟨e1, e2, z3, ?_, .inl ⟨z1, ?_, ?_, z2⟩⟩
    · rw [z2, advOn, if_pos z3, z1]; rfl
    · rw [v1, c]; exact rnd_one t
    · rw [v2, c2]; exact rnd_one t
  · rw [if_neg c] at hn1
    obtain ⟨b, hb⟩ : ∃ b, lawB f t k d (steps (65536 * t) k d t1.toNat (65536 * f, v)) t1 = b := ⟨_, rfl⟩
    rw [hb] at hn1
    have z1 : advOn [a] t1 = [b] := by rw [o1, hn1]; rfl
    have hbe : b.err = 0 := by rw [← hb]; exact lawB_ok hf ht hk hd hS1 ⟨h1, by omega⟩
    have hbt : btw t2 0 1099511627776 = true := btw_iff.2 (by omega)
    have hbl : b.late t2 = false := by
      have e : b.now = t1 := by rw [← hb]; rfl
      simp [Anim.late, e]; intro _; omega
    have z3 : advErr (advOn [a] t1) t2 = 0 := by rw [z1]; simp [advErr, firstErr, hbe, lateL, hbl, hbt]
    have hbn : b.next t2 = a.next t2 := by
      rw [hn2, hsum, ← hb, lawB_next ht hk hd hS1 h1 h12 (by omega)]
    have hbv : b.value t2 = a.value t2 := by
      rw [v2, hsum, ← hb, lawB_value hf ht hk hd hS1 h1 h12 (by omega)]
    refine ⟨e1, e2, z3, ?_, .inr ⟨b, z1, ?_⟩⟩
    · rw [advOn, if_pos z3, o2, z1, ← hbn]
      cases hx : b.next t2 <;> simp [hx]
    · have n1 : b.node = a.node := by rw [← hb]; rfl
      have n2 : b.prop = a.prop := by rw [← hb]; rfl
      unfold motionR
      rw [n1, n2, hbv]
end Go.Proofs.Ytfcffmjmohkpoaa
