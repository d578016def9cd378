/- Plain mathematics of Spring: one step, many steps, rest. -/
import Derived.Test.YtfcffmjmohkpoaaEasePlain
import Derived.Test.YtfcffmjmohkpoaaNumOk
namespace Go.Proofs.Ytfcffmjmohkpoaa
set_option linter.unusedVariables false
set_option linter.unusedSimpArgs false

/-- Round at a positive number without bounds. -/
def rnd (a b : Int) : Int := (2 * a + b) / (2 * b)
theorem rnd_eq {a b : Int} (hb : 0 < b) (hb1 : b ≤ 1152921504606846976) (h0 : -1152921504606846976 ≤ a) (h1 : a ≤ 1152921504606846976) : roundZ a b = rnd a b := by
  unfold roundZ rnd
  rw [if_pos (numOk_iff.2 ⟨by omega, h0, h1, by omega, hb1⟩), if_neg (by omega)]
/-- The velocity behind a step, ahead of the test for rest. -/
def stepV (t k d : Int) (s : Int × Int) : Int := s.2 + (rnd (k * (t - s.1)) 1048576 - rnd (d * s.2) 8192)
def lim (x m : Int) : Int := max (-m) (min x m)
def near (t x v : Int) : Prop := -32768 ≤ t - x ∧ t - x ≤ 32768 ∧ -64 ≤ v ∧ v ≤ 64
instance (t x v : Int) : Decidable (near t x v) := inferInstanceAs (Decidable (_ ∧ _ ∧ _ ∧ _))
/-- One step of a spring. -/
def stepZ (t k d : Int) (s : Int × Int) : Int × Int :=
  if near t (s.1 + stepV t k d s) (stepV t k d s) then (lim t 274877906944, 0) else (lim (s.1 + stepV t k d s) 274877906944, lim (stepV t k d s) 17179869184)
def steps (t k d : Int) : Nat → Int × Int → Int × Int
  | 0, s => s
  | n + 1, s => steps t k d n (stepZ t k d s)
theorem steps_add (t k d : Int) : ∀ (n m : Nat) (s : Int × Int), steps t k d (n + m) s = steps t k d m (steps t k d n s)
  | 0, m, s => by rw [Nat.zero_add]; rfl
  | n + 1, m, s => by
    have e : n + 1 + m = (n + m) + 1 := by omega
    rw [e]
    exact steps_add t k d n m (stepZ t k d s)
theorem steps_succ (t k d : Int) (n : Nat) (s : Int × Int) : steps t k d (n + 1) s = stepZ t k d (steps t k d n s) := steps_add t k d n 1 s

/-- Where a spring may be. -/
def inS (s : Int × Int) : Prop := -274877906944 ≤ s.1 ∧ s.1 ≤ 274877906944 ∧ -17179869184 ≤ s.2 ∧ s.2 ≤ 17179869184
theorem lim_in (x m : Int) (hm : 0 ≤ m) : -m ≤ lim x m ∧ lim x m ≤ m := by unfold lim; omega
theorem lim_id {x m : Int} (h0 : -m ≤ x) (h1 : x ≤ m) : lim x m = x := by unfold lim; omega
theorem step_in (t k d : Int) (s : Int × Int) : inS (stepZ t k d s) := by
  unfold stepZ inS
  split
  · have := lim_in t 274877906944 (by omega)
    simp only
    omega
  · have := lim_in (s.1 + stepV t k d s) 274877906944 (by omega)
    have := lim_in (stepV t k d s) 17179869184 (by omega)
    simp only
    omega
theorem steps_in (t k d : Int) {s : Int × Int} (h : inS s) : ∀ n, inS (steps t k d n s)
  | 0 => h
  | n + 1 => by rw [steps_succ]; exact step_in t k d _

theorem rnd_zero {b : Int} (hb : 0 < b) : rnd 0 b = 0 := by
  unfold rnd
  exact Int.ediv_eq_zero_of_lt (by omega) (by omega)
theorem rnd_bd {a b m : Int} (hb : 1 ≤ b) (h0 : -m ≤ a) (h1 : a ≤ m) : -m - 1 ≤ rnd a b ∧ rnd a b ≤ m + 1 := by
  have h2 : 0 < 2 * b := by omega
  have hm : 0 ≤ m := by omega
  have hp : m ≤ m * b := by
    have := Int.mul_le_mul_of_nonneg_left hb hm
    omega
  unfold rnd
  constructor
  · apply Int.le_ediv_of_mul_le h2
    have e : (-m - 1) * (2 * b) = -(2 * (m * b)) - 2 * b := by
      rw [Int.sub_mul, Int.neg_mul, Int.mul_left_comm m 2 b]; omega
    rw [e]; omega
  · apply Int.ediv_le_of_le_mul h2
    have e : (m + 1) * (2 * b) = 2 * (m * b) + 2 * b := by rw [Int.add_mul, Int.mul_left_comm m 2 b]; omega
    rw [e]; omega
/-- A spring that rests goes on resting. -/
theorem step_rest {t k d : Int} (h0 : -274877906944 ≤ t) (h1 : t ≤ 274877906944) : stepZ t k d (t, 0) = (t, 0) := by
  have hv : stepV t k d (t, 0) = 0 := by
    unfold stepV
    simp only [Int.sub_self, Int.mul_zero]
    rw [rnd_zero (by omega), rnd_zero (by omega)]
    omega
  unfold stepZ
  rw [hv]
  simp only [Int.add_zero]
  rw [if_pos (by unfold near; omega), lim_id h0 h1]
theorem steps_rest {t k d : Int} (h0 : -274877906944 ≤ t) (h1 : t ≤ 274877906944) : ∀ n, steps t k d n (t, 0) = (t, 0)
  | 0 => rfl
  | n + 1 => by show steps t k d n (stepZ t k d (t, 0)) = _; rw [step_rest h0 h1]; exact steps_rest h0 h1 n

/-- The numbers of a spring that are examined. -/
def springOk (x v target k d n : Int) : Bool := decide (-274877906944 ≤ x ∧ x ≤ 274877906944 ∧ -17179869184 ≤ v ∧ v ≤ 17179869184 ∧ -1048576 ≤ target ∧ target ≤ 1048576 ∧ 50 ≤ k ∧ k ≤ 1000 ∧ 64 ≤ d ∧ d ≤ 1000 ∧ 0 ≤ n ∧ n ≤ 10000)
def springZ (x v target k d n : Int) : Int × Int := if springOk x v target k d n then steps (65536 * target) k d n.toNat (x, v) else (0, 0)
theorem springOk_iff {x v target k d n : Int} : springOk x v target k d n = true ↔ (-274877906944 ≤ x ∧ x ≤ 274877906944 ∧ -17179869184 ≤ v ∧ v ≤ 17179869184 ∧ -1048576 ≤ target ∧ target ≤ 1048576 ∧ 50 ≤ k ∧ k ≤ 1000 ∧ 64 ≤ d ∧ d ≤ 1000 ∧ 0 ≤ n ∧ n ≤ 10000) := by
  unfold springOk; exact decide_eq_true_iff

/-- The bounds within a step. -/
theorem step_bd {t k d : Int} {s : Int × Int} (ht0 : -68719476736 ≤ t) (ht1 : t ≤ 68719476736) (hk0 : 50 ≤ k) (hk1 : k ≤ 1000) (hd0 : 64 ≤ d) (hd1 : d ≤ 1000) (hs : inS s) :
    (-343597383680000 ≤ k * (t - s.1) ∧ k * (t - s.1) ≤ 343597383680000) ∧ (-17179869184000 ≤ d * s.2 ∧ d * s.2 ≤ 17179869184000) ∧
    roundZ (k * (t - s.1)) 1048576 = rnd (k * (t - s.1)) 1048576 ∧ roundZ (d * s.2) 8192 = rnd (d * s.2) 8192 ∧
    (-343597383680001 ≤ rnd (k * (t - s.1)) 1048576 ∧ rnd (k * (t - s.1)) 1048576 ≤ 343597383680001) ∧ (-17179869184001 ≤ rnd (d * s.2) 8192 ∧ rnd (d * s.2) 8192 ≤ 17179869184001) := by
  obtain ⟨a0, a1, b0, b1⟩ := hs
  have p := mul_rng (a := t - s.1) (b := k) (m := 343597383680) (k := 1000) (by omega) (by omega) (by omega) hk1
  have q := mul_rng (a := s.2) (b := d) (m := 17179869184) (k := 1000) (by omega) (by omega) (by omega) hd1
  rw [Int.mul_comm (t - s.1) k] at p
  rw [Int.mul_comm s.2 d] at q
  have r := rnd_bd (a := k * (t - s.1)) (b := 1048576) (m := 343597383680000) (by omega) (by omega) (by omega)
  have u := rnd_bd (a := d * s.2) (b := 8192) (m := 17179869184000) (by omega) (by omega) (by omega)
  exact ⟨by omega, by omega, rnd_eq (by omega) (by omega) (by omega) (by omega), rnd_eq (by omega) (by omega) (by omega) (by omega), by omega, by omega⟩
theorem step_near {t k d : Int} {s : Int × Int} (h : near t (s.1 + stepV t k d s) (stepV t k d s)) (h0 : -274877906944 ≤ t) (h1 : t ≤ 274877906944) : stepZ t k d s = (t, 0) := by
  unfold stepZ; rw [if_pos h, lim_id h0 h1]
theorem step_far {t k d : Int} {s : Int × Int} (h : ¬ near t (s.1 + stepV t k d s) (stepV t k d s)) : stepZ t k d s = (lim (s.1 + stepV t k d s) 274877906944, lim (stepV t k d s) 17179869184) := by
  unfold stepZ; rw [if_neg h]
theorem lim_clamp (x m : Int) (hm : 0 ≤ m) : clampZ x (-m) m = lim x m := by
  unfold clampZ lim
  by_cases h1 : x < -m
  · rw [if_pos (.inl h1)]; omega
  · rw [if_neg (by omega)]
    by_cases h2 : m < x
    · rw [if_pos h2]; omega
    · rw [if_neg h2]; omega
end Go.Proofs.Ytfcffmjmohkpoaa
