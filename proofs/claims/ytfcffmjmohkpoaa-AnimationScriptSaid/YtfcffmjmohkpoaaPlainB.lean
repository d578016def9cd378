/- Plain mathematics of the divisions: Floor and Round. No program in sight. -/
import Derived.Test.YtfcffmjmohkpoaaPlain
namespace Go.Proofs.Ytfcffmjmohkpoaa
theorem tdiv_facts {a b : Int} (hb : 0 < b) : b * a.tdiv b + a.tmod b = a ∧ (0 ≤ a → 0 ≤ a.tmod b ∧ a.tmod b < b ∧ 0 ≤ a.tdiv b) ∧ (a < 0 → a.tmod b ≤ 0 ∧ -b < a.tmod b ∧ a.tdiv b ≤ 0) := by
  refine ⟨Int.mul_tdiv_add_tmod a b, fun h => ⟨Int.tmod_nonneg _ h, Int.tmod_lt_of_pos _ hb, Int.tdiv_nonneg h (by omega)⟩, fun h => ?_⟩
  have e1 := Int.neg_tmod (-a) b
  have e2 := Int.neg_tdiv (-a) b
  rw [Int.neg_neg] at e1 e2
  have h1 := Int.tmod_nonneg b (show 0 ≤ -a by omega)
  have h2 := Int.tmod_lt_of_pos (-a) hb
  have h3 := Int.tdiv_nonneg (show 0 ≤ -a by omega) (show 0 ≤ b by omega)
  omega
theorem ediv_of {a b q r : Int} (hb : 0 < b) (h : b * q + r = a) (h0 : 0 ≤ r) (h1 : r < b) : a / b = q := by
  have := (Int.ediv_emod_unique (a := a) (q := q) (r := r) hb).2 ⟨by omega, h0, h1⟩
  exact this.1
theorem floor_pos {a b : Int} (hb : 0 < b) : a / b = if a.tmod b < 0 then a.tdiv b - 1 else a.tdiv b := by
  obtain ⟨h1, h2, h3⟩ := tdiv_facts (a := a) hb
  by_cases c : a.tmod b < 0
  · rw [if_pos c]
    have ha : a < 0 := by
      by_cases hn : 0 ≤ a
      · have := (h2 hn).1; omega
      · omega
    exact ediv_of hb (r := a.tmod b + b) (by rw [Int.mul_sub]; omega) (by have := h3 ha; omega) (by omega)
  · rw [if_neg c]
    have : a.tmod b < b := by
      by_cases hn : 0 ≤ a
      · exact (h2 hn).2.1
      · have := h3 (by omega); omega
    exact ediv_of hb h1 (by omega) this
theorem quo_bd {a b : Int} (hb : 0 < b) : (0 ≤ a → 0 ≤ a / b ∧ a / b ≤ a) ∧ (a < 0 → a ≤ a / b ∧ a / b ≤ -1) := by
  refine ⟨fun h => ⟨Int.ediv_nonneg h (by omega), Int.ediv_le_self _ h⟩, fun h => ?_⟩
  have h3 : a / b < 0 := Int.ediv_neg_of_neg_of_pos h hb
  refine ⟨Int.le_ediv_of_mul_le hb ?_, by omega⟩
  have : a * b ≤ a * 1 := Int.mul_le_mul_of_nonpos_left (by omega) (by omega)
  omega
theorem tdiv_bd {a b : Int} (hb : 0 < b) : (0 ≤ a → 0 ≤ a.tdiv b ∧ a.tdiv b ≤ a) ∧ (a < 0 → a ≤ a.tdiv b ∧ a.tdiv b ≤ 0) := by
  have h := quo_bd (a := a) hb
  have f := floor_pos (a := a) hb
  obtain ⟨h1, h2, h3⟩ := tdiv_facts (a := a) hb
  split at f
  · constructor
    · intro h0; have := h2 h0; omega
    · intro h0; have := h.2 h0; have := h3 h0; omega
  · constructor
    · intro h0; have := h.1 h0; omega
    · intro h0; have := h.2 h0; have := h3 h0; omega
/-- Of a negative divisor. -/
theorem tdiv_neg_neg (a b : Int) : a.tdiv b = (-a).tdiv (-b) := (Int.neg_tdiv_neg a b).symm
theorem tmod_neg_neg (a b : Int) : a.tmod b = -((-a).tmod (-b)) := by rw [Int.tmod_neg, Int.neg_tmod, Int.neg_neg]

def numOk (a b : Int) : Bool := decide (b ≠ 0 ∧ -1152921504606846976 ≤ a ∧ a ≤ 1152921504606846976 ∧ -1152921504606846976 ≤ b ∧ b ≤ 1152921504606846976)
/-- The greatest integer that is not greater than the quotient; 0 out of range. -/
def floorZ (a b : Int) : Int := if numOk a b then (if b < 0 then (-a) / (-b) else a / b) else 0
/-- The integer nearest to the quotient; 0 out of range. -/
def roundZ (a b : Int) : Int := if numOk a b then (if b < 0 then (2 * -a + -b) / (2 * -b) else (2 * a + b) / (2 * b)) else 0
def scaleE (x num den : Int) : Int := if x < -1099511627776 ∨ 1099511627776 < x ∨ num < 0 ∨ 65536 < num ∨ den < 1 ∨ 65536 < den then 1 else 0
def scaleZ (x num den : Int) : Int := if scaleE x num den = 0 then roundZ (x * num) den else 0

/-- The reference's Floor. -/
theorem ref_floor {a b : Int} (hb : b ≠ 0) : (if b < 0 then (-a) / (-b) else a / b) = if a.tmod b ≠ 0 ∧ (decide (a < 0) ≠ decide (b < 0)) then a.tdiv b - 1 else a.tdiv b := by
  by_cases h : b < 0
  · rw [if_pos h, tdiv_neg_neg, tmod_neg_neg, floor_pos (by omega : 0 < -b)]
    obtain ⟨h1, h2, h3⟩ := tdiv_facts (a := -a) (b := -b) (by omega)
    by_cases ha : a < 0
    · have := h2 (by omega)
      rw [if_neg (by omega), if_neg (by simp [h, ha])]
    · by_cases h0 : a = 0
      · subst h0; simp
      · have := h3 (by omega)
        by_cases c : (-a).tmod (-b) = 0
        · rw [if_neg (by omega), if_neg (by simp [c])]
        · rw [if_pos (by omega), if_pos (by refine ⟨by omega, by simp [h, ha]⟩)]
  · rw [if_neg h, floor_pos (by omega : 0 < b)]
    obtain ⟨h1, h2, h3⟩ := tdiv_facts (a := a) (b := b) (by omega)
    by_cases ha : a < 0
    · have := h3 ha
      by_cases c : a.tmod b = 0
      · rw [if_neg (by omega), if_neg (by simp [c])]
      · rw [if_pos (by omega), if_pos (by refine ⟨c, by simp [h, ha]⟩)]
    · have := h2 (by omega)
      rw [if_neg (by omega), if_neg (by simp [h, ha])]
/-- The reference's Round, of a positive divisor. -/
theorem ref_round {a b : Int} (hb : 0 < b) : (2 * a + b) / (2 * b) =
    if a.tmod b < 0 then (if b - (a.tmod b + b) ≤ a.tmod b + b then a.tdiv b - 1 + 1 else a.tdiv b - 1)
    else (if b - a.tmod b ≤ a.tmod b then a.tdiv b + 1 else a.tdiv b) := by
  obtain ⟨h1, h2, h3⟩ := tdiv_facts (a := a) hb
  have hr : -b < a.tmod b ∧ a.tmod b < b := by
    by_cases ha : a < 0
    · have := h3 ha; omega
    · have := h2 (by omega); omega
  have e : ∀ q, 2 * b * q = 2 * (b * q) := fun q => Int.mul_assoc 2 b q
  split
  · split
    · exact ediv_of (by omega) (r := 2 * (a.tmod b + b) - b) (by rw [show a.tdiv b - 1 + 1 = a.tdiv b from by omega, e]; omega) (by omega) (by omega)
    · exact ediv_of (by omega) (r := 2 * (a.tmod b + b) + b) (by rw [e, Int.mul_sub]; omega) (by omega) (by omega)
  · split
    · exact ediv_of (by omega) (r := 2 * a.tmod b - b) (by rw [e, Int.mul_add]; omega) (by omega) (by omega)
    · exact ediv_of (by omega) (r := 2 * a.tmod b + b) (by rw [e]; omega) (by omega) (by omega)
end Go.Proofs.Ytfcffmjmohkpoaa
