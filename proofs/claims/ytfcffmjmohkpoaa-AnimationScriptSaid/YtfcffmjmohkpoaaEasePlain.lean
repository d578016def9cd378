/- Plain mathematics of Ease: the cubic, the search by halving, and that a rising curve never falls. -/
import Derived.Test.YtfcffmjmohkpoaaPlainB
namespace Go.Proofs.Ytfcffmjmohkpoaa
set_option linter.unusedVariables false
set_option linter.unusedSimpArgs false

theorem mul_rng {a b m k : Int} (ha0 : -m ≤ a) (ha1 : a ≤ m) (hb0 : 0 ≤ b) (hb1 : b ≤ k) : -(m * k) ≤ a * b ∧ a * b ≤ m * k := by
  have hm : 0 ≤ m := by omega
  have h1 : a * b ≤ m * b := Int.mul_le_mul_of_nonneg_right ha1 hb0
  have h2 : m * b ≤ m * k := Int.mul_le_mul_of_nonneg_left hb1 hm
  have h3 : (-m) * b ≤ a * b := Int.mul_le_mul_of_nonneg_right ha0 hb0
  rw [Int.neg_mul] at h3
  omega
theorem mul_nn {a b m k : Int} (ha0 : 0 ≤ a) (ha1 : a ≤ m) (hb0 : 0 ≤ b) (hb1 : b ≤ k) : 0 ≤ a * b ∧ a * b ≤ m * k :=
  ⟨Int.mul_nonneg ha0 hb0, Int.le_trans (Int.mul_le_mul_of_nonneg_right ha1 hb0) (Int.mul_le_mul_of_nonneg_left hb1 (by omega))⟩

/-- 4096^3 times a coordinate at the parameter u. -/
def bezZ (a b u : Int) : Int := 3 * a * u * (4096 - u) * (4096 - u) + 3 * b * u * u * (4096 - u) + 1000 * u * u * u

/-- The bounds of all products of the cubic. -/
theorem bez_parts {a b u : Int} (ha0 : -2000 ≤ a) (ha1 : a ≤ 2000) (hb0 : -2000 ≤ b) (hb1 : b ≤ 2000) (hu0 : 0 ≤ u) (hu1 : u ≤ 4096) :
    (-24576000 ≤ 3 * a * u ∧ 3 * a * u ≤ 24576000) ∧ (-100663296000 ≤ 3 * a * u * (4096 - u) ∧ 3 * a * u * (4096 - u) ≤ 100663296000) ∧ (-412316860416000 ≤ 3 * a * u * (4096 - u) * (4096 - u) ∧ 3 * a * u * (4096 - u) * (4096 - u) ≤ 412316860416000) ∧
    (-24576000 ≤ 3 * b * u ∧ 3 * b * u ≤ 24576000) ∧ (-100663296000 ≤ 3 * b * u * u ∧ 3 * b * u * u ≤ 100663296000) ∧ (-412316860416000 ≤ 3 * b * u * u * (4096 - u) ∧ 3 * b * u * u * (4096 - u) ≤ 412316860416000) ∧
    (0 ≤ 1000 * u * u ∧ 1000 * u * u ≤ 16777216000) ∧ (0 ≤ 1000 * u * u * u ∧ 1000 * u * u * u ≤ 68719476736000) := by
  have p1 := mul_rng (a := 3 * a) (b := u) (m := 6000) (k := 4096) (by omega) (by omega) hu0 hu1
  have p2 := mul_rng (a := 3 * a * u) (b := 4096 - u) (m := 24576000) (k := 4096) (by omega) (by omega) (by omega) (by omega)
  have p3 := mul_rng (a := 3 * a * u * (4096 - u)) (b := 4096 - u) (m := 100663296000) (k := 4096) (by omega) (by omega) (by omega) (by omega)
  have q1 := mul_rng (a := 3 * b) (b := u) (m := 6000) (k := 4096) (by omega) (by omega) hu0 hu1
  have q2 := mul_rng (a := 3 * b * u) (b := u) (m := 24576000) (k := 4096) (by omega) (by omega) (by omega) (by omega)
  have q3 := mul_rng (a := 3 * b * u * u) (b := 4096 - u) (m := 100663296000) (k := 4096) (by omega) (by omega) (by omega) (by omega)
  have r1 := mul_nn (a := 1000 * u) (b := u) (m := 4096000) (k := 4096) (by omega) (by omega) hu0 hu1
  have r2 := mul_nn (a := 1000 * u * u) (b := u) (m := 16777216000) (k := 4096) (by omega) (by omega) hu0 hu1
  omega
theorem bez_bd {a b u : Int} (ha0 : -2000 ≤ a) (ha1 : a ≤ 2000) (hb0 : -2000 ≤ b) (hb1 : b ≤ 2000) (hu0 : 0 ≤ u) (hu1 : u ≤ 4096) : -900000000000000 ≤ bezZ a b u ∧ bezZ a b u ≤ 900000000000000 := by
  have := bez_parts ha0 ha1 hb0 hb1 hu0 hu1
  unfold bezZ
  omega

/-- The search by halving. -/
def bis (p : Nat → Bool) : Nat → Nat → Nat → Nat
  | 0, lo, _ => lo
  | f + 1, lo, hi => if lo < hi then (if p ((lo + hi) / 2) then bis p f lo ((lo + hi) / 2) else bis p f ((lo + hi) / 2 + 1) hi) else lo
theorem bis_fuel (p : Nat → Bool) : ∀ (f g lo hi : Nat), hi - lo ≤ f → hi - lo ≤ g → bis p f lo hi = bis p g lo hi
  | 0, 0, _, _, _, _ => rfl
  | 0, g + 1, lo, hi, h, _ => by simp only [bis]; rw [if_neg (by omega)]
  | f + 1, 0, lo, hi, _, h => by simp only [bis]; rw [if_neg (by omega)]
  | f + 1, g + 1, lo, hi, h1, h2 => by
    simp only [bis]
    by_cases c : lo < hi
    · rw [if_pos c, if_pos c]
      by_cases d : p ((lo + hi) / 2) = true
      · rw [if_pos d, if_pos d]; exact bis_fuel p f g _ _ (by omega) (by omega)
      · rw [if_neg d, if_neg d]; exact bis_fuel p f g _ _ (by omega) (by omega)
    · rw [if_neg c, if_neg c]
def srch (p : Nat → Bool) (lo hi : Nat) : Nat := bis p (hi - lo) lo hi
theorem srch_end {p : Nat → Bool} {lo hi : Nat} (h : hi ≤ lo) : srch p lo hi = lo := by
  have : hi - lo = 0 := by omega
  rw [srch, this]; rfl
theorem srch_lo {p : Nat → Bool} {lo hi : Nat} (h : lo < hi) (hp : p ((lo + hi) / 2) = true) : srch p lo hi = srch p lo ((lo + hi) / 2) := by
  obtain ⟨f, hf⟩ : ∃ f, hi - lo = f + 1 := ⟨hi - lo - 1, by omega⟩
  rw [srch, hf]
  simp only [bis]
  rw [if_pos h, if_pos hp, srch]
  exact bis_fuel p _ _ _ _ (by omega) (by omega)
theorem srch_hi {p : Nat → Bool} {lo hi : Nat} (h : lo < hi) (hp : p ((lo + hi) / 2) = false) : srch p lo hi = srch p ((lo + hi) / 2 + 1) hi := by
  obtain ⟨f, hf⟩ : ∃ f, hi - lo = f + 1 := ⟨hi - lo - 1, by omega⟩
  rw [srch, hf]
  simp only [bis]
  rw [if_pos h, if_neg (by simp [hp]), srch]
  exact bis_fuel p _ _ _ _ (by omega) (by omega)
theorem bis_rng (p : Nat → Bool) : ∀ (f lo hi : Nat), lo ≤ hi → lo ≤ bis p f lo hi ∧ bis p f lo hi ≤ hi
  | 0, lo, hi, h => ⟨Nat.le_refl _, h⟩
  | f + 1, lo, hi, h => by
    simp only [bis]
    by_cases c : lo < hi
    · rw [if_pos c]
      by_cases d : p ((lo + hi) / 2) = true
      · rw [if_pos d]; have := bis_rng p f lo ((lo + hi) / 2) (by omega); omega
      · rw [if_neg d]; have := bis_rng p f ((lo + hi) / 2 + 1) hi (by omega); omega
    · rw [if_neg c]; omega
theorem srch_rng {p : Nat → Bool} {lo hi : Nat} (h : lo ≤ hi) : lo ≤ srch p lo hi ∧ srch p lo hi ≤ hi := bis_rng p _ lo hi h
theorem bis_mono {p q : Nat → Bool} (hpq : ∀ u, q u = true → p u = true) : ∀ (f lo hi : Nat), lo ≤ hi → hi - lo ≤ f → bis p f lo hi ≤ bis q f lo hi
  | 0, lo, hi, _, _ => Nat.le_refl _
  | f + 1, lo, hi, h, hf => by
    simp only [bis]
    by_cases c : lo < hi
    · rw [if_pos c, if_pos c]
      by_cases d : q ((lo + hi) / 2) = true
      · rw [if_pos d, if_pos (hpq _ d)]; exact bis_mono hpq f _ _ (by omega) (by omega)
      · rw [if_neg d]
        have hq := bis_rng q f ((lo + hi) / 2 + 1) hi (by omega)
        by_cases e : p ((lo + hi) / 2) = true
        · rw [if_pos e]
          have := bis_rng p f lo ((lo + hi) / 2) (by omega)
          omega
        · rw [if_neg e]; exact bis_mono hpq f _ _ (by omega) (by omega)
    · rw [if_neg c, if_neg c]; omega
theorem srch_mono {p q : Nat → Bool} (hpq : ∀ u, q u = true → p u = true) {lo hi : Nat} (h : lo ≤ hi) : srch p lo hi ≤ srch q lo hi := bis_mono hpq _ lo hi h (Nat.le_refl _)

/-- A curve: x1, y1, x2, y2. -/
def curveOk (x1 y1 x2 y2 : Int) : Bool := decide (0 ≤ x1 ∧ x1 ≤ 1000 ∧ 0 ≤ x2 ∧ x2 ≤ 1000 ∧ -1000 ≤ y1 ∧ y1 ≤ 2000 ∧ -1000 ≤ y2 ∧ y2 ≤ 2000)
def easeP (x1 x2 part whole : Int) (u : Nat) : Bool := decide (1000 * part * 68719476736 ≤ bezZ x1 x2 u * whole)
def easeU (x1 x2 part whole : Int) : Nat := srch (easeP x1 x2 part whole) 0 4096
def easeZ (x1 y1 x2 y2 part whole : Int) : Int := if curveOk x1 y1 x2 y2 = true ∧ 1 ≤ whole ∧ whole ≤ 10000 ∧ 0 < part then (if whole ≤ part then 1000 else bezZ y1 y2 (easeU x1 x2 part whole) / 68719476736) else 0
theorem easeU_le (x1 x2 part whole : Int) : easeU x1 x2 part whole ≤ 4096 := (srch_rng (Nat.zero_le _)).2
theorem easeU_mono {x1 x2 p q whole : Int} (h : p ≤ q) : easeU x1 x2 p whole ≤ easeU x1 x2 q whole := by
  refine srch_mono (fun u hu => ?_) (Nat.zero_le _)
  have := of_decide_eq_true hu
  exact decide_eq_true (by omega)

/-- The three rising terms of the cubic. -/
def riseA (u : Int) : Int := 68719476736 - (4096 - u) * ((4096 - u) * (4096 - u))
def riseB (u : Int) : Int := u * u * (12288 - 2 * u)
def riseC (u : Int) : Int := u * (u * u)
theorem cube_mono {x y : Int} (hx : 0 ≤ x) (h : x ≤ y) : x * (x * x) ≤ y * (y * y) := by
  have hy : 0 ≤ y := by omega
  have h1 : x * x ≤ y * y := Int.le_trans (Int.mul_le_mul_of_nonneg_right h hx) (Int.mul_le_mul_of_nonneg_left h hy)
  exact Int.le_trans (Int.mul_le_mul_of_nonneg_right h (Int.mul_nonneg hx hx)) (Int.mul_le_mul_of_nonneg_left h1 hy)
theorem riseA_mono {u v : Int} (hv : v ≤ 4096) (h : u ≤ v) : riseA u ≤ riseA v := by
  have := cube_mono (x := 4096 - v) (y := 4096 - u) (by omega) (by omega)
  unfold riseA; omega
theorem riseC_mono {u v : Int} (hu : 0 ≤ u) (h : u ≤ v) : riseC u ≤ riseC v := cube_mono hu h
theorem riseB_step {u : Int} (hu : 0 ≤ u) (h : u ≤ 4095) : riseB u ≤ riseB (u + 1) := by
  have h1 : 0 ≤ u * (4095 - u) := Int.mul_nonneg hu (by omega)
  have e0 : u * (4095 - u) = 4095 * u - u * u := by rw [Int.mul_sub, Int.mul_comm u 4095]
  have e1 : riseB u = 12288 * (u * u) - 2 * (u * u * u) := by
    unfold riseB
    rw [Int.mul_sub, Int.mul_comm (u * u) 12288]
    have : u * u * (2 * u) = 2 * (u * u * u) := by rw [← Int.mul_assoc, Int.mul_comm (u * u) 2, Int.mul_assoc]
    omega
  have e2 : riseB (u + 1) = 12288 * ((u + 1) * (u + 1)) - 2 * ((u + 1) * (u + 1) * (u + 1)) := by
    unfold riseB
    rw [Int.mul_sub, Int.mul_comm ((u + 1) * (u + 1)) 12288]
    have : (u + 1) * (u + 1) * (2 * (u + 1)) = 2 * ((u + 1) * (u + 1) * (u + 1)) := by rw [← Int.mul_assoc, Int.mul_comm ((u + 1) * (u + 1)) 2, Int.mul_assoc]
    omega
  have e3 : (u + 1) * (u + 1) = u * u + 2 * u + 1 := by rw [Int.mul_add, Int.add_mul]; omega
  have e4 : (u + 1) * (u + 1) * (u + 1) = u * u * u + 3 * (u * u) + 3 * u + 1 := by
    rw [e3, Int.mul_add, Int.add_mul, Int.add_mul]
    have : 2 * u * u = 2 * (u * u) := Int.mul_assoc _ _ _
    omega
  rw [e1, e2, e4, e3]
  omega
theorem riseB_mono {u : Nat} : ∀ (v : Nat), u ≤ v → v ≤ 4096 → riseB u ≤ riseB v
  | 0, h, _ => by have : u = 0 := by omega
                  subst this; exact Int.le_refl _
  | v + 1, h, hv => by
    by_cases c : u = v + 1
    · subst c; exact Int.le_refl _
    · have h1 := riseB_mono (u := u) v (by omega) (by omega)
      have h2 := riseB_step (u := (v : Int)) (by omega) (by omega)
      have e : ((v + 1 : Nat) : Int) = (v : Int) + 1 := by omega
      rw [e]
      omega
theorem bez_abel (a b u : Int) : bezZ a b u = a * (riseA u - riseB u) + b * (riseB u - riseC u) + 1000 * riseC u := by
  obtain ⟨w, hw⟩ : ∃ w, 4096 - u = w := ⟨_, rfl⟩
  have hu : u = 4096 - w := by omega
  have eA : riseA u - riseB u = 3 * (u * (w * w)) := by
    unfold riseA riseB
    rw [hw]
    subst hu
    have e1 : (4096 - w) * (4096 - w) = 16777216 - 8192 * w + w * w := by rw [Int.mul_sub, Int.sub_mul, Int.sub_mul]; omega
    have e2 : 12288 - 2 * (4096 - w) = 4096 + 2 * w := by omega
    rw [e1, e2, Int.sub_mul, Int.mul_add, Int.add_mul, Int.sub_mul]
    have e3 : (16777216 - 8192 * w) * (2 * w) = 33554432 * w - 16384 * (w * w) := by rw [Int.sub_mul, Int.mul_assoc, Int.mul_left_comm w 2 w]; omega
    have e4 : w * w * (2 * w) = 2 * (w * (w * w)) := by rw [Int.mul_left_comm (w * w) 2 w, Int.mul_assoc w w w]
    have e5 : (8192 * w) * 4096 = 33554432 * w := by omega
    rw [Int.add_mul, e3, e4]
    omega
  have eB : riseB u - riseC u = 3 * (u * (u * w)) := by
    unfold riseB riseC
    have e2 : 12288 - 2 * u = u + 3 * w := by omega
    rw [e2, Int.mul_add, Int.mul_assoc u u u, Int.mul_left_comm (u * u) 3 w, Int.mul_assoc u u w]
    omega
  rw [eA, eB, bezZ, riseC, hw]
  have f1 : 3 * a * u * w * w = a * (3 * (u * (w * w))) := by rw [Int.mul_assoc (3 * a * u), Int.mul_assoc (3 * a), Int.mul_comm 3 a, Int.mul_assoc a 3]
  have f2 : 3 * b * u * u * w = b * (3 * (u * (u * w))) := by rw [Int.mul_assoc (3 * b * u), Int.mul_assoc (3 * b), Int.mul_comm 3 b, Int.mul_assoc b 3]
  have f3 : 1000 * u * u * u = 1000 * (u * (u * u)) := by rw [Int.mul_assoc (1000 * u), Int.mul_assoc 1000]
  rw [f1, f2, f3]
/-- A curve whose values rise never falls. -/
theorem bez_mono {a b : Int} (ha : 0 ≤ a) (hab : a ≤ b) (hb : b ≤ 1000) {u v : Nat} (h : u ≤ v) (hv : v ≤ 4096) : bezZ a b u ≤ bezZ a b v := by
  rw [bez_abel, bez_abel]
  have h1 := riseA_mono (u := (u : Int)) (v := (v : Int)) (by omega) (by omega)
  have h2 := riseB_mono v h hv
  have h3 := riseC_mono (u := (u : Int)) (v := (v : Int)) (by omega) (by omega)
  have p1 := Int.mul_le_mul_of_nonneg_left h1 ha
  have p2 := Int.mul_le_mul_of_nonneg_left h2 (show 0 ≤ b - a by omega)
  have p3 := Int.mul_le_mul_of_nonneg_left h3 (show 0 ≤ 1000 - b by omega)
  simp only [Int.mul_sub, Int.sub_mul] at p1 p2 p3 ⊢
  omega
theorem bez_end (a b : Int) : bezZ a b 4096 = 68719476736000 := by unfold bezZ; simp
theorem bez_start (a b : Int) : bezZ a b 0 = 0 := by unfold bezZ; simp

theorem easeZ_rises {x1 y1 x2 y2 p q whole : Int} (hc : curveOk x1 y1 x2 y2 = true) (h0 : 0 ≤ y1) (h1 : y1 ≤ y2) (h2 : y2 ≤ 1000) (hw1 : 1 ≤ whole) (hw2 : whole ≤ 10000) (hpq : p ≤ q) :
    easeZ x1 y1 x2 y2 p whole ≤ easeZ x1 y1 x2 y2 q whole ∧ 0 ≤ easeZ x1 y1 x2 y2 p whole ∧ easeZ x1 y1 x2 y2 p whole ≤ 1000 := by
  have rng : ∀ r : Int, 0 ≤ bezZ y1 y2 (easeU x1 x2 r whole) / 68719476736 ∧ bezZ y1 y2 (easeU x1 x2 r whole) / 68719476736 ≤ 1000 := by
    intro r
    have hu := easeU_le x1 x2 r whole
    have a1 := bez_mono h0 h1 h2 (u := 0) (v := easeU x1 x2 r whole) (by omega) hu
    have a2 := bez_mono h0 h1 h2 (u := easeU x1 x2 r whole) (v := 4096) hu (by omega)
    have e0 : bezZ y1 y2 ((0 : Nat) : Int) = 0 := bez_start _ _
    have e1 : bezZ y1 y2 ((4096 : Nat) : Int) = 68719476736000 := bez_end _ _
    rw [e0] at a1
    rw [e1] at a2
    omega
  have hm : bezZ y1 y2 (easeU x1 x2 p whole) ≤ bezZ y1 y2 (easeU x1 x2 q whole) := bez_mono h0 h1 h2 (easeU_mono hpq) (easeU_le _ _ _ _)
  have rp := rng p
  have rq := rng q
  have ep : easeZ x1 y1 x2 y2 p whole = if 0 < p then (if whole ≤ p then 1000 else bezZ y1 y2 (easeU x1 x2 p whole) / 68719476736) else 0 := by
    unfold easeZ; simp [hc, hw1, hw2]
  have eq : easeZ x1 y1 x2 y2 q whole = if 0 < q then (if whole ≤ q then 1000 else bezZ y1 y2 (easeU x1 x2 q whole) / 68719476736) else 0 := by
    unfold easeZ; simp [hc, hw1, hw2]
  rw [ep, eq]
  by_cases c1 : 0 < p
  · have c1' : 0 < q := by omega
    rw [if_pos c1, if_pos c1']
    by_cases c2 : whole ≤ p
    · have c2' : whole ≤ q := by omega
      rw [if_pos c2, if_pos c2']; omega
    · rw [if_neg c2]
      by_cases c3 : whole ≤ q
      · rw [if_pos c3]; omega
      · rw [if_neg c3]
        refine ⟨?_, rp.1, rp.2⟩
        omega
  · rw [if_neg c1]
    by_cases c3 : 0 < q
    · rw [if_pos c3]
      by_cases c4 : whole ≤ q
      · rw [if_pos c4]; omega
      · rw [if_neg c4]; omega
    · rw [if_neg c3]; omega
end Go.Proofs.Ytfcffmjmohkpoaa
