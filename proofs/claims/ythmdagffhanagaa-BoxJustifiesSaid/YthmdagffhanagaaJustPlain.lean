/- Plain law of elements that are justified between the ends. -/
import Derived.Test.YthmdagffhanagaaOffFacts
namespace Go.Proofs.Ythmdagffhanagaa
set_option linter.unusedVariables false
theorem posTo_sum {gp : Int} {s M : List Int} {a : Int} : ∀ k, posTo gp s M a k = a + sumTo s k + gp * (k : Int) + sumTo M k
  | 0 => by simp [posTo, sumTo]
  | k + 1 => by
    have := posTo_sum (gp := gp) (s := s) (M := M) (a := a) k
    have e : gp * ((k + 1 : Nat) : Int) = gp * (k : Int) + gp := by rw [Int.natCast_add, Int.mul_add]; simp
    simp only [posTo, sumTo]
    rw [this, e]; omega
def lstTo (P : List Int) : Nat → Int
  | 0 => 1073741824
  | k + 1 => min (lstTo P k) (gz P k)
def mstTo (P : List Int) : Nat → Int
  | 0 => 0
  | k + 1 => max (mstTo P k) (gz P k)
theorem lst_bd {P : List Int} : ∀ k, (∀ i, i < k → 0 ≤ gz P i ∧ gz P i ≤ 1048576) → (0 ≤ lstTo P k ∧ lstTo P k ≤ 1073741824) ∧ (0 < k → ∃ i, i < k ∧ lstTo P k = gz P i)
  | 0, _ => ⟨by simp [lstTo], fun h => absurd h (by omega)⟩
  | k + 1, h => by
    have h1 := lst_bd k (fun i hi => h i (by omega))
    have h2 := h k (by omega)
    simp only [lstTo]
    refine ⟨by omega, fun _ => ?_⟩
    by_cases c : gz P k ≤ lstTo P k
    · exact ⟨k, by omega, by omega⟩
    · by_cases hk : 0 < k
      · obtain ⟨i, hi, e⟩ := h1.2 hk
        exact ⟨i, by omega, by omega⟩
      · obtain rfl : k = 0 := by omega
        simp only [lstTo] at c
        omega
theorem mst_bd {P : List Int} : ∀ k, (∀ i, i < k → 0 ≤ gz P i ∧ gz P i ≤ 1048576) → (0 ≤ mstTo P k ∧ mstTo P k ≤ 1048576) ∧ (0 < k → ∃ i, i < k ∧ mstTo P k = gz P i)
  | 0, _ => ⟨by simp [mstTo], fun h => absurd h (by omega)⟩
  | k + 1, h => by
    have h1 := mst_bd k (fun i hi => h i (by omega))
    have h2 := h k (by omega)
    simp only [mstTo]
    refine ⟨by omega, fun _ => ?_⟩
    by_cases c : mstTo P k ≤ gz P k
    · exact ⟨k, by omega, by omega⟩
    · by_cases hk : 0 < k
      · obtain ⟨i, hi, e⟩ := h1.2 hk
        exact ⟨i, by omega, by omega⟩
      · obtain rfl : k = 0 := by omega
        simp only [mstTo] at c
        omega
theorem ones_near {fr : Int} {m : Nat} (h0 : 0 < fr) (h1 : fr ≤ 1048576) (hm : m ≤ 100) (hm0 : 0 < m) :
    (∀ i j, i < m → j < m → gz (shareParts fr (List.replicate m 1)) i - gz (shareParts fr (List.replicate m 1)) j ≤ 1) ∧ sumTo (shareParts fr (List.replicate m 1)) m = fr := by
  obtain ⟨he, h2, h3, h4⟩ := sums_facts (T := fr) (ws := List.replicate m 1) (by omega) (by omega) (by simp; omega) (ones_good m)
  simp only [List.length_replicate] at h2 h3 h4
  rw [ones_sum m m (Nat.le_refl _)] at h3 h4
  rw [if_neg (by omega)] at h4
  refine ⟨fun i j hi hj => ?_, h4⟩
  have a := (h3 i hi).near (by omega)
  have b := (h3 j hj).near (by omega)
  have e1 : gz (List.replicate m (1 : Int)) i = 1 := by simp [gz, hi]
  have e2 : gz (List.replicate m (1 : Int)) j = 1 := by simp [gz, hj]
  rw [e1] at a
  rw [e2] at b
  obtain ⟨p, hp⟩ : ∃ p, gz (shareParts fr (List.replicate m 1)) i = p := ⟨_, rfl⟩
  obtain ⟨q, hq⟩ : ∃ q, gz (shareParts fr (List.replicate m 1)) j = q := ⟨_, rfl⟩
  rw [hp] at a ⊢
  rw [hq] at b ⊢
  have h5 : (p - q) * (m : Int) < 2 * (m : Int) := by rw [Int.sub_mul]; omega
  have := Int.lt_of_mul_lt_mul_right h5 (by omega)
  omega
theorem near_end {P : List Int} {m : Nat} (hm : 0 < m) (hb : ∀ i, i < m → 0 ≤ gz P i ∧ gz P i ≤ 1048576) (hn : ∀ i j, i < m → j < m → gz P i - gz P j ≤ 1) : mstTo P m - lstTo P m ≤ 1 := by
  obtain ⟨i, hi, e⟩ := (lst_bd m hb).2 hm
  obtain ⟨j, hj, f⟩ := (mst_bd m hb).2 hm
  have := hn j i hj hi
  omega
theorem sumTo_snoc {P : List Int} {x : Int} : ∀ k, k ≤ P.length → sumTo (P ++ [x]) k = sumTo P k
  | 0, _ => rfl
  | k + 1, h => by
    simp only [sumTo]
    rw [sumTo_snoc k (by omega), gz_snoc, if_pos (by omega)]
/-- The parts between. -/
def jP (E : Int) (n : Nat) : List Int := shareParts (1 + E) (List.replicate (n - 1) 1)
theorem just_facts {xs : List Int} {E A : Int} {n : Nat} (hn : xs.length = n) (h2 : 2 ≤ n) (h50 : n ≤ 50) (hE : 0 ≤ E ∧ E ≤ 1023) (hA : A = sumTo (sm xs) n + 1 + E) :
    offOk A 0 3 (sm xs) = true ∧ (∀ i, i < n → 0 ≤ gz (offL A 0 3 (sm xs) false) i ∧ gz (offL A 0 3 (sm xs) false) i ≤ 1000000000) ∧ gz (offL A 0 3 (sm xs) false) 0 = 0 ∧
      (∀ p, p + 1 = n → gz (offL A 0 3 (sm xs) false) p + gz (sm xs) p = A) ∧ (∀ p, p + 1 < n → gz (offL A 0 3 (sm xs) false) (p + 1) - gz (offL A 0 3 (sm xs) false) p - gz (sm xs) p = gz (jP E n) p) ∧
      (∀ p, p + 1 < n → 0 ≤ gz (jP E n) p ∧ gz (jP E n) p ≤ 1048576) ∧ mstTo (jP E n) (n - 1) - lstTo (jP E n) (n - 1) ≤ 1 := by
  have hl : (sm xs).length = n := by rw [sm_len, hn]
  have hsb : ∀ k, k ≤ n → 0 ≤ sumTo (sm xs) k ∧ sumTo (sm xs) k ≤ 127 * (k : Int) := by
    intro k
    induction k with
    | zero => intro _; simp [sumTo]
    | succ k ih =>
      intro hk
      have h1 := ih (by omega)
      have h2 := sm_at (xs := xs) (i := k) (by omega)
      simp only [sumTo]
      omega
  have hS := hsb n (Nat.le_refl _)
  have hok : offOk A 0 3 (sm xs) = true := offOk_iff.2 ⟨by omega, by omega, by omega, sm_lens xs, by omega, by omega⟩
  have hfr : offFree A 0 (sm xs) = 1 + E := by unfold offFree spTo; rw [hl, Int.zero_mul]; omega
  have hbt : betw 3 (1 + E) n = true := betw_iff.2 ⟨rfl, by omega, by omega⟩
  have hM : moreL 3 (1 + E) n = jP E n ++ [0] := by unfold moreL jP; rw [if_pos hbt]
  have ha0 : at0 3 (1 + E) = 0 := by simp [at0]
  obtain ⟨p1, p2, -⟩ := ones_parts (fr := 1 + E) (m := n - 1) (by omega) (by omega) (by omega)
  obtain ⟨q1, q2⟩ := ones_near (fr := 1 + E) (m := n - 1) (by omega) (by omega) (by omega) (by omega)
  have hL : (jP E n).length = n - 1 := p1
  have hat : ∀ i, i < n → gz (offL A 0 3 (sm xs) false) i = sumTo (sm xs) i + sumTo (jP E n) i := by
    intro i hi
    rw [offL_at hok (by omega), hfr, hl, hM, ha0]
    simp only [offAt]
    rw [posTo_sum, sumTo_snoc i (by rw [hL]; omega), Int.zero_mul]
    simp
  have hPs : ∀ k, k ≤ n - 1 → 0 ≤ sumTo (jP E n) k ∧ sumTo (jP E n) k ≤ 1048576 * (k : Int) := by
    intro k
    induction k with
    | zero => intro _; simp [sumTo]
    | succ k ih =>
      intro hk
      have h1 := ih (by omega)
      have h2 := p2 k (by omega)
      simp only [sumTo]
      unfold jP at h1 ⊢
      omega
  refine ⟨hok, fun i hi => ?_, ?_, fun p hp => ?_, fun p hp => ?_, fun p hp => p2 p (by omega), near_end (by omega) (fun i hi => p2 i hi) q1⟩
  · rw [hat i hi]
    have := hsb i (by omega)
    have := hPs i (by omega)
    omega
  · rw [hat 0 (by omega)]; rfl
  · rw [hat p (by omega)]
    have e : sumTo (sm xs) n = sumTo (sm xs) p + gz (sm xs) p := by subst hp; rfl
    have e2 : sumTo (jP E n) p = 1 + E := by
      have : p = n - 1 := by omega
      rw [this]; exact q2
    rw [e2]; omega
  · rw [hat (p + 1) hp, hat p (by omega)]
    simp only [sumTo]
    omega
end Go.Proofs.Ythmdagffhanagaa
