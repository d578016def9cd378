/- Plain: elements whose upper limits are lifted one by one (BoxFills). -/
import Derived.Test.YthmdagffhanagaaBoxBnd
namespace Go.Proofs.Ythmdagffhanagaa
set_option linter.unusedVariables false
set_option linter.unusedSimpArgs false

/-- The first k elements without an upper limit. -/
def capTo : List Rec → Nat → List Rec
  | [], _ => []
  | r :: l, 0 => r :: l
  | r :: l, k + 1 => r.set 2 1048576 :: capTo l k
theorem capTo_zero (l : List Rec) : capTo l 0 = l := by cases l <;> rfl
theorem capTo_len : ∀ (l : List Rec) (k : Nat), (capTo l k).length = l.length
  | [], _ => rfl
  | r :: l, 0 => rfl
  | r :: l, k + 1 => by simp [capTo, capTo_len l k]
theorem capTo_wide {c : Nat} : ∀ {l : List Rec} (k : Nat), wide c l → wide c (capTo l k)
  | [], _, h => h
  | r :: l, 0, h => h
  | r :: l, k + 1, h => by
    intro q hq
    simp only [capTo, List.mem_cons] at hq
    rcases hq with rfl | hq
    · rw [List.length_set]; exact h r (by simp)
    · exact capTo_wide k (fun x hx => h x (by simp [hx])) q hq
theorem capTo_gf {c : Nat} (hc : 2 < c) : ∀ {l : List Rec} (k : Nat), wide c l → ∀ i, i < l.length → ∀ j, gf (capTo l k) i j = if i < k ∧ j = 2 then 1048576 else gf l i j
  | [], _, _, i, hi, _ => absurd hi (Nat.not_lt_zero _)
  | r :: l, 0, _, i, hi, j => by simp [capTo]
  | r :: l, k + 1, h, 0, hi, j => by
    have hr := h r (by simp)
    simp only [capTo, gf, List.getD_cons_zero, Nat.zero_lt_succ, true_and]
    by_cases e : j = 2
    · subst e
      rw [if_pos rfl]
      simp [List.getD, List.getElem?_set, hr, hc]
    · rw [if_neg e]
      have : ¬ 2 = j := fun x => e x.symm
      simp [List.getD, List.getElem?_set, this]
  | r :: l, k + 1, h, i + 1, hi, j => by
    have ih := capTo_gf hc (l := l) k (fun x hx => h x (by simp [hx])) i (by simpa using hi) j
    simp only [capTo, gf, List.getD_cons_succ] at ih ⊢
    rw [ih]
    simp
/-- All of them. -/
theorem capTo_low {l : List Rec} (h : wide 5 l) : lowOnly (capTo l l.length) := fun i hi => by
  rw [capTo_len] at hi
  rw [capTo_gf (by omega) _ h i hi, if_pos ⟨hi, rfl⟩]
theorem capTo_flex {l : List Rec} (h : wide 5 l) (hf : flexTo l l.length) (k : Nat) : flexTo (capTo l k) (capTo l k).length := fun i hi => by
  rw [capTo_len] at hi
  have := flexB_iff.1 (hf i hi)
  rw [flexB_iff]
  have e : ∀ j, j ≠ 2 → gf (capTo l k) i j = gf l i j := fun j hj => by rw [capTo_gf (by omega) _ h i hi, if_neg (fun x => hj x.2)]
  rw [e 0 (by omega), e 1 (by omega), e 3 (by omega), e 4 (by omega), capTo_gf (by omega) _ h i hi]
  split <;> simp_all
/-- One more limit is lifted in memory. -/
theorem IsRecs.lift {w : World} {b off n cap k : Nat} {l : List Rec} (hl : wide 5 l) (h : IsRecs 5 w (.slice (some ⟨b, off, none⟩) n cap) (capTo l k)) (hn : l.length = n) (hk : k < n) :
    IsRecs 5 (w.setCell ⟨b, off + k * 5 + 2, none⟩ (.int .i64 1048576)) (.slice (some ⟨b, off, none⟩) n cap) (capTo l (k + 1)) := by
  obtain ⟨a', cap', hv, k1, k2, k3⟩ := h
  rw [capTo_len] at k1 k3 hv
  have hcap : cap' = cap := by simp at hv; exact hv.2.2.symm
  subst hcap
  refine ⟨some ⟨b, off, none⟩, cap', by rw [capTo_len, hn], by rw [capTo_len]; exact k1, k2, fun _ => ?_⟩
  obtain ⟨b', off', e, hlt, hc⟩ := k3 (by omega)
  have ea : a' = some ⟨b, off, none⟩ := by simp at hv; exact hv.1.symm
  rw [ea] at e
  simp at e
  obtain ⟨rfl, rfl⟩ := e
  refine ⟨b, off, rfl, by simpa [World.setCell] using hlt, fun i hi j hj => ?_⟩
  rw [capTo_len] at hi
  have h0 := hc i hi j hj
  rw [capTo_gf (by omega) _ hl i hi] at h0 ⊢
  by_cases e : i = k ∧ j = 2
  · obtain ⟨rfl, rfl⟩ := e
    rw [if_pos ⟨by omega, rfl⟩]
    exact World.cell?_setCell_same _ _ _ h0
  · rw [World.cell?_setCell_other _ _ _ _ (fun x => by (simp at x) <;> omega), h0]
    by_cases e2 : j = 2
    · subst e2
      have : i < k ↔ i < k + 1 := by omega
      simp [this]
    · simp [e2]
end Go.Proofs.Ythmdagffhanagaa
