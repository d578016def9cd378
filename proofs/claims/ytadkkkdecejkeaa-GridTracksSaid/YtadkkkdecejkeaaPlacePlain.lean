/- Plain mathematics of Place and Starts of package grid. No program in sight. -/
import Derived.Test.YtadkkkdecejkeaaRecs
import Derived.Test.YtadkkkdecejkeaaPlain
namespace Go.Proofs.Ytadkkkdecejkeaa
set_option linter.unusedVariables false
set_option linter.unusedSimpArgs false

theorem clampZ_bd {x c : Int} (h : 1 ≤ c) : 1 ≤ clampZ x 1 c ∧ clampZ x 1 c ≤ c := by
  unfold clampZ
  split
  · omega
  · split <;> omega
/-- Row and column ahead of item k. -/
def pst (c : Int) (xs : List Int) : Nat → Int × Int
  | 0 => (0, 0)
  | k + 1 => if c < (pst c xs k).2 + clampZ (gz xs k) 1 c then ((pst c xs k).1 + 1, clampZ (gz xs k) 1 c) else ((pst c xs k).1, (pst c xs k).2 + clampZ (gz xs k) 1 c)
/-- The area of item k. -/
def parea (c : Int) (xs : List Int) (k : Nat) : Rec :=
  if c < (pst c xs k).2 + clampZ (gz xs k) 1 c then [(pst c xs k).1 + 1, 0, clampZ (gz xs k) 1 c] else [(pst c xs k).1, (pst c xs k).2, clampZ (gz xs k) 1 c]
/-- The areas of the first k items. -/
def plTo (c : Int) (xs : List Int) (k : Nat) : List Rec := (List.range k).map (parea c xs)
theorem plTo_len (c : Int) (xs : List Int) (k : Nat) : (plTo c xs k).length = k := by simp [plTo]
theorem plTo_succ (c : Int) (xs : List Int) (k : Nat) : plTo c xs (k + 1) = plTo c xs k ++ [parea c xs k] := by simp [plTo, List.range_succ]
theorem parea_len (c : Int) (xs : List Int) (k : Nat) : (parea c xs k).length = 3 := by unfold parea; split <;> rfl
theorem plTo_wide (c : Int) (xs : List Int) (k : Nat) : wide 3 (plTo c xs k) := by
  intro r hr
  obtain ⟨j, _, rfl⟩ := List.mem_map.1 hr
  exact parea_len c xs j
theorem pst_bd {c : Int} {xs : List Int} (h : 1 ≤ c) : ∀ k, 0 ≤ (pst c xs k).1 ∧ (pst c xs k).1 ≤ (k : Int) ∧ 0 ≤ (pst c xs k).2 ∧ (pst c xs k).2 ≤ c
  | 0 => by simp [pst]; omega
  | k + 1 => by
    have ih := pst_bd (xs := xs) h k
    have hs := clampZ_bd (x := gz xs k) h
    simp only [pst]
    split
    · refine ⟨?_, ?_, ?_, ?_⟩ <;> simp <;> omega
    · refine ⟨?_, ?_, ?_, ?_⟩ <;> simp <;> omega
/-- Whether Place places. -/
def plOk (c : Int) (n : Nat) : Bool := decide (1 ≤ c) && decide (c ≤ 24) && decide (n ≤ 100)
def plL (c : Int) (xs : List Int) : List Rec := if plOk c xs.length then plTo c xs xs.length else []
theorem gf_plTo {c : Int} {xs : List Int} {n i : Nat} (h : i < n) (j : Nat) : gf (plTo c xs n) i j = (parea c xs i).getD j 0 := by simp [plTo, gf, h]
/-- Each area lies within the columns. -/
theorem parea_bd {c : Int} {xs : List Int} (h : 1 ≤ c) (k : Nat) : 1 ≤ (parea c xs k).getD 2 0 ∧ 0 ≤ (parea c xs k).getD 1 0 ∧ (parea c xs k).getD 1 0 + (parea c xs k).getD 2 0 ≤ c ∧ 0 ≤ (parea c xs k).getD 0 0 ∧ (parea c xs k).getD 0 0 ≤ (k : Int) + 1 ∧ (parea c xs k).getD 1 0 ≤ c ∧ (parea c xs k).getD 2 0 ≤ c := by
  have ih := pst_bd (xs := xs) h k
  have hs := clampZ_bd (x := gz xs k) h
  unfold parea
  split
  · simp; omega
  · simp; omega
theorem parea_zero {c : Int} {xs : List Int} (h : 1 ≤ c) : (parea c xs 0).getD 0 0 = 0 ∧ (parea c xs 0).getD 1 0 = 0 := by
  have hs := clampZ_bd (x := gz xs 0) h
  unfold parea
  rw [if_neg (by simp [pst]; omega)]
  simp [pst]
theorem pst_next (c : Int) (xs : List Int) (k : Nat) : pst c xs (k + 1) = ((parea c xs k).getD 0 0, (parea c xs k).getD 1 0 + (parea c xs k).getD 2 0) := by
  simp only [pst, parea]
  split <;> simp
/-- An area follows the one ahead of it. -/
theorem parea_next {c : Int} {xs : List Int} (h : 1 ≤ c) (k : Nat) :
    ((parea c xs (k + 1)).getD 0 0 = (parea c xs k).getD 0 0 ∧ (parea c xs (k + 1)).getD 1 0 = (parea c xs k).getD 1 0 + (parea c xs k).getD 2 0) ∨
    ((parea c xs (k + 1)).getD 0 0 = (parea c xs k).getD 0 0 + 1 ∧ (parea c xs (k + 1)).getD 1 0 = 0 ∧ c < (parea c xs k).getD 1 0 + (parea c xs k).getD 2 0 + (parea c xs (k + 1)).getD 2 0) := by
  have e1 : (pst c xs (k + 1)).1 = (parea c xs k).getD 0 0 := by rw [pst_next]
  have e2 : (pst c xs (k + 1)).2 = (parea c xs k).getD 1 0 + (parea c xs k).getD 2 0 := by rw [pst_next]
  have e : parea c xs (k + 1) = if c < (pst c xs (k + 1)).2 + clampZ (gz xs (k + 1)) 1 c then [(pst c xs (k + 1)).1 + 1, 0, clampZ (gz xs (k + 1)) 1 c] else [(pst c xs (k + 1)).1, (pst c xs (k + 1)).2, clampZ (gz xs (k + 1)) 1 c] := rfl
  rw [e1, e2] at e
  by_cases hc : c < (parea c xs k).getD 1 0 + (parea c xs k).getD 2 0 + clampZ (gz xs (k + 1)) 1 c
  · right
    rw [if_pos hc] at e
    rw [e]
    exact ⟨by simp, by simp, by simpa using hc⟩
  · left
    rw [if_neg hc] at e
    rw [e]
    exact ⟨by simp, by simp⟩

/-! ### Starts -/
/-- The place of track k. -/
def stAt (gp : Int) (s : List Int) : Nat → Int
  | 0 => 0
  | k + 1 => stAt gp s k + (gz s k + gp)
def stTo (gp : Int) (s : List Int) (k : Nat) : List Int := (List.range k).map (stAt gp s)
theorem stTo_len (gp : Int) (s : List Int) (k : Nat) : (stTo gp s k).length = k := by simp [stTo]
theorem stTo_succ (gp : Int) (s : List Int) (k : Nat) : stTo gp s (k + 1) = stTo gp s k ++ [stAt gp s k] := by simp [stTo, List.range_succ]
theorem stTo_at {gp : Int} {s : List Int} {n k : Nat} (h : k < n) : gz (stTo gp s n) k = stAt gp s k := by simp [stTo, gz, h]
theorem stAt_bd {gp : Int} {s : List Int} {n : Nat} (hg : 0 ≤ gp ∧ gp ≤ 63) (h : ∀ i, i < n → 0 ≤ gz s i ∧ gz s i ≤ 1023) : ∀ k, k ≤ n → 0 ≤ stAt gp s k ∧ stAt gp s k ≤ 1086 * (k : Int)
  | 0, _ => by simp [stAt]
  | k + 1, hk => by
    have ih := stAt_bd (n := n) hg h k (by omega)
    have := h k (by omega)
    simp only [stAt]
    omega
end Go.Proofs.Ytadkkkdecejkeaa
