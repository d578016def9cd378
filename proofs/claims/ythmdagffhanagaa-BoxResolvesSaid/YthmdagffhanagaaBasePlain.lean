/- Plain law of Baseline: offsets below the greatest baseline, and the height of all. -/
import Derived.Test.YthmdagffhanagaaBoxLen
namespace Go.Proofs.Ythmdagffhanagaa
set_option linter.unusedVariables false
def topTo (bs : List Int) : Nat → Int
  | 0 => 0
  | k + 1 => max (topTo bs k) (gz bs k)
def bOffs (bs : List Int) (top : Int) (k : Nat) : List Int := (List.range k).map fun i => top - gz bs i
theorem bOffs_len (bs : List Int) (top : Int) (k : Nat) : (bOffs bs top k).length = k := by simp [bOffs]
theorem bOffs_succ (bs : List Int) (top : Int) (k : Nat) : bOffs bs top (k + 1) = bOffs bs top k ++ [top - gz bs k] := by simp [bOffs, List.range_succ]
theorem bOffs_at {bs : List Int} {top : Int} {k i : Nat} (h : i < k) : gz (bOffs bs top k) i = top - gz bs i := by simp [bOffs, gz, h]
def htTo (hs bs : List Int) (top : Int) : Nat → Int
  | 0 => 0
  | k + 1 => max (htTo hs bs top k) (top - gz bs k + gz hs k)
def baseOk (hs bs : List Int) : Bool := decide (hs.length = bs.length) && decide (hs.length ≤ 100) && lensB hs && lensB bs
def baseL (hs bs : List Int) : List Int := if baseOk hs bs then bOffs bs (topTo bs bs.length) bs.length else []
def baseH (hs bs : List Int) : Int := if baseOk hs bs then htTo hs bs (topTo bs bs.length) bs.length else 0
theorem lensZ {s : List Int} (h : lensB s = true) {k : Nat} (hk : k < s.length) : 0 ≤ gz s k ∧ gz s k ≤ 1048576 := by
  have := List.all_eq_true.1 h s[k] (List.getElem_mem hk)
  have e : gz s k = s[k] := by simp [gz, hk]
  rw [e]; exact lenB_iff.1 this
theorem lensB_no {s : List Int} {k : Nat} (hk : k < s.length) (h : lenB (gz s k) = false) : lensB s = false := by
  cases e : lensB s with
  | false => rfl
  | true => have := lenB_iff.2 (lensZ e hk); rw [h] at this; cases this
theorem lensB_yes {s : List Int} (h : ∀ k, k < s.length → lenB (gz s k) = true) : lensB s = true := by
  unfold lensB
  rw [List.all_eq_true]
  intro x hx
  obtain ⟨i, hi, rfl⟩ := List.getElem_of_mem hx
  have := h i hi
  have e : gz s i = s[i] := by simp [gz, hi]
  rw [← e]; exact this
theorem topTo_bd {bs : List Int} : ∀ k, (∀ i, i < k → 0 ≤ gz bs i ∧ gz bs i ≤ 1048576) → (0 ≤ topTo bs k ∧ topTo bs k ≤ 1048576) ∧ ∀ i, i < k → gz bs i ≤ topTo bs k
  | 0, _ => ⟨by simp [topTo], fun i h => by omega⟩
  | k + 1, h => by
    have h1 := topTo_bd k (fun i hi => h i (by omega))
    have h2 := h k (by omega)
    simp only [topTo]
    refine ⟨by omega, fun i hi => ?_⟩
    by_cases e : i = k
    · subst e; omega
    · have := h1.2 i (by omega); omega
theorem htTo_bd {hs bs : List Int} {top : Int} (ht : 0 ≤ top ∧ top ≤ 1048576) : ∀ k, (∀ i, i < k → (0 ≤ gz bs i ∧ gz bs i ≤ top) ∧ (0 ≤ gz hs i ∧ gz hs i ≤ 1048576)) → (0 ≤ htTo hs bs top k ∧ htTo hs bs top k ≤ 2097152) ∧ ∀ i, i < k → top - gz bs i + gz hs i ≤ htTo hs bs top k
  | 0, _ => ⟨by simp [htTo], fun i h => by omega⟩
  | k + 1, h => by
    have h1 := htTo_bd ht k (fun i hi => h i (by omega))
    have h2 := h k (by omega)
    simp only [htTo]
    refine ⟨by omega, fun i hi => ?_⟩
    by_cases e : i = k
    · subst e; omega
    · have := h1.2 i (by omega); omega
theorem baseOk_iff {hs bs : List Int} : baseOk hs bs = true ↔ hs.length = bs.length ∧ hs.length ≤ 100 ∧ lensB hs = true ∧ lensB bs = true := by
  simp [baseOk, and_assoc]
theorem base_facts {hs bs : List Int} (h : baseOk hs bs = true) {i : Nat} (hi : i < bs.length) :
    gz (baseL hs bs) i + gz bs i = topTo bs bs.length ∧ 0 ≤ gz (baseL hs bs) i ∧ gz (baseL hs bs) i ≤ 1048576 ∧ gz (baseL hs bs) i + gz hs i ≤ baseH hs bs ∧ (0 ≤ gz bs i ∧ gz bs i ≤ 1048576) ∧ 0 ≤ gz hs i ∧ gz hs i ≤ 1048576 := by
  obtain ⟨h1, h2, h3, h4⟩ := baseOk_iff.1 h
  have t := topTo_bd (bs := bs) bs.length (fun i hi => lensZ h4 hi)
  have b := htTo_bd (hs := hs) (bs := bs) t.1 bs.length (fun i hi => ⟨⟨(lensZ h4 hi).1, t.2 i hi⟩, lensZ h3 (by omega)⟩)
  have e1 : gz (baseL hs bs) i = topTo bs bs.length - gz bs i := by unfold baseL; rw [if_pos h]; exact bOffs_at hi
  have e2 : baseH hs bs = htTo hs bs (topTo bs bs.length) bs.length := by unfold baseH; rw [if_pos h]
  have := b.2 i hi
  have := lensZ h4 hi
  have := lensZ h3 (k := i) (by omega)
  have := t.2 i hi
  omega
theorem baseL_len {hs bs : List Int} (h : baseOk hs bs = true) : (baseL hs bs).length = bs.length := by unfold baseL; rw [if_pos h, bOffs_len]
theorem baseL_no {hs bs : List Int} (h : baseOk hs bs = false) : baseL hs bs = [] := by unfold baseL; rw [if_neg (by rw [h]; simp)]
theorem baseH_no {hs bs : List Int} (h : baseOk hs bs = false) : baseH hs bs = 0 := by unfold baseH; rw [if_neg (by rw [h]; simp)]
end Go.Proofs.Ythmdagffhanagaa
