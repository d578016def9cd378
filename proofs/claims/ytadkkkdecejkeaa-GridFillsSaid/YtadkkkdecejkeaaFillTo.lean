/- A list of numbers that a loop fills in, place by place. -/
import Derived.Test.YtadkkkdecejkeaaMem
namespace Go.Proofs.Ytadkkkdecejkeaa
set_option linter.unusedVariables false
def fillTo (f : Nat → Int) (n k : Nat) : List Int := (List.range n).map fun i => if i < k then f i else 0
theorem fillTo_len (f : Nat → Int) (n k : Nat) : (fillTo f n k).length = n := by simp [fillTo]
theorem fillTo_zero (f : Nat → Int) (n : Nat) : fillTo f n 0 = List.replicate n 0 := by
  apply List.ext_getElem (by simp [fillTo])
  intro i h1 h2
  simp [fillTo]
theorem fillTo_all (f : Nat → Int) (n : Nat) : fillTo f n n = (List.range n).map f := by
  apply List.ext_getElem (by simp [fillTo])
  intro i h1 h2
  simp [fillTo] at h1 ⊢
  intro h; omega
theorem fillTo_set (f : Nat → Int) {n k : Nat} (h : k < n) : (fillTo f n k).set k (f k) = fillTo f n (k + 1) := by
  apply List.ext_getElem (by simp [fillTo])
  intro i h1 h2
  simp [fillTo] at h1
  simp only [List.getElem_set, fillTo, List.getElem_map, List.getElem_range]
  by_cases e : k = i
  · subst e; simp
  · rw [if_neg e]
    by_cases c : i < k
    · rw [if_pos c, if_pos (by omega)]
    · rw [if_neg c, if_neg (by omega)]
theorem fillTo_at (f : Nat → Int) {n k i : Nat} (h : i < n) (hk : i < k) : gz (fillTo f n k) i = f i := by
  simp [fillTo, gz, h, hk]
theorem gz_map_range (f : Nat → Int) {n i : Nat} (h : i < n) : gz ((List.range n).map f) i = f i := by simp [gz, h]
end Go.Proofs.Ytadkkkdecejkeaa
