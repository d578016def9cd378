/- What Validate of a theme answers, in plain Lean; the set of the names that were met. -/
import Derived.Test.YtcjhefkipghloaaLook
import Derived.Maps.OwnSet
namespace Go.Proofs.Ytcjhefkipghloaa
open Go.RowKit Go.Maps
set_option linter.unusedVariables false
set_option linter.unusedSimpArgs false

def valB (n : Int) : Bool := decide (-1 ≤ n) && decide (n ≤ 16777215)
def Tok.vals (t : Tok) : Bool := valB t.light && valB t.dark && valB t.hlight && valB t.hdark
def dupTo (l : List Tok) (s : ByteArray) : Nat → Bool
  | 0 => false
  | k + 1 => dupTo l s k || decide ((gt l k).name = s)
def tokE (l : List Tok) (i : Nat) : Int := if nameB (gt l i).name then (if dupTo l (gt l i).name i then 6 else if (gt l i).vals then 0 else 1) else 4
def firstE (l : List Tok) : Nat → Int
  | 0 => 0
  | k + 1 => if firstE l k = 0 then tokE l k else firstE l k
def valE (l : List Tok) : Int := if 100 < l.length then 2 else firstE l l.length
theorem firstE_hit {l : List Tok} {k : Nat} {c : Int} (h0 : firstE l k = 0) (hk : tokE l k = c) (hc : c ≠ 0) : ∀ m, k < m → firstE l m = c
  | 0, h => by omega
  | m + 1, h => by
    by_cases e : k = m
    · subst e; simp only [firstE]; rw [if_pos h0, hk]
    · have := firstE_hit h0 hk hc m (by omega)
      simp only [firstE]; rw [if_neg (by rw [this]; exact hc), this]
theorem firstE_next {l : List Tok} {k : Nat} (h0 : firstE l k = 0) (hk : tokE l k = 0) : firstE l (k + 1) = 0 := by
  simp only [firstE]; rw [if_pos h0, hk]
theorem valE_hit {l : List Tok} {k : Nat} {c : Int} (hl : l.length ≤ 100) (h0 : firstE l k = 0) (hk : tokE l k = c) (hc : c ≠ 0) (hkl : k < l.length) : valE l = c := by
  unfold valE; rw [if_neg (by omega)]; exact firstE_hit h0 hk hc _ hkl
theorem valE_ok {l : List Tok} (hl : l.length ≤ 100) (h0 : firstE l l.length = 0) : valE l = 0 := by
  unfold valE; rw [if_neg (by omega), h0]
theorem tokE_name {l : List Tok} {k : Nat} (h : nameB (gt l k).name = false) : tokE l k = 4 := by simp [tokE, h]
theorem tokE_dup {l : List Tok} {k : Nat} (h : nameB (gt l k).name = true) (h2 : dupTo l (gt l k).name k = true) : tokE l k = 6 := by simp [tokE, h, h2]
theorem tokE_val {l : List Tok} {k : Nat} (h : nameB (gt l k).name = true) (h2 : dupTo l (gt l k).name k = false) (h3 : (gt l k).vals = false) : tokE l k = 1 := by simp [tokE, h, h2, h3]
theorem tokE_ok {l : List Tok} {k : Nat} (h : nameB (gt l k).name = true) (h2 : dupTo l (gt l k).name k = false) (h3 : (gt l k).vals = true) : tokE l k = 0 := by simp [tokE, h, h2, h3]
theorem dupTo_hit {l : List Tok} {s : ByteArray} {i : Nat} (h : (gt l i).name = s) : ∀ k, i < k → dupTo l s k = true
  | 0, hi => by omega
  | k + 1, hi => by
    by_cases e : i = k
    · subst e; simp [dupTo, h]
    · simp [dupTo, dupTo_hit h k (by omega)]
theorem dupTo_next {l : List Tok} {s : ByteArray} {k : Nat} (h : dupTo l s k = false) (hk : (gt l k).name ≠ s) : dupTo l s (k + 1) = false := by simp [dupTo, h, hk]

/-- The names of the first k tokens, as the map that the program keeps. -/
def seenD (l : List Tok) : Nat → DataW Unit
  | 0 => .map []
  | k + 1 => (seenD l k).put (.string (gt l k).name.data.toList) (.lit (.bool true))
theorem seenD_isMap (l : List Tok) : ∀ k, IsMap (seenD l k)
  | 0 => ⟨[], rfl⟩
  | k + 1 => by
    obtain ⟨es, h⟩ := seenD_isMap l k
    exact ⟨_, by simp only [seenD]; rw [h]; rfl⟩
theorem seenD_at (l : List Tok) (s : ByteArray) : ∀ k, (seenD l k).atKey (.string s.data.toList) (.lit (.bool false)) = .lit (.bool (dupTo l s k))
  | 0 => by simp [seenD, dupTo, DataW.atKey]
  | k + 1 => by
    simp only [seenD, dupTo]
    by_cases h : (gt l k).name = s
    · subst h
      rw [atKey_put_same (seenD_isMap l k) (show WideAt.IsKeyLit (.string (gt l k).name.data.toList) from trivial)]
      simp
    · rw [atKey_put_other (by
        intro e
        apply h
        have : s.data.toList = (gt l k).name.data.toList := by simpa using e
        exact (ByteArray.ext (Array.toList_inj.mp this)).symm), seenD_at l s k]
      simp [h]
end Go.Proofs.Ytcjhefkipghloaa
