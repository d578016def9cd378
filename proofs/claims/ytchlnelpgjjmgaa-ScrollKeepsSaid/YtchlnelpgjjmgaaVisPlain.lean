/- Plain mathematics of visible rows. -/
import Derived.Test.YtchlnelpgjjmgaaStrips
namespace Go.Proofs.Ytchlnelpgjjmgaa

/-- The first number from k on, within f steps, that p refuses. -/
def scan (p : Nat → Bool) : Nat → Nat → Nat
  | 0, k => k
  | f + 1, k => if p k then scan p f (k + 1) else k
theorem scan_go {p : Nat → Bool} {f k : Nat} (h : p k = true) (hf : 0 < f) : scan p f k = scan p (f - 1) (k + 1) := by
  cases f with
  | zero => omega
  | succ f => simp [scan, h]
theorem scan_stop {p : Nat → Bool} {f k : Nat} (h : p k = false) : scan p f k = k := by
  cases f with
  | zero => rfl
  | succ f => simp [scan, h]
theorem scan_end (p : Nat → Bool) (k : Nat) : scan p 0 k = k := rfl
theorem scan_spec (p : Nat → Bool) : ∀ f k, k ≤ scan p f k ∧ scan p f k ≤ k + f ∧ (∀ j, k ≤ j → j < scan p f k → p j = true) ∧ (scan p f k < k + f → p (scan p f k) = false)
  | 0, k => ⟨Nat.le_refl _, Nat.le_refl _, fun j h1 h2 => by simp only [scan] at h2; omega, fun h => by simp only [scan] at h; omega⟩
  | f + 1, k => by
    by_cases c : p k = true
    · have e : scan p (f + 1) k = scan p f (k + 1) := by simp [scan, c]
      obtain ⟨h1, h2, h3, h4⟩ := scan_spec p f (k + 1)
      rw [e]
      refine ⟨by omega, by omega, fun j hj hjk => ?_, fun h => h4 (by omega)⟩
      by_cases d : j = k
      · subst d; exact c
      · exact h3 j (by omega) hjk
    · have c' : p k = false := by simpa using c
      have e : scan p (f + 1) k = k := scan_stop c'
      rw [e]
      exact ⟨Nat.le_refl _, by omega, fun j h1 h2 => by omega, fun _ => c'⟩

/-- The top of row k. -/
def topTo (l : List Strip) : Nat → Int
  | 0 => 0
  | k + 1 => topTo l k + gh l k
theorem topTo_bd {l : List Strip} {n : Nat} (hg : goodRows l n) : ∀ k, k ≤ n → 0 ≤ topTo l k ∧ topTo l k ≤ k * 1099511627776
  | 0, _ => by simp [topTo]
  | k + 1, h => by
    have ih := topTo_bd hg k (by omega)
    have := hg k (by omega)
    simp only [topTo, heightZ] at *
    omega
theorem topTo_mono {l : List Strip} {n : Nat} (hg : goodRows l n) : ∀ j k, j ≤ k → k ≤ n → topTo l j ≤ topTo l k
  | j, 0, h, _ => by have : j = 0 := by omega
                     subst this; exact Int.le_refl _
  | j, k + 1, h, hk => by
    by_cases c : j = k + 1
    · subst c; exact Int.le_refl _
    · have := topTo_mono hg j k (by omega) (by omega)
      have h2 := hg k (by omega)
      simp only [topTo, heightZ] at *
      omega

def above (l : List Strip) (o : Int) (k : Nat) : Bool := decide (topTo l (k + 1) ≤ o)
def upon (l : List Strip) (o h : Int) (k : Nat) : Bool := decide (topTo l k < o + h)
/-- The first visible row, and the one behind the last. -/
def visF (l : List Strip) (o : Int) : Nat := scan (above l o) l.length 0
def visL (l : List Strip) (o h : Int) : Nat := scan (upon l o h) (l.length - visF l o) (visF l o)
def visOk (l : List Strip) (o h : Int) : Prop := l.length ≤ 10000 ∧ goodRows l l.length ∧ inZ o ∧ heightZ h
end Go.Proofs.Ytchlnelpgjjmgaa
