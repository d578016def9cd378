/- Plain mathematics of Set: the place, what takes it, the errors. -/
import Derived.Test.YtfcffmjmohkpoaaAnims
namespace Go.Proofs.Ytfcffmjmohkpoaa
set_option linter.unusedVariables false
set_option linter.unusedSimpArgs false

def sameKey (o a : Anim) : Bool := decide (o.node = a.node) && decide (o.prop = a.prop)
/-- p is the place that the first k of the list give: n if none of them has the key, else the first that has it. -/
def PlaceTo (l : List Anim) (a : Anim) (k p : Nat) : Prop := (p = l.length ∧ ∀ i, i < k → sameKey (ga l i) a = false) ∨ (p < k ∧ sameKey (ga l p) a = true ∧ ∀ i, i < p → sameKey (ga l i) a = false)
theorem PlaceTo.start (l : List Anim) (a : Anim) : PlaceTo l a 0 l.length := .inl ⟨rfl, fun i hi => absurd hi (Nat.not_lt_zero _)⟩
/-- The place of a in the list. -/
def place (l : List Anim) (a : Anim) : Nat := l.findIdx fun o => sameKey o a
theorem PlaceTo.place {l : List Anim} {a : Anim} {p : Nat} (h : PlaceTo l a l.length p) : Go.Proofs.Ytfcffmjmohkpoaa.place l a = p := by
  have gg : ∀ i (hi : i < l.length), ga l i = l[i] := fun i hi => by simp [ga, hi]
  unfold Go.Proofs.Ytfcffmjmohkpoaa.place
  rcases h with ⟨rfl, h⟩ | ⟨h1, h2, h3⟩
  · rw [List.findIdx_eq_length]
    intro x hx
    obtain ⟨i, hi, rfl⟩ := List.getElem_of_mem hx
    have := h i hi
    rwa [gg i hi] at this
  · rw [List.findIdx_eq h1]
    refine ⟨by have := h2; rwa [gg p h1] at this, fun i hi => ?_⟩
    have := h3 i hi
    rwa [gg i (by omega)] at this

def w64 (x : Int) : Int := IntKind.i64.wrap x
/-- An animation that takes the place of another. -/
def Anim.after (old a : Anim) (now : Int) : Anim :=
  if old.kind = 2 ∧ a.kind = 2 then { a with start0 := old.value now, x := (old.state now).1, v := (old.state now).2 }
  else { a with start0 := old.value now, x := 65536 * old.value now, v := 0 }
def Anim.still (a : Anim) : Anim := if a.kind = 1 then { a with x := 0, v := 0 } else a
/-- What Set puts into the list. -/
def settled (l : List Anim) (a : Anim) (now : Int) : Anim :=
  let b : Anim := { a with begin_ := now, now := now }
  if place l a < l.length then ((ga l (place l a)).after b now).still else ({ b with x := w64 (65536 * b.start0) } : Anim).still
def setErr (l : List Anim) (a : Anim) (now : Int) : Int :=
  if 64 < l.length then 2 else if btw now 0 1099511627776 = false then 1 else if firstErr l ≠ 0 then firstErr l
  else if (settled l a now).err ≠ 0 then (settled l a now).err else if place l a = 64 then 11 else 0
def setOn (l : List Anim) (a : Anim) (now : Int) : List Anim :=
  if setErr l a now = 0 then (if place l a < l.length then l.set (place l a) (settled l a now) else l ++ [settled l a now]) else []
theorem value_bd {a : Anim} (now : Int) (he : a.err = 0) : -33554432 ≤ a.value now ∧ a.value now ≤ 33554432 := by
  obtain ⟨hh, hk⟩ := Anim.ok_cases he
  obtain ⟨b0, b1, b2, b3, b4, b5, b6, b7, b8, b9⟩ := Anim.head_bd hh
  unfold Anim.value
  split
  · split
    · obtain ⟨E, hE⟩ : ∃ E, easeZ a.x1 a.y1 a.x2 a.y2 (now - a.begin_) a.dur = E := ⟨_, rfl⟩
      have hEb := easeZ_bd a.x1 a.y1 a.x2 a.y2 (now - a.begin_) a.dur
      rw [hE] at hEb ⊢
      have hpr : -29360128000 ≤ (a.goal - a.start0) * E ∧ (a.goal - a.start0) * E ≤ 29360128000 := by
        by_cases hE0 : 0 ≤ E
        · have := mul_rng (a := a.goal - a.start0) (b := E) (m := 2097152) (k := 14000) (by omega) (by omega) hE0 hEb.2
          omega
        · have := mul_rng (a := a.goal - a.start0) (b := -E) (m := 2097152) (k := 14000) (by omega) (by omega) (by omega) (by omega)
          rw [Int.mul_neg] at this
          omega
      have hRb := rnd_bd (a := (a.goal - a.start0) * E) (b := 1000) (m := 29360128000) (by omega) hpr.1 hpr.2
      unfold rnd at hRb ⊢
      omega
    · have hS := Anim.state_in (a := a) b6 b7 now
      obtain ⟨s0, s1, _, _⟩ := hS
      unfold rnd
      omega
  · omega
end Go.Proofs.Ytfcffmjmohkpoaa
