/- Plain mathematics of Keep: the first row with a key, the map of tops, the anchor. -/
import Derived.Test.YtchlnelpgjjmgaaVisPlain
import Derived.Maps.OwnSet
import Derived.Maps.Own
namespace Go.Proofs.Ytchlnelpgjjmgaa
open Go.RowKit Go.Maps

/-- A key as the form reads it. -/
def keyL (s : ByteArray) : Lit := .string s.data.toList
theorem keyL_inj {s t : ByteArray} (h : keyL s = keyL t) : s = t := by
  simp only [keyL, Lit.string.injEq] at h
  have : s.data = t.data := Array.toList_inj.1 h
  cases s; cases t; simp_all
/-- The first of the first k rows that bears the key. -/
def firstTo (l : List Strip) (s : ByteArray) : Nat → Option Nat
  | 0 => none
  | k + 1 => if (firstTo l s k).isSome then firstTo l s k else if gk l k = s then some k else none
theorem firstTo_lt {l : List Strip} {s : ByteArray} : ∀ {k j : Nat}, firstTo l s k = some j → j < k ∧ gk l j = s
  | 0, _, h => by simp [firstTo] at h
  | k + 1, j, h => by
    simp only [firstTo] at h
    by_cases c : (firstTo l s k).isSome = true
    · rw [if_pos c] at h
      have := firstTo_lt h; exact ⟨by omega, this.2⟩
    · rw [if_neg c] at h
      by_cases d : gk l k = s
      · rw [if_pos d] at h
        have e : k = j := by simpa using h
        subst e; exact ⟨by omega, d⟩
      · rw [if_neg d] at h; simp at h
def firstIx (l : List Strip) (s : ByteArray) : Option Nat := firstTo l s l.length

/-- The map of tops behind k rows. -/
def mapTo (l : List Strip) : Nat → DataW Unit
  | 0 => .map []
  | k + 1 => if (firstTo l (gk l k) k).isSome then mapTo l k else (mapTo l k).put (keyL (gk l k)) (.lit (.int .i64 (topTo l k)))
theorem isKeyLit_keyL (s : ByteArray) : WideAt.IsKeyLit (keyL s) := by
  simp [keyL, WideAt.IsKeyLit]
theorem mapTo_isMap (l : List Strip) : ∀ k, IsMap (mapTo l k)
  | 0 => isMap_empty
  | k + 1 => by
    simp only [mapTo]
    split
    · exact mapTo_isMap l k
    · exact (mapTo_isMap l k).put _ _
theorem mapTo_has (l : List Strip) (s : ByteArray) : ∀ k, Maps.has (mapTo l k) (keyL s) = (firstTo l s k).isSome ∧
    (∀ j, firstTo l s k = some j → (mapTo l k).atKey (keyL s) (.lit (.int .i64 0)) = .lit (.int .i64 (topTo l j)))
  | 0 => ⟨rfl, fun j h => by simp [firstTo] at h⟩
  | k + 1 => by
    obtain ⟨h1, h2⟩ := mapTo_has l s k
    by_cases e : gk l k = s
    · subst e
      by_cases c : (firstTo l (gk l k) k).isSome = true
      · have e1 : mapTo l (k + 1) = mapTo l k := by simp only [mapTo]; rw [if_pos c]
        have e2 : firstTo l (gk l k) (k + 1) = firstTo l (gk l k) k := by simp only [firstTo]; rw [if_pos c]
        rw [e1, e2]; exact ⟨h1, h2⟩
      · have e1 : mapTo l (k + 1) = (mapTo l k).put (keyL (gk l k)) (.lit (.int .i64 (topTo l k))) := by simp only [mapTo]; rw [if_neg c]
        have e2 : firstTo l (gk l k) (k + 1) = some k := by simp only [firstTo]; rw [if_neg c]; simp
        rw [e1, e2]
        refine ⟨has_put_same (mapTo_isMap l k) (isKeyLit_keyL _) _, fun j hj => ?_⟩
        have : k = j := by simpa using hj
        subst this
        exact atKey_put_same (mapTo_isMap l k) (isKeyLit_keyL _) _ _
    · have e2 : firstTo l s (k + 1) = firstTo l s k := by
        simp only [firstTo]
        by_cases c : (firstTo l s k).isSome = true
        · rw [if_pos c]
        · rw [if_neg c, if_neg e]
          cases h : firstTo l s k with
          | none => rfl
          | some => rw [h] at c; simp at c
      rw [e2]
      by_cases c : (firstTo l (gk l k) k).isSome = true
      · have e1 : mapTo l (k + 1) = mapTo l k := by simp only [mapTo]; rw [if_pos c]
        rw [e1]; exact ⟨h1, h2⟩
      · have e1 : mapTo l (k + 1) = (mapTo l k).put (keyL (gk l k)) (.lit (.int .i64 (topTo l k))) := by simp only [mapTo]; rw [if_neg c]
        have hne : keyL s ≠ keyL (gk l k) := fun z => e (keyL_inj z).symm
        rw [e1]
        exact ⟨by rw [has_put_other hne]; exact h1, fun j hj => by rw [atKey_put_other hne]; exact h2 j hj⟩

/-- The anchor: the last row that is met in the new list, or the first of them that ends below the offset. -/
def anchorGo (l old : List Strip) (o : Int) : Nat → Nat → Option Nat → Option Nat
  | 0, _, acc => acc
  | f + 1, k, acc => if (firstIx l (gk old k)).isSome then (if o < topTo old (k + 1) then some k else anchorGo l old o f (k + 1) (some k)) else anchorGo l old o f (k + 1) acc
def valAt (l old : List Strip) (o : Int) : Option Nat → Int
  | none => 0
  | some i => topTo l ((firstIx l (gk old i)).getD 0) + o - topTo old i
def keepZ (l old : List Strip) (o : Int) : Int := valAt l old o (anchorGo l old o old.length 0 none)
theorem anchor_stop {l old : List Strip} {o : Int} {f k : Nat} {acc : Option Nat} (h : (firstIx l (gk old k)).isSome = true) (hf : 0 < f) (ho : o < topTo old (k + 1)) : anchorGo l old o f k acc = some k := by
  cases f with
  | zero => omega
  | succ f => simp only [anchorGo]; rw [if_pos h, if_pos ho]
theorem anchor_hit {l old : List Strip} {o : Int} {f k : Nat} {acc : Option Nat} (h : (firstIx l (gk old k)).isSome = true) (hf : 0 < f) (ho : ¬ o < topTo old (k + 1)) : anchorGo l old o f k acc = anchorGo l old o (f - 1) (k + 1) (some k) := by
  cases f with
  | zero => omega
  | succ f => simp only [anchorGo]; rw [if_pos h, if_neg ho]; rfl
theorem anchor_miss {l old : List Strip} {o : Int} {f k : Nat} {acc : Option Nat} (h : (firstIx l (gk old k)).isSome = false) (hf : 0 < f) : anchorGo l old o f k acc = anchorGo l old o (f - 1) (k + 1) acc := by
  cases f with
  | zero => omega
  | succ f => simp only [anchorGo]; rw [if_neg (by rw [h]; simp)]; rfl
theorem anchor_end (l old : List Strip) (o : Int) (k : Nat) (acc : Option Nat) : anchorGo l old o 0 k acc = acc := rfl

theorem ownsMap_block {H : Type} {w w' : World} {P : Program} {k : TypeId} {R : Value → Option (DataW H × List MemPlace)} {b n : Nat} {D : DataW H} (h : w.ownsMap P k R b n D) (hb : w'.heap[b]? = w.heap[b]?) : w'.ownsMap P k R b n D := by
  obtain ⟨es, c, h1, h2⟩ := h
  exact ⟨es, c, by rw [hb]; exact h1, h2⟩
theorem ownsMap_lt {H : Type} {w : World} {P : Program} {k : TypeId} {R : Value → Option (DataW H × List MemPlace)} {b n : Nat} {D : DataW H} (h : w.ownsMap P k R b n D) : b < w.heap.size := by
  obtain ⟨es, c, h1, h2⟩ := h
  exact lt_of_block h1
def keysOk (l : List Strip) : Prop := ∀ j, (gk l j).size ≤ maxLen
end Go.Proofs.Ytchlnelpgjjmgaa
