/- Clamp and Reveal of package scroll. -/
import Derived.Test.YtchlnelpgjjmgaaWithin
import Derived.Test.YtchlnelpgjjmgaaClampP
namespace Go.Proofs.Ytchlnelpgjjmgaa
open Go.RowKit

/-- n is a number of the layer. -/
def inZ (n : Int) : Prop := -1099511627776 ≤ n ∧ n ≤ 1099511627776
def heightZ (n : Int) : Prop := 0 ≤ n ∧ n ≤ 1099511627776
instance (n : Int) : Decidable (inZ n) := inferInstanceAs (Decidable (_ ∧ _))
instance (n : Int) : Decidable (heightZ n) := inferInstanceAs (Decidable (_ ∧ _))
theorem far_iff (n : Int) : farZ n = false ↔ inZ n := by simp [farZ, inZ]
theorem noHeight_iff (n : Int) : noHeight n = false ↔ heightZ n := by simp [noHeight, heightZ]
theorem far_true {n : Int} (h : ¬ inZ n) : farZ n = true := by
  cases c : farZ n with
  | true => rfl
  | false => exact absurd ((far_iff n).1 c) h
theorem noHeight_true {n : Int} (h : ¬ heightZ n) : noHeight n = true := by
  cases c : noHeight n with
  | true => rfl
  | false => exact absurd ((noHeight_iff n).1 c) h

/-- within at a literal list; its answer is given. -/
theorem within_lit {cs : Array Value} (xs : List Int) (b : Bool) (hb : xs.any farZ = !b) (w : World) (h : cs = (xs.map (Value.int .i64)).toArray) (hm : xs.length ≤ maxLen) (n : Nat) (hn : n = xs.length) (g : Nat) (hg : g = w.heap.size) :
    Calls Try.prog 22 #[.slice (some ⟨g, 0, none⟩) n n] (w.alloc (.cells cs 3)) fun e w' => e = .returned (.bool b) ∧ w.alloc (.cells cs 3) = w' := by
  subst hg
  have := within_any _ xs _ (lit_ints (w := w) xs h hm n hn)
  rw [hb, Bool.not_not] at this
  exact this
theorem heights_lit {cs : Array Value} (xs : List Int) (b : Bool) (hb : xs.any noHeight = !b) (w : World) (h : cs = (xs.map (Value.int .i64)).toArray) (hm : xs.length ≤ maxLen) (n : Nat) (hn : n = xs.length) (g : Nat) (hg : g = w.heap.size) :
    Calls Try.prog 23 #[.slice (some ⟨g, 0, none⟩) n n] (w.alloc (.cells cs 3)) fun e w' => e = .returned (.bool b) ∧ w.alloc (.cells cs 3) = w' := by
  subst hg
  have := heights_any _ xs _ (lit_ints (w := w) xs h hm n hn)
  rw [hb, Bool.not_not] at this
  exact this

/-- Clamp of the layer. -/
def sClamp (o c h : Int) : Int := if inZ o ∧ inZ c ∧ heightZ h ∧ h < c then clampZ o 0 (c - h) else 0
/-- Reveal of the layer. -/
def sReveal (o h a x : Int) : Int := if inZ o ∧ inZ a ∧ inZ x ∧ heightZ h then (if a < o ∨ h < x then a else if o + h < a + x then a + x - h else o) else 0

/-- The call returns the number z; of what was there nothing has turned. -/
def Gives (z : Int) (w : World) (e : Ending) (w' : World) : Prop := e = .returned (.int .i64 z) ∧ Below w.heap.size w w'

theorem two_len (a b : Int) : [a, b].length ≤ maxLen := by unfold maxLen; simp
theorem one_len (a : Int) : [a].length ≤ maxLen := by unfold maxLen; simp
theorem three_len (a b c : Int) : [a, b, c].length ≤ maxLen := by unfold maxLen; simp
theorem below_one (w : World) (o : Obj) : Below w.heap.size w (w.alloc o) := (Below.refl _ _).alloc (Nat.le_refl _) _
theorem below_two (w : World) (o p : Obj) : Below w.heap.size w ((w.alloc o).alloc p) := (below_one w o).alloc (by simp) _

set_option maxHeartbeats 400000 in
theorem sClamp_any (o c h : Int) (w : World) : Calls Try.prog 10 #[.int .i64 o, .int .i64 c, .int .i64 h] w (Gives (sClamp o c h) w) := by
  by_cases h1 : inZ o ∧ inZ c
  · have HW : [o, c].any farZ = !true := by simp [(far_iff o).2 h1.1, (far_iff c).2 h1.2]
    obtain ⟨⟨o0, o1⟩, c0, c1⟩ := h1
    by_cases h2 : heightZ h
    · have HH : [h].any noHeight = !true := by simp [(noHeight_iff h).2 h2]
      obtain ⟨k0, k1⟩ := h2
      by_cases h3 : h < c
      · have HR : Hid (sClamp o c h = clampZ o 0 (c - h)) := by rw [sClamp, if_pos ⟨⟨o0, o1⟩, ⟨c0, c1⟩, ⟨k0, k1⟩, h3⟩]; exact rfl
        go_enter Try.func10, Try.ntmps10
        go_wp2_with (first | (go_at_call 22; refine (within_lit [o, c] true HW _ rfl (two_len _ _) _ rfl _ (by simp)).mono ?_; rintro e w' ⟨rfl, rfl⟩) | (go_at_call 23; refine (heights_lit [h] true HH _ rfl (one_len _) _ rfl _ (by simp)).mono ?_; rintro e w' ⟨rfl, rfl⟩) | (go_at_call 24; refine (clamp_any _ _ _ _).mono ?_; rintro e w' ⟨rfl, rfl⟩))
        go_ret
        exact ⟨by rw [HR.out]; rfl, below_two _ _ _⟩
      · have HR : Hid (sClamp o c h = 0) := by rw [sClamp, if_neg (fun z => h3 z.2.2.2)]; exact rfl
        go_enter Try.func10, Try.ntmps10
        go_wp2_with (first | (go_at_call 22; refine (within_lit [o, c] true HW _ rfl (two_len _ _) _ rfl _ (by simp)).mono ?_; rintro e w' ⟨rfl, rfl⟩) | (go_at_call 23; refine (heights_lit [h] true HH _ rfl (one_len _) _ rfl _ (by simp)).mono ?_; rintro e w' ⟨rfl, rfl⟩))
        go_ret
        exact ⟨by rw [HR.out]; rfl, below_two _ _ _⟩
    · have HH : [h].any noHeight = !false := by simp [noHeight_true h2]
      have HR : Hid (sClamp o c h = 0) := by rw [sClamp, if_neg (fun z => h2 z.2.2.1)]; exact rfl
      clear h2
      go_enter Try.func10, Try.ntmps10
      go_wp2_with (first | (go_at_call 22; refine (within_lit [o, c] true HW _ rfl (two_len _ _) _ rfl _ (by simp)).mono ?_; rintro e w' ⟨rfl, rfl⟩) | (go_at_call 23; refine (heights_lit [h] false HH _ rfl (one_len _) _ rfl _ (by simp)).mono ?_; rintro e w' ⟨rfl, rfl⟩))
      go_ret
      exact ⟨by rw [HR.out]; rfl, below_two _ _ _⟩
  · have HW : [o, c].any farZ = !false := by
      by_cases a : inZ o
      · simp [far_true (fun b => h1 ⟨a, b⟩)]
      · simp [far_true a]
    have HR : Hid (sClamp o c h = 0) := by rw [sClamp, if_neg (fun z => h1 ⟨z.1, z.2.1⟩)]; exact rfl
    clear h1
    go_enter Try.func10, Try.ntmps10
    go_wp2_with (go_at_call 22; refine (within_lit [o, c] false HW _ rfl (two_len _ _) _ rfl _ (by simp)).mono ?_; rintro e w' ⟨rfl, rfl⟩)
    go_ret
    exact ⟨by rw [HR.out]; rfl, below_one _ _⟩
end Go.Proofs.Ytchlnelpgjjmgaa
