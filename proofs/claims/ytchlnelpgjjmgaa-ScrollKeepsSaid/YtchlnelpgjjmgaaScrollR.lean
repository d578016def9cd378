/- Reveal of package scroll. -/
import Derived.Test.YtchlnelpgjjmgaaScrollC
namespace Go.Proofs.Ytchlnelpgjjmgaa
open Go.RowKit

set_option maxHeartbeats 800000 in
theorem sReveal_any (o h a x : Int) (w : World) : Calls Try.prog 12 #[.int .i64 o, .int .i64 h, .int .i64 a, .int .i64 x] w (Gives (sReveal o h a x) w) := by
  by_cases h1 : inZ o ∧ inZ a ∧ inZ x
  · have HW : [o, a, x].any farZ = !true := by simp [(far_iff o).2 h1.1, (far_iff a).2 h1.2.1, (far_iff x).2 h1.2.2]
    obtain ⟨⟨o0, o1⟩, ⟨a0, a1⟩, x0, x1⟩ := h1
    by_cases h2 : heightZ h
    · have HH : [h].any noHeight = !true := by simp [(noHeight_iff h).2 h2]
      obtain ⟨k0, k1⟩ := h2
      have h0 : sReveal o h a x = (if a < o ∨ h < x then a else if o + h < a + x then a + x - h else o) := by rw [sReveal, if_pos ⟨⟨o0, o1⟩, ⟨a0, a1⟩, ⟨x0, x1⟩, ⟨k0, k1⟩⟩]
      by_cases c1 : a < o
      · have HR : Hid (sReveal o h a x = a) := by rw [h0, if_pos (.inl c1)]; exact rfl
        clear h0
        go_enter Try.func12, Try.ntmps12
        go_wp2_with (first | (go_at_call 22; refine (within_lit [o, a, x] true HW _ rfl (three_len _ _ _) _ rfl _ (by simp)).mono ?_; rintro e w' ⟨rfl, rfl⟩) | (go_at_call 23; refine (heights_lit [h] true HH _ rfl (one_len _) _ rfl _ (by simp)).mono ?_; rintro e w' ⟨rfl, rfl⟩))
        go_ret
        exact ⟨by rw [HR.out]; rfl, below_two _ _ _⟩
      · by_cases c2 : h < x
        · have HR : Hid (sReveal o h a x = a) := by rw [h0, if_pos (.inr c2)]; exact rfl
          clear h0
          go_enter Try.func12, Try.ntmps12
          go_wp2_with (first | (go_at_call 22; refine (within_lit [o, a, x] true HW _ rfl (three_len _ _ _) _ rfl _ (by simp)).mono ?_; rintro e w' ⟨rfl, rfl⟩) | (go_at_call 23; refine (heights_lit [h] true HH _ rfl (one_len _) _ rfl _ (by simp)).mono ?_; rintro e w' ⟨rfl, rfl⟩))
          go_ret
          exact ⟨by rw [HR.out]; rfl, below_two _ _ _⟩
        · by_cases c3 : o + h < a + x
          · have HR : Hid (sReveal o h a x = a + x - h) := by rw [h0, if_neg (by omega), if_pos c3]; exact rfl
            clear h0
            go_enter Try.func12, Try.ntmps12
            go_wp2_with (first | (go_at_call 22; refine (within_lit [o, a, x] true HW _ rfl (three_len _ _ _) _ rfl _ (by simp)).mono ?_; rintro e w' ⟨rfl, rfl⟩) | (go_at_call 23; refine (heights_lit [h] true HH _ rfl (one_len _) _ rfl _ (by simp)).mono ?_; rintro e w' ⟨rfl, rfl⟩))
            go_ret
            exact ⟨by rw [HR.out]; rfl, below_two _ _ _⟩
          · have HR : Hid (sReveal o h a x = o) := by rw [h0, if_neg (by omega), if_neg c3]; exact rfl
            clear h0
            go_enter Try.func12, Try.ntmps12
            go_wp2_with (first | (go_at_call 22; refine (within_lit [o, a, x] true HW _ rfl (three_len _ _ _) _ rfl _ (by simp)).mono ?_; rintro e w' ⟨rfl, rfl⟩) | (go_at_call 23; refine (heights_lit [h] true HH _ rfl (one_len _) _ rfl _ (by simp)).mono ?_; rintro e w' ⟨rfl, rfl⟩))
            go_ret
            exact ⟨by rw [HR.out]; rfl, below_two _ _ _⟩
    · have HH : [h].any noHeight = !false := by simp [noHeight_true h2]
      have HR : Hid (sReveal o h a x = 0) := by rw [sReveal, if_neg (fun z => h2 z.2.2.2)]; exact rfl
      clear h2
      go_enter Try.func12, Try.ntmps12
      go_wp2_with (first | (go_at_call 22; refine (within_lit [o, a, x] true HW _ rfl (three_len _ _ _) _ rfl _ (by simp)).mono ?_; rintro e w' ⟨rfl, rfl⟩) | (go_at_call 23; refine (heights_lit [h] false HH _ rfl (one_len _) _ rfl _ (by simp)).mono ?_; rintro e w' ⟨rfl, rfl⟩))
      go_ret
      exact ⟨by rw [HR.out]; rfl, below_two _ _ _⟩
  · have HW : [o, a, x].any farZ = !false := by
      by_cases c : inZ o
      · by_cases d : inZ a
        · simp [far_true (fun b => h1 ⟨c, d, b⟩)]
        · simp [far_true d]
      · simp [far_true c]
    have HR : Hid (sReveal o h a x = 0) := by rw [sReveal, if_neg (fun z => h1 ⟨z.1, z.2.1, z.2.2.1⟩)]; exact rfl
    clear h1
    go_enter Try.func12, Try.ntmps12
    go_wp2_with (first | (go_at_call 22; refine (within_lit [o, a, x] false HW _ rfl (three_len _ _ _) _ rfl _ (by simp)).mono ?_; rintro e w' ⟨rfl, rfl⟩))
    go_ret
    exact ⟨by rw [HR.out]; rfl, below_one _ _⟩
end Go.Proofs.Ytchlnelpgjjmgaa
