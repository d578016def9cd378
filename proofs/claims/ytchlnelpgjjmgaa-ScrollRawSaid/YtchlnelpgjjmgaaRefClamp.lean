/- Clamp and Reveal of the reference. -/
import Derived.Test.YtchlnelpgjjmgaaRefVis
import Derived.Test.YtchlnelpgjjmgaaScrollR
import Derived.Test.YtchlnelpgjjmgaaClampR
namespace Go.Proofs.Ytchlnelpgjjmgaa
set_option linter.unusedVariables false
set_option linter.unusedSimpArgs false
open Go.RowKit

theorem dec_no {p : Prop} [Decidable p] (h : ¬ p) : false = decide p := by simp [h]
theorem dec_yes {p : Prop} [Decidable p] (h : p) : true = decide p := by simp [h]
/-- The call returns the number z and leaves the world alone. -/
def GivesS (z : Int) (w : World) (e : Ending) (w' : World) : Prop := e = .returned (.int .i64 z) ∧ w = w'

set_option maxHeartbeats 400000 in
theorem rsClamp_any (o c h : Int) (w : World) : Calls Try.prog 20 #[.int .i64 o, .int .i64 c, .int .i64 h] w (GivesS (sClamp o c h) w) := by
  by_cases h1 : inZ o
  · have D1 := Lib.hid (dec_yes h1)
    by_cases h2 : inZ c
    · have D2 := Lib.hid (dec_yes h2)
      by_cases h3 : heightZ h
      · have D3 := Lib.hid (dec_yes h3)
        by_cases h4 : h < c
        · have HR : Hid (sClamp o c h = clampZ o 0 (c - h)) := by rw [sClamp, if_pos ⟨h1, h2, h3, h4⟩]; exact rfl
          obtain ⟨o0, o1⟩ := h1
          obtain ⟨c0, c1⟩ := h2
          obtain ⟨k0, k1⟩ := h3
          go_enter Try.func20, Try.ntmps20
          go_wp2_with fail
          refine (rwithin_any _ true D1.out _).mono ?_
          rintro e w' ⟨rfl, rfl⟩
          go_wp2_with fail
          refine (rwithin_any _ true D2.out _).mono ?_
          rintro e w' ⟨rfl, rfl⟩
          go_wp2_with fail
          refine (rsize_any _ true D3.out _).mono ?_
          rintro e w' ⟨rfl, rfl⟩
          go_wp2_with fail
          refine (rclamp_any _ _ _ _).mono ?_
          rintro e w' ⟨rfl, rfl⟩
          go_wp2
          go_ret
          exact ⟨by rw [HR.out]; rfl, rfl⟩
        · have HR : Hid (sClamp o c h = 0) := by rw [sClamp, if_neg (fun z => h4 z.2.2.2)]; exact rfl
          clear h1 h2 h3
          go_enter Try.func20, Try.ntmps20
          go_wp2_with fail
          refine (rwithin_any _ true D1.out _).mono ?_
          rintro e w' ⟨rfl, rfl⟩
          go_wp2_with fail
          refine (rwithin_any _ true D2.out _).mono ?_
          rintro e w' ⟨rfl, rfl⟩
          go_wp2_with fail
          refine (rsize_any _ true D3.out _).mono ?_
          rintro e w' ⟨rfl, rfl⟩
          go_wp2
          go_ret
          exact ⟨by rw [HR.out]; rfl, rfl⟩
      · have D3 := Lib.hid (dec_no h3)
        have HR : Hid (sClamp o c h = 0) := by rw [sClamp, if_neg (fun z => h3 z.2.2.1)]; exact rfl
        clear h1 h2 h3
        go_enter Try.func20, Try.ntmps20
        go_wp2_with fail
        refine (rwithin_any _ true D1.out _).mono ?_
        rintro e w' ⟨rfl, rfl⟩
        go_wp2_with fail
        refine (rwithin_any _ true D2.out _).mono ?_
        rintro e w' ⟨rfl, rfl⟩
        go_wp2_with fail
        refine (rsize_any _ false D3.out _).mono ?_
        rintro e w' ⟨rfl, rfl⟩
        go_wp2
        go_ret
        exact ⟨by rw [HR.out]; rfl, rfl⟩
    · have D2 := Lib.hid (dec_no h2)
      have HR : Hid (sClamp o c h = 0) := by rw [sClamp, if_neg (fun z => h2 z.2.1)]; exact rfl
      clear h1 h2
      go_enter Try.func20, Try.ntmps20
      go_wp2_with fail
      refine (rwithin_any _ true D1.out _).mono ?_
      rintro e w' ⟨rfl, rfl⟩
      go_wp2_with fail
      refine (rwithin_any _ false D2.out _).mono ?_
      rintro e w' ⟨rfl, rfl⟩
      go_wp2
      go_ret
      exact ⟨by rw [HR.out]; rfl, rfl⟩
  · have D1 := Lib.hid (dec_no h1)
    have HR : Hid (sClamp o c h = 0) := by rw [sClamp, if_neg (fun z => h1 z.1)]; exact rfl
    clear h1
    go_enter Try.func20, Try.ntmps20
    go_wp2_with fail
    refine (rwithin_any _ false D1.out _).mono ?_
    rintro e w' ⟨rfl, rfl⟩
    go_wp2
    go_ret
    exact ⟨by rw [HR.out]; rfl, rfl⟩

set_option maxHeartbeats 800000 in
theorem rsReveal_yes (o h a x : Int) (w : World) (h1 : inZ o) (h2 : heightZ h) (h3 : inZ a) (h4 : inZ x) : Calls Try.prog 21 #[.int .i64 o, .int .i64 h, .int .i64 a, .int .i64 x] w (GivesS (sReveal o h a x) w) := by
  have D1 := Lib.hid (dec_yes h1)
  have D2 := Lib.hid (dec_yes h2)
  have D3 := Lib.hid (dec_yes h3)
  have D4 := Lib.hid (dec_yes h4)
  have h0 : sReveal o h a x = (if a < o ∨ h < x then a else if o + h < a + x then a + x - h else o) := by rw [sReveal, if_pos ⟨h1, h3, h4, h2⟩]
  obtain ⟨o0, o1⟩ := h1
  obtain ⟨k0, k1⟩ := h2
  obtain ⟨a0, a1⟩ := h3
  obtain ⟨x0, x1⟩ := h4
  by_cases c1 : a < o
  · have HR : Hid (sReveal o h a x = a) := by rw [h0, if_pos (.inl c1)]; exact rfl
    clear h0
    go_enter Try.func21, Try.ntmps21
    go_wp2_with (first | (go_at_call 26; refine (rwithin_any _ true (by first | exact D1.out | exact D3.out | exact D4.out) _).mono ?_; rintro e w' ⟨rfl, rfl⟩) | (go_at_call 27; refine (rsize_any _ true D2.out _).mono ?_; rintro e w' ⟨rfl, rfl⟩))
    go_ret
    exact ⟨by rw [HR.out]; rfl, rfl⟩
  · by_cases c2 : h < x
    · have HR : Hid (sReveal o h a x = a) := by rw [h0, if_pos (.inr c2)]; exact rfl
      clear h0
      go_enter Try.func21, Try.ntmps21
      go_wp2_with (first | (go_at_call 26; refine (rwithin_any _ true (by first | exact D1.out | exact D3.out | exact D4.out) _).mono ?_; rintro e w' ⟨rfl, rfl⟩) | (go_at_call 27; refine (rsize_any _ true D2.out _).mono ?_; rintro e w' ⟨rfl, rfl⟩))
      go_ret
      exact ⟨by rw [HR.out]; rfl, rfl⟩
    · by_cases c3 : o + h < a + x
      · have HR : Hid (sReveal o h a x = a + x - h) := by rw [h0, if_neg (by omega), if_pos c3]; exact rfl
        clear h0
        go_enter Try.func21, Try.ntmps21
        go_wp2_with (first | (go_at_call 26; refine (rwithin_any _ true (by first | exact D1.out | exact D3.out | exact D4.out) _).mono ?_; rintro e w' ⟨rfl, rfl⟩) | (go_at_call 27; refine (rsize_any _ true D2.out _).mono ?_; rintro e w' ⟨rfl, rfl⟩))
        go_ret
        exact ⟨by rw [HR.out]; rfl, rfl⟩
      · have HR : Hid (sReveal o h a x = o) := by rw [h0, if_neg (by omega), if_neg c3]; exact rfl
        clear h0
        go_enter Try.func21, Try.ntmps21
        go_wp2_with (first | (go_at_call 26; refine (rwithin_any _ true (by first | exact D1.out | exact D3.out | exact D4.out) _).mono ?_; rintro e w' ⟨rfl, rfl⟩) | (go_at_call 27; refine (rsize_any _ true D2.out _).mono ?_; rintro e w' ⟨rfl, rfl⟩))
        go_ret
        exact ⟨by rw [HR.out]; rfl, rfl⟩

set_option maxHeartbeats 800000 in
theorem rsReveal_any (o h a x : Int) (w : World) : Calls Try.prog 21 #[.int .i64 o, .int .i64 h, .int .i64 a, .int .i64 x] w (GivesS (sReveal o h a x) w) := by
  by_cases h1 : inZ o
  · by_cases h2 : heightZ h
    · by_cases h3 : inZ a
      · by_cases h4 : inZ x
        · exact rsReveal_yes o h a x w h1 h2 h3 h4
        · have HR : Hid (sReveal o h a x = 0) := by rw [sReveal, if_neg (fun z => h4 z.2.2.1)]; exact rfl
          have D1 := Lib.hid (dec_yes h1)
          have D2 := Lib.hid (dec_yes h2)
          have D3 := Lib.hid (dec_yes h3)
          have D4 := Lib.hid (dec_no h4)
          clear h1 h2 h3 h4
          go_enter Try.func21, Try.ntmps21
          go_wp2_with fail
          refine (rwithin_any _ true D1.out _).mono ?_
          rintro e w' ⟨rfl, rfl⟩
          go_wp2_with fail
          refine (rsize_any _ true D2.out _).mono ?_
          rintro e w' ⟨rfl, rfl⟩
          go_wp2_with fail
          refine (rwithin_any _ true D3.out _).mono ?_
          rintro e w' ⟨rfl, rfl⟩
          go_wp2_with fail
          refine (rwithin_any _ false D4.out _).mono ?_
          rintro e w' ⟨rfl, rfl⟩
          go_wp2
          go_ret
          exact ⟨by rw [HR.out]; rfl, rfl⟩
      · have HR : Hid (sReveal o h a x = 0) := by rw [sReveal, if_neg (fun z => h3 z.2.1)]; exact rfl
        have D1 := Lib.hid (dec_yes h1)
        have D2 := Lib.hid (dec_yes h2)
        have D3 := Lib.hid (dec_no h3)
        clear h1 h2 h3
        go_enter Try.func21, Try.ntmps21
        go_wp2_with fail
        refine (rwithin_any _ true D1.out _).mono ?_
        rintro e w' ⟨rfl, rfl⟩
        go_wp2_with fail
        refine (rsize_any _ true D2.out _).mono ?_
        rintro e w' ⟨rfl, rfl⟩
        go_wp2_with fail
        refine (rwithin_any _ false D3.out _).mono ?_
        rintro e w' ⟨rfl, rfl⟩
        go_wp2
        go_ret
        exact ⟨by rw [HR.out]; rfl, rfl⟩
    · have HR : Hid (sReveal o h a x = 0) := by rw [sReveal, if_neg (fun z => h2 z.2.2.2)]; exact rfl
      have D1 := Lib.hid (dec_yes h1)
      have D2 := Lib.hid (dec_no h2)
      clear h1 h2
      go_enter Try.func21, Try.ntmps21
      go_wp2_with fail
      refine (rwithin_any _ true D1.out _).mono ?_
      rintro e w' ⟨rfl, rfl⟩
      go_wp2_with fail
      refine (rsize_any _ false D2.out _).mono ?_
      rintro e w' ⟨rfl, rfl⟩
      go_wp2
      go_ret
      exact ⟨by rw [HR.out]; rfl, rfl⟩
  · have HR : Hid (sReveal o h a x = 0) := by rw [sReveal, if_neg (fun z => h1 z.1)]; exact rfl
    have D1 := Lib.hid (dec_no h1)
    clear h1
    go_enter Try.func21, Try.ntmps21
    go_wp2_with fail
    refine (rwithin_any _ false D1.out _).mono ?_
    rintro e w' ⟨rfl, rfl⟩
    go_wp2
    go_ret
    exact ⟨by rw [HR.out]; rfl, rfl⟩
end Go.Proofs.Ytchlnelpgjjmgaa
