/- Keep of package scroll at every input. -/
import Derived.Test.YtchlnelpgjjmgaaKeep
namespace Go.Proofs.Ytchlnelpgjjmgaa
open Go.RowKit Go.Maps

set_option maxHeartbeats 2000000 in
theorem keep_no1 (v u : Value) (old : List Strip) (o : Int) (w : World) (hv : IsStrips w v old) (hl : (decide (old.length ≤ 10000) && rowsOk old) = false) :
    Calls Try.prog 17 #[v, u, .int .i64 o] w (Gives 0 w) := by
  go_enter Try.func17, Try.ntmps17
  go_wp2_with fail
  refine (strips_any _ old _ hv).mono ?_
  rw [hl]
  rintro e w1 ⟨rfl, hb1⟩
  go_wp2
  go_ret
  exact ⟨rfl, hb1⟩

set_option maxHeartbeats 2000000 in
theorem keep_no2 (v u : Value) (old l : List Strip) (o : Int) (w : World) (hv : IsStrips w v old) (hu : IsStrips w u l) (ho : (decide (old.length ≤ 10000) && rowsOk old) = true) (hl : (decide (l.length ≤ 10000) && rowsOk l) = false) :
    Calls Try.prog 17 #[v, u, .int .i64 o] w (Gives 0 w) := by
  go_enter Try.func17, Try.ntmps17
  go_wp2_with fail
  refine (strips_any _ old _ hv).mono ?_
  rw [ho]
  rintro e w1 ⟨rfl, hb1⟩
  have HB1 := Lib.hid hb1
  have HU3 := Lib.hid (hu.of_below hb1)
  clear hb1
  go_wp2_with fail
  refine (strips_any _ l _ HU3.out).mono ?_
  rw [hl]
  rintro e w2 ⟨rfl, hb2⟩
  have hb12 := HB1.out.trans (hb2.mono HB1.out.size)
  have HB2 := Lib.hid hb12
  clear hb2 hb12
  go_wp2
  go_ret
  exact ⟨rfl, HB2.out⟩

set_option maxHeartbeats 2000000 in
theorem keep_no3 (v u : Value) (old l : List Strip) (o : Int) (w : World) (hv : IsStrips w v old) (hu : IsStrips w u l) (ho : (decide (old.length ≤ 10000) && rowsOk old) = true) (hl : (decide (l.length ≤ 10000) && rowsOk l) = true) (hi : ¬ inZ o) :
    Calls Try.prog 17 #[v, u, .int .i64 o] w (Gives 0 w) := by
  have HW : [o].any farZ = !false := by
    cases h : farZ o with
    | true => simp [h]
    | false => exact absurd ((far_iff o).1 h) hi
  go_enter Try.func17, Try.ntmps17
  go_wp2_with fail
  refine (strips_any _ old _ hv).mono ?_
  rw [ho]
  rintro e w1 ⟨rfl, hb1⟩
  have HB1 := Lib.hid hb1
  have HU3 := Lib.hid (hu.of_below hb1)
  clear hb1
  go_wp2_with fail
  refine (strips_any _ l _ HU3.out).mono ?_
  rw [hl]
  rintro e w2 ⟨rfl, hb2⟩
  have hb12 := HB1.out.trans (hb2.mono HB1.out.size)
  have HB2 := Lib.hid hb12
  clear hb2 hb12
  go_wp2_with (go_at_call 22; refine (within_lit [o] false HW _ rfl (one_len _) _ rfl _ (by simp)).mono ?_; rintro e w' ⟨rfl, rfl⟩)
  go_ret
  exact ⟨rfl, HB2.out.alloc HB2.out.size _⟩

open Classical in
noncomputable def keepA (old l : List Strip) (o : Int) : Int := if keepOk old l o then keepZ l old o else 0

theorem keep_any (v u : Value) (old l : List Strip) (o : Int) (w : World) (hv : IsStrips w v old) (hu : IsStrips w u l) (hko : keysOk old) (hkl : keysOk l) :
    Calls Try.prog 17 #[v, u, .int .i64 o] w (Gives (keepA old l o) w) := by
  by_cases h : keepOk old l o
  · rw [keepA, if_pos h]; exact keep_yes v u old l o w hv hu hko hkl h
  · rw [keepA, if_neg h]
    cases h1 : (decide (old.length ≤ 10000) && rowsOk old) with
    | false => exact keep_no1 v u old o w hv h1
    | true =>
      cases h2 : (decide (l.length ≤ 10000) && rowsOk l) with
      | false => exact keep_no2 v u old l o w hv hu h1 h2
      | true =>
        by_cases h3 : inZ o
        · exfalso
          apply h
          rw [Bool.and_eq_true, decide_eq_true_iff, rowsOk_iff] at h1 h2
          exact ⟨h1.1, h1.2, h2.1, h2.2, h3⟩
        · exact keep_no3 v u old l o w hv hu h1 h2 h3
end Go.Proofs.Ytchlnelpgjjmgaa
