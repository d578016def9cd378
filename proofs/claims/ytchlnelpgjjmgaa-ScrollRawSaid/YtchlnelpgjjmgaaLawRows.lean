/- The walk of the law ScrollRows. -/
import Derived.Test.YtchlnelpgjjmgaaShort
import Derived.Test.YtchlnelpgjjmgaaOpenStrips
import Derived.Test.YtchlnelpgjjmgaaKeepAny
import Derived.Test.YtchlnelpgjjmgaaRefKeep
import Derived.Test.YtchlnelpgjjmgaaRefVisible
namespace Go.Proofs.Ytchlnelpgjjmgaa
set_option linter.unusedVariables false
set_option linter.unusedSimpArgs false
open Go.RowKit

theorem shortKey_size (s : ByteArray) : (shortKey s).size ≤ s.size := by
  unfold shortKey
  by_cases c : 1 < s.size
  · rw [if_pos c]; simp; omega
  · rw [if_neg c]; omega
theorem keysOk_short (l : List Strip) (hk : keysOk l) : keysOk (shortL l) := by
  intro j
  by_cases c : j < 60
  · have e : gk (shortL l) j = shortKey (gk l j) := by
      simp only [gk, shortL, shortTo, List.getD_eq_getElem?_getD, List.getElem?_map, List.getElem?_take, c, if_true]
      cases h : l[j]? with
      | none => simp [shortKey, ByteArray.size]
      | some s => simp [shortS]
    have := shortKey_size (gk l j)
    have := hk j
    rw [e]; omega
  · have e : gk (shortL l) j = ByteArray.empty := by
      simp [gk, shortL, shortTo, List.getElem?_take, c]
    rw [e]; unfold maxLen; simp
theorem keysOk_in {w : World} {v : Value} {l : List Strip} (h : InStrips w v l) : keysOk l := by
  intro j
  simp only [gk, List.getD_eq_getElem?_getD]
  cases hj : l[j]? with
  | none => simp [maxLen]
  | some s => exact (h.2 s (List.mem_of_getElem? hj)).2.2

theorem rkeep_all (v u : Value) (old l : List Strip) (o : Int) (w : World) (hv : IsStrips w v old) (hu : IsStrips w u l) :
    Calls Try.prog 18 #[v, u, .int .i64 o] w (Gives (keepA old l o) w) := by
  by_cases h : keepOk old l o
  · rw [keepA, if_pos h]; exact (rkeep_any v u old l o w hv hu).1 h
  · rw [keepA, if_neg h]; exact (rkeep_any v u old l o w hv hu).2 h

open Classical in
/-- The two numbers of Visible. -/
noncomputable def visP (l : List Strip) (o h : Int) : Nat × Nat := if visOk l o h then (visF l o, visL l o h) else (0, 0)
theorem visible_all (v : Value) (l : List Strip) (o h : Int) (w : World) (hv : IsStrips w v l) :
    Calls Try.prog 14 #[v, .int .i64 o, .int .i64 h] w (Gives2 (visP l o h).1 (visP l o h).2 w) := by
  by_cases c : visOk l o h
  · rw [visP, if_pos c]; exact (visible_any v l o h w hv).1 c
  · rw [visP, if_neg c]; exact (visible_any v l o h w hv).2 c
theorem rvisible_all (v : Value) (l : List Strip) (o h : Int) (w : World) (hv : IsStrips w v l) :
    Calls Try.prog 16 #[v, .int .i64 o, .int .i64 h] w (Gives2 (visP l o h).1 (visP l o h).2 w) := by
  by_cases c : visOk l o h
  · rw [visP, if_pos c]; exact (rvisible_any v l o h w hv).1 c
  · rw [visP, if_neg c]; exact (rvisible_any v l o h w hv).2 c

set_option maxHeartbeats 2000000 in
set_option maxRecDepth 100000 in
theorem rows_core (v u : Value) (l m : List Strip) (v1 v2 o h : Int) (w : World) (hv : IsStrips w v l) (hu : IsStrips w u m) (hkl : keysOk l) (hkm : keysOk m) (e1 : v1.tmod 2000 = o) (e2 : bits .and .i64 v2 255 = h) :
    Calls Try.prog 7 #[v, u, .int .i64 v1, .int .i64 v2] w (True_ w) := by
  have HKL := Lib.hid (keysOk_short l hkl)
  have HKM := Lib.hid (keysOk_short m hkm)
  have HV := Lib.hid hv
  have HU := Lib.hid hu
  obtain ⟨p, hp⟩ : ∃ p, (visP (shortL l) o h).1 = p := ⟨_, rfl⟩
  obtain ⟨q, hq⟩ : ∃ q, (visP (shortL l) o h).2 = q := ⟨_, rfl⟩
  have HP := Lib.hid hp
  have HQ := Lib.hid hq
  obtain ⟨z, hz⟩ : ∃ z, keepA (shortL l) (shortL m) o = z := ⟨_, rfl⟩
  have HZ := Lib.hid hz
  clear hv hu hkl hkm hp hq hz
  go_enter Try.func7, Try.ntmps7
  go_wp2_with fail
  refine (short_any _ l _ HV.out).mono ?_
  rintro e w1 ⟨x, rfl, hx, hb1⟩
  have HX1 := Lib.hid hx
  have HB1 := Lib.hid hb1
  have HU1 := Lib.hid (HU.out.of_below hb1)
  clear hx hb1
  go_wp2_with fail
  refine (short_any _ m _ HU1.out).mono ?_
  rintro e w2 ⟨y, rfl, hy, hb2⟩
  have HX2 := Lib.hid (HX1.out.of_below hb2)
  have HY2 := Lib.hid hy
  have HB2 := Lib.hid (HB1.out.trans (hb2.mono HB1.out.size))
  clear hy hb2
  go_wp2_with fail
  refine (visible_all _ (shortL l) _ _ _ HX2.out).mono ?_
  rw [HP.out, HQ.out]
  rintro e w3 ⟨rfl, hb3⟩
  have HX3 := Lib.hid (HX2.out.of_below hb3)
  have HY3 := Lib.hid (HY2.out.of_below hb3)
  have HB3 := Lib.hid (HB2.out.trans (hb3.mono HB2.out.size))
  clear hb3
  go_wp2_with fail
  refine (rvisible_all _ (shortL l) _ _ _ HX3.out).mono ?_
  rw [HP.out, HQ.out]
  rintro e w4 ⟨rfl, hb4⟩
  have HX4 := Lib.hid (HX3.out.of_below hb4)
  have HY4 := Lib.hid (HY3.out.of_below hb4)
  have HB4 := Lib.hid (HB3.out.trans (hb4.mono HB3.out.size))
  clear hb4
  go_wp2_with fail
  refine (keep_any _ _ (shortL l) (shortL m) _ _ HX4.out HY4.out HKL.out HKM.out).mono ?_
  rw [HZ.out]
  rintro e w5 ⟨rfl, hb5⟩
  have HX5 := Lib.hid (HX4.out.of_below hb5)
  have HY5 := Lib.hid (HY4.out.of_below hb5)
  have HB5 := Lib.hid (HB4.out.trans (hb5.mono HB4.out.size))
  clear hb5
  go_wp2_with fail
  refine (rkeep_all _ _ (shortL l) (shortL m) _ _ HX5.out HY5.out).mono ?_
  rw [HZ.out]
  rintro e w6 ⟨rfl, hb6⟩
  have HB6 := Lib.hid (HB5.out.trans (hb6.mono HB5.out.size))
  clear hb6
  go_wp2_with (go_at_call 11; refine (awake_any _).mono ?_; rintro e w7 ⟨rfl, hb7⟩)
  go_ret
  exact ⟨rfl, HB6.out.trans (hb7.mono HB6.out.size)⟩

theorem walk_ScrollRows (v : Value) (l : List Strip) (u : Value) (m : List Strip) (u1 : Value) (v1 : Int) (u2 : Value) (v2 : Int) (w : World) (hv : InStrips w v l) (hu : InStrips w u m)
    (h1 : u1 = .int .i64 v1 ∧ (Lit.int .i64 v1).wf = true) (h2 : u2 = .int .i64 v2 ∧ (Lit.int .i64 v2).wf = true) :
    Calls Try.prog 7 #[v, u, u1, u2] w (True_ w) := by
  obtain ⟨rfl, -⟩ := h1
  obtain ⟨rfl, -⟩ := h2
  exact rows_core v u l m v1 v2 _ _ w hv.1 hu.1 (keysOk_in hv) (keysOk_in hu) rfl rfl
end Go.Proofs.Ytchlnelpgjjmgaa
