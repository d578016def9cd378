/- The walk of the law ScrollClamps. -/
import Derived.Test.YtchlnelpgjjmgaaAwake23
import Derived.Test.YtchlnelpgjjmgaaBits
namespace Go.Proofs.Ytchlnelpgjjmgaa
open Go.RowKit

theorem sClamp_eq {o c h : Int} (ho : inZ o) (hc : inZ c) (hh : heightZ h) : sClamp o c h = if h < c then clampZ o 0 (c - h) else 0 := by
  unfold sClamp
  by_cases d : h < c
  · rw [if_pos ⟨ho, hc, hh, d⟩, if_pos d]
  · rw [if_neg (fun z => d z.2.2.2), if_neg d]
/-- What the law asks. -/
theorem clamps_facts {o c h n : Int} (ho : -100000 < o ∧ o < 100000) (hc : 0 ≤ c ∧ c < 65536) (hh : 0 ≤ h ∧ h < 65536) (hn : n = sClamp o c h) :
    sClamp n c h = n ∧ 0 ≤ n ∧ (c ≤ h → n = 0) ∧ (h < c → n + h ≤ c) ∧ n ≤ 65536 ∧ (0 ≤ o → h < c → o + h ≤ c → n = o) := by
  have a1 : inZ o := ⟨by omega, by omega⟩
  have a2 : inZ c := ⟨by omega, by omega⟩
  have a3 : heightZ h := ⟨by omega, by omega⟩
  rw [sClamp_eq a1 a2 a3] at hn
  have hr : inZ n → sClamp n c h = if h < c then clampZ n 0 (c - h) else 0 := fun a => sClamp_eq a a2 a3
  by_cases d : h < c
  · rw [if_pos d] at hn hr
    have hb : 0 ≤ n ∧ n ≤ c - h ∧ (0 ≤ o → o + h ≤ c → n = o) := by
      rw [hn]; unfold clampZ
      split
      · omega
      · split <;> omega
    refine ⟨?_, by omega, by omega, by omega, by omega, fun h1 _ h3 => hb.2.2 h1 h3⟩
    rw [hr ⟨by omega, by omega⟩]
    unfold clampZ
    rw [if_neg (by omega), if_neg (by omega)]
  · rw [if_neg d] at hn hr
    refine ⟨?_, by omega, by omega, by omega, by omega, by omega⟩
    rw [hr ⟨by omega, by omega⟩, hn]

set_option maxHeartbeats 800000 in
theorem clamps_core (v0 v1 v2 o c h n : Int) (w : World) (e0 : v0.tmod 100000 = o) (e1 : bits .and .i64 v1 65535 = c) (e2 : bits .and .i64 v2 65535 = h)
    (ho : -100000 < o ∧ o < 100000) (hc : 0 ≤ c ∧ c < 65536) (hh : 0 ≤ h ∧ h < 65536) (HN : Hid (sClamp o c h = n)) (HM : Hid (sClamp n c h = n)) (n0 : 0 ≤ n) (n1 : n ≤ 65536)
    (n2 : c ≤ h → n = 0) (n3 : h < c → n + h ≤ c) (n4 : 0 ≤ o → h < c → o + h ≤ c → n = o) :
    Calls Try.prog 3 #[.int .i64 v0, .int .i64 v1, .int .i64 v2] w (True_ w) := by
  by_cases d : h < c
  · have m3 := n3 d
    have m4 := fun a b => n4 a d b
    clear n2 n3 n4
    by_cases q : o < 0
    · clear m4
      go_enter Try.func3, Try.ntmps3
      go_wp2_with fail
      refine (sClamp_any _ _ _ _).mono ?_
      rw [HN.out]
      rintro e w1 ⟨rfl, hb1⟩
      go_wp2_with fail
      refine (sClamp_any _ _ _ _).mono ?_
      rw [HM.out]
      rintro e w2 ⟨rfl, hb2⟩
      go_wp2_with fail
      refine (awake_any _).mono ?_
      rintro e w3 ⟨rfl, hb3⟩
      go_wp2
      go_ret
      exact ⟨rfl, (hb1.trans (hb2.mono hb1.size)).trans (hb3.mono (Nat.le_trans hb1.size hb2.size))⟩
    · by_cases q2 : c < o + h
      · clear m4
        go_enter Try.func3, Try.ntmps3
        go_wp2_with fail
        refine (sClamp_any _ _ _ _).mono ?_
        rw [HN.out]
        rintro e w1 ⟨rfl, hb1⟩
        go_wp2_with fail
        refine (sClamp_any _ _ _ _).mono ?_
        rw [HM.out]
        rintro e w2 ⟨rfl, hb2⟩
        go_wp2_with fail
        refine (awake_any _).mono ?_
        rintro e w3 ⟨rfl, hb3⟩
        go_wp2
        go_ret
        exact ⟨rfl, (hb1.trans (hb2.mono hb1.size)).trans (hb3.mono (Nat.le_trans hb1.size hb2.size))⟩
      · have m5 := m4 (by omega) (by omega)
        clear m4
        subst m5
        go_enter Try.func3, Try.ntmps3
        go_wp2_with fail
        refine (sClamp_any _ _ _ _).mono ?_
        rw [HN.out]
        rintro e w1 ⟨rfl, hb1⟩
        go_wp2_with fail
        refine (sClamp_any _ _ _ _).mono ?_
        rw [HM.out]
        rintro e w2 ⟨rfl, hb2⟩
        go_wp2_with fail
        refine (awake_any _).mono ?_
        rintro e w3 ⟨rfl, hb3⟩
        go_wp2
        go_ret
        exact ⟨rfl, (hb1.trans (hb2.mono hb1.size)).trans (hb3.mono (Nat.le_trans hb1.size hb2.size))⟩
  · have m0 := n2 (by omega)
    clear n2 n3 n4
    subst m0
    by_cases q : o < 0
    · skip
      go_enter Try.func3, Try.ntmps3
      go_wp2_with fail
      refine (sClamp_any _ _ _ _).mono ?_
      rw [HN.out]
      rintro e w1 ⟨rfl, hb1⟩
      go_wp2_with fail
      refine (sClamp_any _ _ _ _).mono ?_
      rw [HM.out]
      rintro e w2 ⟨rfl, hb2⟩
      go_wp2_with fail
      refine (awake_any _).mono ?_
      rintro e w3 ⟨rfl, hb3⟩
      go_wp2
      go_ret
      exact ⟨rfl, (hb1.trans (hb2.mono hb1.size)).trans (hb3.mono (Nat.le_trans hb1.size hb2.size))⟩
    · skip
      go_enter Try.func3, Try.ntmps3
      go_wp2_with fail
      refine (sClamp_any _ _ _ _).mono ?_
      rw [HN.out]
      rintro e w1 ⟨rfl, hb1⟩
      go_wp2_with fail
      refine (sClamp_any _ _ _ _).mono ?_
      rw [HM.out]
      rintro e w2 ⟨rfl, hb2⟩
      go_wp2_with fail
      refine (awake_any _).mono ?_
      rintro e w3 ⟨rfl, hb3⟩
      go_wp2
      go_ret
      exact ⟨rfl, (hb1.trans (hb2.mono hb1.size)).trans (hb3.mono (Nat.le_trans hb1.size hb2.size))⟩

theorem walk_ScrollClamps (u0 : Value) (v0 : Int) (u1 : Value) (v1 : Int) (u2 : Value) (v2 : Int) (w : World)
    (h0 : u0 = .int .i64 v0 ∧ (Lit.int .i64 v0).wf = true) (h1 : u1 = .int .i64 v1 ∧ (Lit.int .i64 v1).wf = true) (h2 : u2 = .int .i64 v2 ∧ (Lit.int .i64 v2).wf = true) :
    Calls Try.prog 3 #[u0, u1, u2] w (True_ w) := by
  obtain ⟨rfl, -⟩ := h0
  obtain ⟨rfl, -⟩ := h1
  obtain ⟨rfl, -⟩ := h2
  have ho := tmod_range v0 100000 (by omega)
  have hc : 0 ≤ v1 % 65536 ∧ v1 % 65536 < 65536 := by omega
  have hh : 0 ≤ v2 % 65536 ∧ v2 % 65536 < 65536 := by omega
  obtain ⟨f1, f2, f3, f4, f5, f6⟩ := clamps_facts (n := sClamp (v0.tmod 100000) (v1 % 65536) (v2 % 65536)) ho hc hh rfl
  exact clamps_core v0 v1 v2 _ _ _ _ w rfl (and_65535 v1) (and_65535 v2) ho hc hh rfl f1 f2 f5 f3 f4 f6
end Go.Proofs.Ytchlnelpgjjmgaa
