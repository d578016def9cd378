/- The walk of the law ScrollReveals. -/
import Derived.Test.YtchlnelpgjjmgaaAwake23
import Derived.Test.YtchlnelpgjjmgaaBits
namespace Go.Proofs.Ytchlnelpgjjmgaa
open Go.RowKit

theorem sReveal_eq {o h a x : Int} (ho : inZ o) (hh : heightZ h) (ha : inZ a) (hx : inZ x) : sReveal o h a x = if a < o ∨ h < x then a else if o + h < a + x then a + x - h else o := by
  rw [sReveal, if_pos ⟨ho, ha, hx, hh⟩]
/-- What the law asks. -/
theorem reveals_facts {o h a x n : Int} (ho : -100000 < o ∧ o < 100000) (hh : 0 ≤ h ∧ h < 4096) (ha : -100000 < a ∧ a < 100000) (hx : 0 ≤ x ∧ x < 4096) (hn : n = sReveal o h a x) :
    sReveal n h a x = n ∧ -200000 ≤ n ∧ n ≤ 200000 ∧ (h < x → n = a) ∧ (x ≤ h → n ≤ a ∧ a + x ≤ n + h ∧ ((o ≤ a ∧ a + x ≤ o + h ∧ n = o) ∨ (¬ (o ≤ a ∧ a + x ≤ o + h) ∧ (n = a ∨ n = a + x - h)))) := by
  have a1 : inZ o := ⟨by omega, by omega⟩
  have a2 : inZ a := ⟨by omega, by omega⟩
  have a3 : heightZ h := ⟨by omega, by omega⟩
  have a4 : inZ x := ⟨by omega, by omega⟩
  rw [sReveal_eq a1 a3 a2 a4] at hn
  have hr : inZ n → sReveal n h a x = if a < n ∨ h < x then a else if n + h < a + x then a + x - h else n := fun b => sReveal_eq b a3 a2 a4
  have hb : -200000 ≤ n ∧ n ≤ 200000 := by
    rw [hn]; split
    · omega
    · split <;> omega
  rw [hr ⟨by omega, by omega⟩]
  by_cases c1 : h < x
  · rw [if_pos (.inr c1)] at hn ⊢
    exact ⟨hn.symm, hb.1, hb.2, fun _ => hn, fun h => by omega⟩
  · by_cases c2 : a < o
    · rw [if_pos (.inl c2)] at hn
      rw [if_neg (by omega), if_neg (by omega)]
      exact ⟨rfl, hb.1, hb.2, fun h => by omega, fun _ => ⟨by omega, by omega, .inr ⟨by omega, .inl hn⟩⟩⟩
    · rw [if_neg (by omega)] at hn
      by_cases c3 : o + h < a + x
      · rw [if_pos c3] at hn
        rw [if_neg (by omega), if_neg (by omega)]
        exact ⟨rfl, hb.1, hb.2, fun h => by omega, fun _ => ⟨by omega, by omega, .inr ⟨by omega, .inr hn⟩⟩⟩
      · rw [if_neg c3] at hn
        rw [if_neg (by omega), if_neg (by omega)]
        exact ⟨rfl, hb.1, hb.2, fun h => by omega, fun _ => ⟨by omega, by omega, .inl ⟨by omega, by omega, hn⟩⟩⟩

set_option maxHeartbeats 1600000 in
theorem reveals_core (v0 v1 v2 v3 o h a x n : Int) (w : World) (e0 : v0.tmod 100000 = o) (e1 : bits .and .i64 v1 4095 = h) (e2 : v2.tmod 100000 = a) (e3 : bits .and .i64 v3 4095 = x)
    (ho : -100000 < o ∧ o < 100000) (hh : 0 ≤ h ∧ h < 4096) (ha : -100000 < a ∧ a < 100000) (hx : 0 ≤ x ∧ x < 4096) (HN : Hid (sReveal o h a x = n)) (HM : Hid (sReveal n h a x = n)) (n0 : -200000 ≤ n) (n1 : n ≤ 200000)
    (n2 : h < x → n = a) (n3 : x ≤ h → n ≤ a ∧ a + x ≤ n + h ∧ ((o ≤ a ∧ a + x ≤ o + h ∧ n = o) ∨ (¬ (o ≤ a ∧ a + x ≤ o + h) ∧ (n = a ∨ n = a + x - h)))) :
    Calls Try.prog 4 #[.int .i64 v0, .int .i64 v1, .int .i64 v2, .int .i64 v3] w (True_ w) := by
  by_cases d : h < x
  · have m0 := n2 d
    clear n2 n3
    subst m0
    go_enter Try.func4, Try.ntmps4
    go_wp2_with fail
    refine (sReveal_any _ _ _ _ _).mono ?_
    rw [HN.out]
    rintro e w1 ⟨rfl, hb1⟩
    go_wp2_with fail
    refine (sReveal_any _ _ _ _ _).mono ?_
    rw [HM.out]
    rintro e w2 ⟨rfl, hb2⟩
    go_wp2_with fail
    refine (awake_any _).mono ?_
    rintro e w3 ⟨rfl, hb3⟩
    go_wp2
    go_ret
    exact ⟨rfl, (hb1.trans (hb2.mono hb1.size)).trans (hb3.mono (Nat.le_trans hb1.size hb2.size))⟩
  · obtain ⟨m1, m2, m3⟩ := n3 (by omega)
    clear n2 n3
    rcases m3 with ⟨k1, k2, k3⟩ | ⟨k1, k2⟩
    · subst k3
      go_enter Try.func4, Try.ntmps4
      go_wp2_with fail
      refine (sReveal_any _ _ _ _ _).mono ?_
      rw [HN.out]
      rintro e w1 ⟨rfl, hb1⟩
      go_wp2_with fail
      refine (sReveal_any _ _ _ _ _).mono ?_
      rw [HM.out]
      rintro e w2 ⟨rfl, hb2⟩
      go_wp2_with fail
      refine (awake_any _).mono ?_
      rintro e w3 ⟨rfl, hb3⟩
      go_wp2
      go_ret
      exact ⟨rfl, (hb1.trans (hb2.mono hb1.size)).trans (hb3.mono (Nat.le_trans hb1.size hb2.size))⟩
    · have hne : (n == n) = true := by simp
      by_cases q : o ≤ a
      · have q2 : o + h < a + x := by omega
        clear k1
        replace k2 : n = a ∨ (n ≠ a ∧ n = a + x - h) := by omega
        rcases k2 with k2 | ⟨k3, k2⟩
        · subst k2
          go_enter Try.func4, Try.ntmps4
          go_wp2_with fail
          refine (sReveal_any _ _ _ _ _).mono ?_
          rw [HN.out]
          rintro e w1 ⟨rfl, hb1⟩
          go_wp2_with fail
          refine (sReveal_any _ _ _ _ _).mono ?_
          rw [HM.out]
          rintro e w2 ⟨rfl, hb2⟩
          go_wp2_with fail
          refine (awake_any _).mono ?_
          rintro e w3 ⟨rfl, hb3⟩
          go_wp2
          go_ret
          exact ⟨rfl, (hb1.trans (hb2.mono hb1.size)).trans (hb3.mono (Nat.le_trans hb1.size hb2.size))⟩
        · have z : (n == a + x - h) = true := by simp [k2]
          have z3 : (n == a) = false := by simpa using k3
          clear k3
          clear k2
          go_enter Try.func4, Try.ntmps4
          go_wp2_with fail
          refine (sReveal_any _ _ _ _ _).mono ?_
          rw [HN.out]
          rintro e w1 ⟨rfl, hb1⟩
          go_wp2_with fail
          refine (sReveal_any _ _ _ _ _).mono ?_
          rw [HM.out]
          rintro e w2 ⟨rfl, hb2⟩
          go_wp2_with fail
          refine (awake_any _).mono ?_
          rintro e w3 ⟨rfl, hb3⟩
          go_wp2
          go_ret
          exact ⟨rfl, (hb1.trans (hb2.mono hb1.size)).trans (hb3.mono (Nat.le_trans hb1.size hb2.size))⟩
      · have q2 : a < o := by omega
        clear k1 q
        replace k2 : n = a ∨ (n ≠ a ∧ n = a + x - h) := by omega
        rcases k2 with k2 | ⟨k3, k2⟩
        · subst k2
          go_enter Try.func4, Try.ntmps4
          go_wp2_with fail
          refine (sReveal_any _ _ _ _ _).mono ?_
          rw [HN.out]
          rintro e w1 ⟨rfl, hb1⟩
          go_wp2_with fail
          refine (sReveal_any _ _ _ _ _).mono ?_
          rw [HM.out]
          rintro e w2 ⟨rfl, hb2⟩
          go_wp2_with fail
          refine (awake_any _).mono ?_
          rintro e w3 ⟨rfl, hb3⟩
          go_wp2
          go_ret
          exact ⟨rfl, (hb1.trans (hb2.mono hb1.size)).trans (hb3.mono (Nat.le_trans hb1.size hb2.size))⟩
        · have z : (n == a + x - h) = true := by simp [k2]
          have z3 : (n == a) = false := by simpa using k3
          clear k3
          clear k2
          go_enter Try.func4, Try.ntmps4
          go_wp2_with fail
          refine (sReveal_any _ _ _ _ _).mono ?_
          rw [HN.out]
          rintro e w1 ⟨rfl, hb1⟩
          go_wp2_with fail
          refine (sReveal_any _ _ _ _ _).mono ?_
          rw [HM.out]
          rintro e w2 ⟨rfl, hb2⟩
          go_wp2_with fail
          refine (awake_any _).mono ?_
          rintro e w3 ⟨rfl, hb3⟩
          go_wp2
          go_ret
          exact ⟨rfl, (hb1.trans (hb2.mono hb1.size)).trans (hb3.mono (Nat.le_trans hb1.size hb2.size))⟩

theorem walk_ScrollReveals (u0 : Value) (v0 : Int) (u1 : Value) (v1 : Int) (u2 : Value) (v2 : Int) (u3 : Value) (v3 : Int) (w : World)
    (h0 : u0 = .int .i64 v0 ∧ (Lit.int .i64 v0).wf = true) (h1 : u1 = .int .i64 v1 ∧ (Lit.int .i64 v1).wf = true) (h2 : u2 = .int .i64 v2 ∧ (Lit.int .i64 v2).wf = true) (h3 : u3 = .int .i64 v3 ∧ (Lit.int .i64 v3).wf = true) :
    Calls Try.prog 4 #[u0, u1, u2, u3] w (True_ w) := by
  obtain ⟨rfl, -⟩ := h0
  obtain ⟨rfl, -⟩ := h1
  obtain ⟨rfl, -⟩ := h2
  obtain ⟨rfl, -⟩ := h3
  have ho := tmod_range v0 100000 (by omega)
  have ha := tmod_range v2 100000 (by omega)
  have hh : 0 ≤ v1 % 4096 ∧ v1 % 4096 < 4096 := by omega
  have hx : 0 ≤ v3 % 4096 ∧ v3 % 4096 < 4096 := by omega
  obtain ⟨f1, f2, f3, f4, f5⟩ := reveals_facts (n := sReveal (v0.tmod 100000) (v1 % 4096) (v2.tmod 100000) (v3 % 4096)) ho hh ha hx rfl
  exact reveals_core v0 v1 v2 v3 _ _ _ _ _ w rfl (and_4095 v1) rfl (and_4095 v3) ho hh ha hx rfl f1 f2 f3 f4 f5
end Go.Proofs.Ytchlnelpgjjmgaa
