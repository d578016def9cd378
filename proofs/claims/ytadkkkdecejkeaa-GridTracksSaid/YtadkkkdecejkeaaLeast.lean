/- Least and Most of package grid and of its reference: for all arguments. -/
import Derived.Test.YtadkkkdecejkeaaRCheck
import Derived.Test.YtadkkkdecejkeaaRDems
import Derived.Test.YtadkkkdecejkeaaTrkPlainB
import Derived.Test.YtadkkkdecejkeaaSumR
namespace Go.Proofs.Ytadkkkdecejkeaa
open Go.RowKit
attribute [local go_sem ↓] Go.wp_at_zero Go.wp_at_succ
set_option linter.unusedVariables false
set_option linter.unusedSimpArgs false

theorem demands_of (a ia : Option Addr) (cap n icap q : Nat) (av gp : Int) (l it : List Rec) (w : World) (HN : Hid (l.length = n)) (HQ : Hid (it.length = q)) (hv : IsRecs 2 w (.slice a n cap) l) (hi : IsRecs 4 w (.slice ia q icap) it) (hE : gErr av gp l it = 0) :
    Calls Try.prog 29 #[.int .i64 gp, .slice a n cap, .slice ia q icap] w (Demanded n (leastL l it gp) (mostL l it gp) w) ∧ Calls Try.prog 34 #[.int .i64 gp, .slice a n cap, .slice ia q icap] w (Demanded n (leastL l it gp) (mostL l it gp) w) := by
  obtain ⟨e1, e2, e3, e4, e5, e6⟩ := gErr_ok hE
  rw [HN.out] at e1 e6
  rw [HQ.out] at e2
  obtain ⟨a', cap', k1, _, _, k3⟩ := hv
  obtain ⟨ia', icap', g1, _, _, g3⟩ := hi
  simp only [Value.slice.injEq] at k1 g1
  obtain ⟨rfl, _, rfl⟩ := k1
  obtain ⟨rfl, _, rfl⟩ := g1
  rw [HN.out] at k3
  rw [HQ.out] at g3
  exact ⟨demands_any a ia cap n icap q gp l it w HN e1 HQ e2 (lenB_iff.1 e4) (Lib.hid e5) (Lib.hid e6) (Lib.hid k3) (Lib.hid g3),
    rdemands_any a ia cap n icap q gp l it w HN e1 HQ e2 (lenB_iff.1 e4) (Lib.hid e5) (Lib.hid e6) (Lib.hid k3) (Lib.hid g3)⟩
theorem sizes_sum {s : List Int} {n : Nat} (h : szTo s 134217728) (hn : s.length = n) (h24 : n ≤ 24) : ∀ k, k ≤ s.length → -4611686018427387904 ≤ sumTo s k ∧ sumTo s k ≤ 4611686018427387904 := fun k hk => by
  have := szTo_sum h k hk
  omega

set_option maxHeartbeats 4000000 in
set_option maxRecDepth 100000 in
theorem least_any (v vi : Value) (gp : Int) (l it : List Rec) (w : World) (hv : IsRecs 2 w v l) (hi : InRecs 4 w vi it) :
    Calls Try.prog 18 #[.int .i64 gp, v, vi] w (Errs (leastS gp l it) w) := by
  have HV := Lib.hid hv
  have HI := Lib.hid hi
  obtain ⟨a, cap, rfl, h1, h2, -⟩ := hv
  obtain ⟨⟨ia, icap, rfl, g1, g2, -⟩, -⟩ := hi
  obtain ⟨n, hn⟩ : ∃ n, l.length = n := ⟨_, rfl⟩
  obtain ⟨q, hq⟩ : ∃ q, it.length = q := ⟨_, rfl⟩
  have HN := Lib.hid hn
  have HQ := Lib.hid hq
  rw [hn] at h1 HV ⊢
  rw [hq] at g1 HI ⊢
  clear hn hq
  by_cases hE : gErr 0 gp l it = 0
  · have HE := Lib.hid hE
    have HR : Hid (leastS gp l it = sumTo (leastL l it gp) n + gp * ((n - 1 : Nat) : Int)) := by show _ = _; unfold leastS; rw [if_pos hE, HN.out]
    obtain ⟨e1, e2, e3, e4, e5, e6⟩ := gErr_ok hE
    rw [HN.out] at e1
    have hgp := lenB_iff.1 e4
    have HSZ : Hid (Sizes n (leastL l it gp) (mostL l it gp)) := by
      have h := sizes_of (gp := gp) hgp (by rw [HN.out]; exact e1) e2 e5 e6
      rw [HN.out] at h; exact h
    have hsb := szTo_sum HSZ.out.lb n (by rw [HSZ.out.l]; exact Nat.le_refl _)
    have hn' : (n : Int) ≤ 24 := by omega
    obtain ⟨S, hS⟩ : ∃ S, sumTo (leastL l it gp) n = S := ⟨_, rfl⟩
    have HS := Lib.hid hS
    rw [hS] at hsb HR
    clear hE hS e2 e3 e4 e5 e6
    go_enter Try.func18, Try.ntmps18
    go_wp2_with fail
    refine (gvalid_any _ _ 0 gp l it _ HV.out HI.out).mono ?_
    rw [HE.out]
    rintro e w1 ⟨rfl, hb1⟩
    have HV1 := Lib.hid (HV.out.of_below hb1)
    have HI1 := Lib.hid (HI.out.1.of_below hb1)
    have HB1 := Lib.hid hb1
    clear hb1
    go_wp2_with fail
    refine (demands_of a ia cap n icap q 0 gp l it _ HN HQ HV1.out HI1.out HE.out).1.mono ?_
    rintro e w2 ⟨L, M, rfl, hL, hM, hne, hl0, hm0, hb2⟩
    have HB2 : Hid (Below w.heap.size w w2) := HB1.out.trans (hb2.mono HB1.out.size)
    have HSI : Hid (IsInts w2 (.slice (some ⟨L, 0, none⟩) n n) (leastL l it gp)) := by
      have h := hL.isInts (by rw [HSZ.out.l]; unfold maxLen; omega)
      rw [HSZ.out.l] at h; exact h
    have HSM : Hid (Calls Try.prog 30 #[.slice (some ⟨L, 0, none⟩) n n] w2 fun e w' => e = .returned (.int .i64 S) ∧ w2 = w') := by
      have h := gsum_any _ _ w2 HSI.out (sizes_sum HSZ.out.lb HSZ.out.l e1)
      rw [HSZ.out.l, HS.out] at h; exact h
    clear hL hM hne hl0 hm0 hb2
    by_cases hp : 0 < n
    · have hp' : (1 : Int) ≤ (n : Int) := by omega
      have hc : ((n - 1 : Nat) : Int) = (n : Int) - 1 := by omega
      have hm := mul_bd (a := gp) (b := (n : Int) - 1) (m := 1048576) (k := 23) hgp.1 (by omega) hgp.2 (by omega)
      rw [hc] at HR
      obtain ⟨G, hG⟩ : ∃ G, gp * ((n : Int) - 1) = G := ⟨_, rfl⟩
      rw [hG] at hm HR
      have hw1 : IntKind.i64.wrap ((n : Int) - 1) = (n : Int) - 1 := IntWalk.i64_in _ (by omega)
      have hw2 : IntKind.i64.wrap (gp * ((n : Int) - 1)) = G := by rw [hG]; exact IntWalk.i64_in _ (by omega)
      have hw3 : IntKind.i64.wrap (S + G) = S + G := IntWalk.i64_in _ (by omega)
      have hnn : ¬ ((n : Int) - 1 < 0) := by omega
      clear hc hG
      go_wp2_with (go_at_call 30; refine HSM.out.mono ?_; rintro e w' ⟨rfl, rfl⟩)
      go_ret
      exact ⟨by rw [HR.out]; rfl, HB2.out⟩
    · obtain rfl : n = 0 := by omega
      have hw3 : IntKind.i64.wrap S = S := IntWalk.i64_in _ (by omega)
      go_wp2_with (go_at_call 30; refine HSM.out.mono ?_; rintro e w' ⟨rfl, rfl⟩)
      go_ret
      exact ⟨by rw [HR.out]; simp, HB2.out⟩
  · have HR : Hid (leastS gp l it = 0) := by show _ = _; unfold leastS; rw [if_neg hE]
    obtain ⟨E, hE2⟩ : ∃ E, gErr 0 gp l it = E := ⟨_, rfl⟩
    have HE := Lib.hid hE2
    rw [hE2] at hE
    have e1 : (E != 0) = true := by simpa using hE
    clear hE hE2
    go_enter Try.func18, Try.ntmps18
    go_wp2_with fail
    refine (gvalid_any _ _ 0 gp l it _ HV.out HI.out).mono ?_
    rw [HE.out]
    rintro e w1 ⟨rfl, hb1⟩
    go_wp2
    go_ret
    exact ⟨by rw [HR.out]; rfl, hb1⟩
set_option maxHeartbeats 4000000 in
set_option maxRecDepth 100000 in
theorem most_any (v vi : Value) (gp : Int) (l it : List Rec) (w : World) (hv : IsRecs 2 w v l) (hi : InRecs 4 w vi it) :
    Calls Try.prog 23 #[.int .i64 gp, v, vi] w (Errs (mostS gp l it) w) := by
  have HV := Lib.hid hv
  have HI := Lib.hid hi
  obtain ⟨a, cap, rfl, h1, h2, -⟩ := hv
  obtain ⟨⟨ia, icap, rfl, g1, g2, -⟩, -⟩ := hi
  obtain ⟨n, hn⟩ : ∃ n, l.length = n := ⟨_, rfl⟩
  obtain ⟨q, hq⟩ : ∃ q, it.length = q := ⟨_, rfl⟩
  have HN := Lib.hid hn
  have HQ := Lib.hid hq
  rw [hn] at h1 HV ⊢
  rw [hq] at g1 HI ⊢
  clear hn hq
  by_cases hE : gErr 0 gp l it = 0
  · have HE := Lib.hid hE
    have HR : Hid (mostS gp l it = sumTo (mostL l it gp) n + gp * ((n - 1 : Nat) : Int)) := by show _ = _; unfold mostS; rw [if_pos hE, HN.out]
    obtain ⟨e1, e2, e3, e4, e5, e6⟩ := gErr_ok hE
    rw [HN.out] at e1
    have hgp := lenB_iff.1 e4
    have HSZ : Hid (Sizes n (leastL l it gp) (mostL l it gp)) := by
      have h := sizes_of (gp := gp) hgp (by rw [HN.out]; exact e1) e2 e5 e6
      rw [HN.out] at h; exact h
    have hsb := szTo_sum HSZ.out.mb n (by rw [HSZ.out.m]; exact Nat.le_refl _)
    have hn' : (n : Int) ≤ 24 := by omega
    obtain ⟨S, hS⟩ : ∃ S, sumTo (mostL l it gp) n = S := ⟨_, rfl⟩
    have HS := Lib.hid hS
    rw [hS] at hsb HR
    clear hE hS e2 e3 e4 e5 e6
    go_enter Try.func23, Try.ntmps23
    go_wp2_with fail
    refine (gvalid_any _ _ 0 gp l it _ HV.out HI.out).mono ?_
    rw [HE.out]
    rintro e w1 ⟨rfl, hb1⟩
    have HV1 := Lib.hid (HV.out.of_below hb1)
    have HI1 := Lib.hid (HI.out.1.of_below hb1)
    have HB1 := Lib.hid hb1
    clear hb1
    go_wp2_with fail
    refine (demands_of a ia cap n icap q 0 gp l it _ HN HQ HV1.out HI1.out HE.out).1.mono ?_
    rintro e w2 ⟨L, M, rfl, hL, hM, hne, hl0, hm0, hb2⟩
    have HB2 : Hid (Below w.heap.size w w2) := HB1.out.trans (hb2.mono HB1.out.size)
    have HSI : Hid (IsInts w2 (.slice (some ⟨M, 0, none⟩) n n) (mostL l it gp)) := by
      have h := hM.isInts (by rw [HSZ.out.m]; unfold maxLen; omega)
      rw [HSZ.out.m] at h; exact h
    have HSM : Hid (Calls Try.prog 30 #[.slice (some ⟨M, 0, none⟩) n n] w2 fun e w' => e = .returned (.int .i64 S) ∧ w2 = w') := by
      have h := gsum_any _ _ w2 HSI.out (sizes_sum HSZ.out.mb HSZ.out.m e1)
      rw [HSZ.out.m, HS.out] at h; exact h
    clear hL hM hne hl0 hm0 hb2
    by_cases hp : 0 < n
    · have hp' : (1 : Int) ≤ (n : Int) := by omega
      have hc : ((n - 1 : Nat) : Int) = (n : Int) - 1 := by omega
      have hm := mul_bd (a := gp) (b := (n : Int) - 1) (m := 1048576) (k := 23) hgp.1 (by omega) hgp.2 (by omega)
      rw [hc] at HR
      obtain ⟨G, hG⟩ : ∃ G, gp * ((n : Int) - 1) = G := ⟨_, rfl⟩
      rw [hG] at hm HR
      have hw1 : IntKind.i64.wrap ((n : Int) - 1) = (n : Int) - 1 := IntWalk.i64_in _ (by omega)
      have hw2 : IntKind.i64.wrap (gp * ((n : Int) - 1)) = G := by rw [hG]; exact IntWalk.i64_in _ (by omega)
      have hw3 : IntKind.i64.wrap (S + G) = S + G := IntWalk.i64_in _ (by omega)
      have hnn : ¬ ((n : Int) - 1 < 0) := by omega
      clear hc hG
      go_wp2_with (go_at_call 30; refine HSM.out.mono ?_; rintro e w' ⟨rfl, rfl⟩)
      go_ret
      exact ⟨by rw [HR.out]; rfl, HB2.out⟩
    · obtain rfl : n = 0 := by omega
      have hw3 : IntKind.i64.wrap S = S := IntWalk.i64_in _ (by omega)
      go_wp2_with (go_at_call 30; refine HSM.out.mono ?_; rintro e w' ⟨rfl, rfl⟩)
      go_ret
      exact ⟨by rw [HR.out]; simp, HB2.out⟩
  · have HR : Hid (mostS gp l it = 0) := by show _ = _; unfold mostS; rw [if_neg hE]
    obtain ⟨E, hE2⟩ : ∃ E, gErr 0 gp l it = E := ⟨_, rfl⟩
    have HE := Lib.hid hE2
    rw [hE2] at hE
    have e1 : (E != 0) = true := by simpa using hE
    clear hE hE2
    go_enter Try.func23, Try.ntmps23
    go_wp2_with fail
    refine (gvalid_any _ _ 0 gp l it _ HV.out HI.out).mono ?_
    rw [HE.out]
    rintro e w1 ⟨rfl, hb1⟩
    go_wp2
    go_ret
    exact ⟨by rw [HR.out]; rfl, hb1⟩
end Go.Proofs.Ytadkkkdecejkeaa

