/- total, Least and Most of the reference of package grid: for all arguments. -/
import Derived.Test.YtadkkkdecejkeaaLeast
namespace Go.Proofs.Ytadkkkdecejkeaa
open Go.RowKit
attribute [local go_sem ↓] Go.wp_at_zero Go.wp_at_succ
set_option linter.unusedVariables false
set_option linter.unusedSimpArgs false

set_option maxHeartbeats 4000000 in
theorem rtotal_any (v : Value) (gp : Int) (s : List Int) (w : World) (hv : IsInts w v s) (hz : szTo s 134217728) (hn : s.length ≤ 24) (hg : 0 ≤ gp ∧ gp ≤ 1048576) :
    Calls Try.prog 35 #[.int .i64 gp, v] w fun e w' => e = .returned (.int .i64 (sumTo s s.length + gp * ((s.length - 1 : Nat) : Int))) ∧ w = w' := by
  have hsb := szTo_sum hz s.length (Nat.le_refl _)
  have HSM := Lib.hid (rsum_any v s w hv (sizes_sum hz rfl hn))
  obtain ⟨a, cap, rfl, h1, h2, -⟩ := hv
  obtain ⟨n, hnn⟩ : ∃ n, s.length = n := ⟨_, rfl⟩
  rw [hnn] at hsb HSM hn ⊢
  obtain ⟨S, hS⟩ : ∃ S, sumTo s n = S := ⟨_, rfl⟩
  rw [hS] at hsb HSM ⊢
  have hn' : (n : Int) ≤ 24 := by omega
  clear hS hnn h1 h2 hz
  by_cases hp : 1 < n
  · have hp' : (1 : Int) < (n : Int) := by omega
    have hc : ((n - 1 : Nat) : Int) = (n : Int) - 1 := by omega
    have hm := mul_bd (a := gp) (b := (n : Int) - 1) (m := 1048576) (k := 23) hg.1 (by omega) hg.2 (by omega)
    rw [hc]
    obtain ⟨G, hG⟩ : ∃ G, gp * ((n : Int) - 1) = G := ⟨_, rfl⟩
    rw [hG] at hm ⊢
    have hw1 : IntKind.i64.wrap ((n : Int) - 1) = (n : Int) - 1 := IntWalk.i64_in _ (by omega)
    have hw2 : IntKind.i64.wrap (gp * ((n : Int) - 1)) = G := by rw [hG]; exact IntWalk.i64_in _ (by omega)
    have hw3 : IntKind.i64.wrap (S + G) = S + G := IntWalk.i64_in _ (by omega)
    clear hc hG
    go_enter Try.func35, Try.ntmps35
    go_wp2_with (go_at_call 17; refine HSM.out.mono ?_; rintro e w' ⟨rfl, rfl⟩)
    go_ret
    exact ⟨rfl, rfl⟩
  · have hp' : ¬ (1 : Int) < (n : Int) := by omega
    have hc : ((n - 1 : Nat) : Int) = 0 := by omega
    rw [hc, Int.mul_zero, Int.add_zero]
    clear hc
    go_enter Try.func35, Try.ntmps35
    go_wp2_with (go_at_call 17; refine HSM.out.mono ?_; rintro e w' ⟨rfl, rfl⟩)
    go_ret
    exact ⟨rfl, rfl⟩

set_option maxHeartbeats 4000000 in
set_option maxRecDepth 100000 in
theorem rleast_any (v vi : Value) (gp : Int) (l it : List Rec) (w : World) (hv : IsRecs 2 w v l) (hi : InRecs 4 w vi it) :
    Calls Try.prog 22 #[.int .i64 gp, v, vi] w (Errs (leastS gp l it) w) := by
  have HV := Lib.hid hv
  have HI := Lib.hid hi
  obtain ⟨a, cap, rfl, h1, h2, -⟩ := hv
  obtain ⟨⟨ia, icap, rfl, g1, g2, -⟩, -⟩ := hi
  obtain ⟨n, hn⟩ : ∃ n, l.length = n := ⟨_, rfl⟩
  obtain ⟨q, hq⟩ : ∃ q, it.length = q := ⟨_, rfl⟩
  have HN := Lib.hid hn
  have HQ := Lib.hid hq
  rw [hn] at h1 HV ⊢
  rw [hq] at g1 HI ⊢
  clear hn hq
  by_cases hE : gErr 0 gp l it = 0
  · have HE := Lib.hid hE
    have HR : Hid (leastS gp l it = sumTo (leastL l it gp) n + gp * ((n - 1 : Nat) : Int)) := by show _ = _; unfold leastS; rw [if_pos hE, HN.out]
    obtain ⟨e1, e2, e3, e4, e5, e6⟩ := gErr_ok hE
    rw [HN.out] at e1
    have HGP := Lib.hid (lenB_iff.1 e4)
    have HSZ : Hid (Sizes n (leastL l it gp) (mostL l it gp)) := by
      have h := sizes_of (gp := gp) HGP.out (by rw [HN.out]; exact e1) e2 e5 e6
      rw [HN.out] at h; exact h
    have HE1 := Lib.hid e1
    clear hE e1 e2 e3 e4 e5 e6
    go_enter Try.func22, Try.ntmps22
    go_wp2_with fail
    refine (rcheck_any _ _ 0 gp l it _ HV.out HI.out).mono ?_
    rw [HE.out]
    rintro e w1 ⟨rfl, hb1⟩
    have HV1 := Lib.hid (HV.out.of_below hb1)
    have HI1 := Lib.hid (HI.out.1.of_below hb1)
    have HB1 := Lib.hid hb1
    clear hb1
    go_wp2_with fail
    refine (demands_of a ia cap n icap q 0 gp l it _ HN HQ HV1.out HI1.out HE.out).2.mono ?_
    rintro e w2 ⟨L, M, rfl, hL, hM, hne, hl0, hm0, hb2⟩
    have HB2 : Hid (Below w.heap.size w w2) := HB1.out.trans (hb2.mono HB1.out.size)
    have HSI : Hid (IsInts w2 (.slice (some ⟨L, 0, none⟩) n n) (leastL l it gp)) := by
      have h := hL.isInts (by rw [HSZ.out.l]; unfold maxLen; have := HE1.out; omega)
      rw [HSZ.out.l] at h; exact h
    have HSM : Hid (Calls Try.prog 35 #[.int .i64 gp, .slice (some ⟨L, 0, none⟩) n n] w2 fun e w' => e = .returned (.int .i64 (leastS gp l it)) ∧ w2 = w') := by
      have h := rtotal_any _ gp _ w2 HSI.out HSZ.out.lb (by rw [HSZ.out.l]; exact HE1.out) HGP.out
      rw [HSZ.out.l, ← HR.out] at h; exact h
    clear hL hM hne hl0 hm0 hb2
    go_wp2_with (go_at_call 35; refine HSM.out.mono ?_; rintro e w' ⟨rfl, rfl⟩)
    go_ret
    exact ⟨rfl, HB2.out⟩
  · have HR : Hid (leastS gp l it = 0) := by show _ = _; unfold leastS; rw [if_neg hE]
    obtain ⟨E, hE2⟩ : ∃ E, gErr 0 gp l it = E := ⟨_, rfl⟩
    have HE := Lib.hid hE2
    rw [hE2] at hE
    have e1 : (E != 0) = true := by simpa using hE
    clear hE hE2
    go_enter Try.func22, Try.ntmps22
    go_wp2_with fail
    refine (rcheck_any _ _ 0 gp l it _ HV.out HI.out).mono ?_
    rw [HE.out]
    rintro e w1 ⟨rfl, hb1⟩
    go_wp2
    go_ret
    exact ⟨by rw [HR.out]; rfl, hb1⟩
set_option maxHeartbeats 4000000 in
set_option maxRecDepth 100000 in
theorem rmost_any (v vi : Value) (gp : Int) (l it : List Rec) (w : World) (hv : IsRecs 2 w v l) (hi : InRecs 4 w vi it) :
    Calls Try.prog 24 #[.int .i64 gp, v, vi] w (Errs (mostS gp l it) w) := by
  have HV := Lib.hid hv
  have HI := Lib.hid hi
  obtain ⟨a, cap, rfl, h1, h2, -⟩ := hv
  obtain ⟨⟨ia, icap, rfl, g1, g2, -⟩, -⟩ := hi
  obtain ⟨n, hn⟩ : ∃ n, l.length = n := ⟨_, rfl⟩
  obtain ⟨q, hq⟩ : ∃ q, it.length = q := ⟨_, rfl⟩
  have HN := Lib.hid hn
  have HQ := Lib.hid hq
  rw [hn] at h1 HV ⊢
  rw [hq] at g1 HI ⊢
  clear hn hq
  by_cases hE : gErr 0 gp l it = 0
  · have HE := Lib.hid hE
    have HR : Hid (mostS gp l it = sumTo (mostL l it gp) n + gp * ((n - 1 : Nat) : Int)) := by show _ = _; unfold mostS; rw [if_pos hE, HN.out]
    obtain ⟨e1, e2, e3, e4, e5, e6⟩ := gErr_ok hE
    rw [HN.out] at e1
    have HGP := Lib.hid (lenB_iff.1 e4)
    have HSZ : Hid (Sizes n (leastL l it gp) (mostL l it gp)) := by
      have h := sizes_of (gp := gp) HGP.out (by rw [HN.out]; exact e1) e2 e5 e6
      rw [HN.out] at h; exact h
    have HE1 := Lib.hid e1
    clear hE e1 e2 e3 e4 e5 e6
    go_enter Try.func24, Try.ntmps24
    go_wp2_with fail
    refine (rcheck_any _ _ 0 gp l it _ HV.out HI.out).mono ?_
    rw [HE.out]
    rintro e w1 ⟨rfl, hb1⟩
    have HV1 := Lib.hid (HV.out.of_below hb1)
    have HI1 := Lib.hid (HI.out.1.of_below hb1)
    have HB1 := Lib.hid hb1
    clear hb1
    go_wp2_with fail
    refine (demands_of a ia cap n icap q 0 gp l it _ HN HQ HV1.out HI1.out HE.out).2.mono ?_
    rintro e w2 ⟨L, M, rfl, hL, hM, hne, hl0, hm0, hb2⟩
    have HB2 : Hid (Below w.heap.size w w2) := HB1.out.trans (hb2.mono HB1.out.size)
    have HSI : Hid (IsInts w2 (.slice (some ⟨M, 0, none⟩) n n) (mostL l it gp)) := by
      have h := hM.isInts (by rw [HSZ.out.m]; unfold maxLen; have := HE1.out; omega)
      rw [HSZ.out.m] at h; exact h
    have HSM : Hid (Calls Try.prog 35 #[.int .i64 gp, .slice (some ⟨M, 0, none⟩) n n] w2 fun e w' => e = .returned (.int .i64 (mostS gp l it)) ∧ w2 = w') := by
      have h := rtotal_any _ gp _ w2 HSI.out HSZ.out.mb (by rw [HSZ.out.m]; exact HE1.out) HGP.out
      rw [HSZ.out.m, ← HR.out] at h; exact h
    clear hL hM hne hl0 hm0 hb2
    go_wp2_with (go_at_call 35; refine HSM.out.mono ?_; rintro e w' ⟨rfl, rfl⟩)
    go_ret
    exact ⟨rfl, HB2.out⟩
  · have HR : Hid (mostS gp l it = 0) := by show _ = _; unfold mostS; rw [if_neg hE]
    obtain ⟨E, hE2⟩ : ∃ E, gErr 0 gp l it = E := ⟨_, rfl⟩
    have HE := Lib.hid hE2
    rw [hE2] at hE
    have e1 : (E != 0) = true := by simpa using hE
    clear hE hE2
    go_enter Try.func24, Try.ntmps24
    go_wp2_with fail
    refine (rcheck_any _ _ 0 gp l it _ HV.out HI.out).mono ?_
    rw [HE.out]
    rintro e w1 ⟨rfl, hb1⟩
    go_wp2
    go_ret
    exact ⟨by rw [HR.out]; rfl, hb1⟩
end Go.Proofs.Ytadkkkdecejkeaa

