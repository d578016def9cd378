/- valid of package box: the first error of Resolve's arguments. -/
import Derived.Test.YtadkkkdecejkeaaBoxLen
namespace Go.Proofs.Ytadkkkdecejkeaa
open Go.RowKit
set_option linter.unusedVariables false
set_option linter.unusedSimpArgs false

def Gives (z : Int) (w : World) (e : Ending) (w' : World) : Prop := e = .returned (.int .i64 z) ∧ Below w.heap.size w w'
theorem lensB_two (a b : Int) : lensB [a, b] = (lenB a && lenB b) := by simp [lensB]
theorem lensB_three (a b c : Int) : lensB [a, b, c] = (lenB a && lenB b && lenB c) := by simp [lensB, Bool.and_assoc]

set_option maxHeartbeats 2000000 in
theorem bvalid_long (a : Option Addr) (cap : Nat) (av gp : Int) (l : List Rec) (w : World) (n : Nat) (HN : Hid (l.length = n)) (hn : 100 < n) (hc : n ≤ maxLen) : Calls Try.prog 44 #[.int .i64 av, .int .i64 gp, .slice a n cap] w (Gives (flexErr av gp l) w) := by
  have hr : Hid (flexErr av gp l = 2) := flexErr_long (by rw [HN.out]; exact hn)
  unfold maxLen at hc
  have hn' : (100 : Int) < (n : Int) := by omega
  clear hn
  go_enter Try.func44, Try.ntmps44
  go_wp2
  go_ret
  exact ⟨ret_int hr.out.symm, Below.refl _ _⟩

set_option maxHeartbeats 4000000 in
set_option maxRecDepth 100000 in
theorem bvalid_short (a : Option Addr) (cap : Nat) (av gp : Int) (l : List Rec) (w : World) (n : Nat) (HN : Hid (l.length = n)) (hn : n ≤ 100)
    (H3 : Hid (0 < n → ∃ b off, a = some ⟨b, off, none⟩ ∧ b < w.heap.size ∧ ∀ i, i < n → ∀ j, j < 5 → w.cell? ⟨b, off + i * 5 + j, none⟩ = some (.int .i64 (gf l i j)))) : Calls Try.prog 44 #[.int .i64 av, .int .i64 gp, .slice a n cap] w (Gives (flexErr av gp l) w) := by
  have hn' : (n : Int) ≤ 100 := by omega
  have HI : Hid (IsInts (w.alloc (.cells #[.int .i64 av, .int .i64 gp] 3)) (.slice (some ⟨w.heap.size, 0, none⟩) 2 2) [av, gp]) := lit_ints [av, gp] rfl (by simp [maxLen]) 2 rfl
  have HA : Hid (Below w.heap.size w (w.alloc (.cells #[.int .i64 av, .int .i64 gp] 3))) := (Below.refl _ _).alloc (Nat.le_refl _) _
  cases hb : (lenB av && lenB gp) with
  | false =>
    have HR : Hid (flexErr av gp l = 1) := flexErr_args (by rw [HN.out]; exact hn) hb
    have HB : Hid (lensB [av, gp] = false) := by show _ = _; rw [lensB_two, hb]
    clear hb
    go_enter Try.func44, Try.ntmps44
    go_wp2_with (go_at_call 53; refine (length_any _ [av, gp] _ HI.out).mono ?_; rw [HB.out]; rintro e w' ⟨rfl, rfl⟩)
    go_ret
    exact ⟨ret_int HR.out.symm, HA.out⟩
  | true =>
    have HB0 := Lib.hid hb
    have HB : Hid (lensB [av, gp] = true) := by show _ = _; rw [lensB_two, hb]
    clear hb
    go_enter Try.func44, Try.ntmps44
    go_wp2_with (go_at_call 53; refine (length_any _ [av, gp] _ HI.out).mono ?_; rw [HB.out]; rintro e w' ⟨rfl, rfl⟩)
    go_loopw [19] (fun i wr => ∃ k : Nat, k ≤ n ∧ i = .int .i64 k ∧ Hid (flexTo l k) ∧ Below w.heap.size w wr) (fun i _ => n - (intOf i).toNat)
    case atStart => exact ⟨0, Nat.zero_le _, rfl, flexTo_zero l, HA.out⟩
    case round =>
      obtain ⟨k, hk, rfl, HF, hbl⟩ := hrel
      have HBL := Lib.hid hbl
      by_cases hkn : k < n
      · obtain ⟨b, off, rfl, hlt, hcell⟩ := H3.out (by omega)
        have k0 := (hbl.cell (p := ⟨b, off + k * 5 + 0, none⟩) hlt).trans (hcell k hkn 0 (by omega))
        have k1 := (hbl.cell (p := ⟨b, off + k * 5 + 1, none⟩) hlt).trans (hcell k hkn 1 (by omega))
        have k2 := (hbl.cell (p := ⟨b, off + k * 5 + 2, none⟩) hlt).trans (hcell k hkn 2 (by omega))
        have k3 := (hbl.cell (p := ⟨b, off + k * 5 + 3, none⟩) hlt).trans (hcell k hkn 3 (by omega))
        have k4 := (hbl.cell (p := ⟨b, off + k * 5 + 4, none⟩) hlt).trans (hcell k hkn 4 (by omega))
        rw [Nat.add_zero] at k0
        obtain ⟨q0, hq0⟩ : ∃ q, gf l k 0 = q := ⟨_, rfl⟩
        obtain ⟨q1, hq1⟩ : ∃ q, gf l k 1 = q := ⟨_, rfl⟩
        obtain ⟨q2, hq2⟩ : ∃ q, gf l k 2 = q := ⟨_, rfl⟩
        obtain ⟨q3, hq3⟩ : ∃ q, gf l k 3 = q := ⟨_, rfl⟩
        obtain ⟨q4, hq4⟩ : ∃ q, gf l k 4 = q := ⟨_, rfl⟩
        have HQ : Hid (flexB l k = (lensB [q0, q1, q2] && cntB q3 && cntB q4)) := by show _ = _; rw [flexB, lensB_three, hq0, hq1, hq2, hq3, hq4]
        rw [hq0] at k0
        rw [hq1] at k1
        rw [hq2] at k2
        rw [hq3] at k3
        rw [hq4] at k4
        have hkn' : (k : Int) < (n : Int) := by omega
        have HR : Hid (flexB l k = false → flexErr av gp l = 1) := fun h => flexErr_bad (by rw [HN.out]; exact hn) (by rw [HN.out]; exact hkn) h
        have HAW : Hid (Below w.heap.size w ((wr.alloc (.cells #[.int .i64 q0, .int .i64 q1, .int .i64 q2, .int .i64 q3, .int .i64 q4] 60)).alloc (.cells #[.int .i64 q0, .int .i64 q1, .int .i64 q2] 3))) := (HBL.out.alloc HBL.out.size _).alloc (by have := HBL.out.size; simp; omega) _
        have HI3 : Hid (IsInts ((wr.alloc (.cells #[.int .i64 q0, .int .i64 q1, .int .i64 q2, .int .i64 q3, .int .i64 q4] 60)).alloc (.cells #[.int .i64 q0, .int .i64 q1, .int .i64 q2] 3)) (.slice (some ⟨wr.heap.size + 1, 0, none⟩) 3 3) [q0, q1, q2]) := by
          have := lit_ints (w := wr.alloc (.cells #[.int .i64 q0, .int .i64 q1, .int .i64 q2, .int .i64 q3, .int .i64 q4] 60)) [q0, q1, q2] rfl (by simp [maxLen]) 3 rfl
          rw [World.size_alloc] at this
          exact this
        have m3 : ∀ o, ((wr.alloc (.cells #[.int .i64 q0, .int .i64 q1, .int .i64 q2, .int .i64 q3, .int .i64 q4] 60)).alloc o).cell? ⟨wr.heap.size, 3, none⟩ = some (.int .i64 q3) := fun o => by go_simp
        have m4 : ∀ o, ((wr.alloc (.cells #[.int .i64 q0, .int .i64 q1, .int .i64 q2, .int .i64 q3, .int .i64 q4] 60)).alloc o).cell? ⟨wr.heap.size, 4, none⟩ = some (.int .i64 q4) := fun o => by go_simp
        clear hcell hbl hlt hq0 hq1 hq2 hq3 hq4
        obtain ⟨lb, hlb⟩ : ∃ lb, lensB [q0, q1, q2] = lb := ⟨_, rfl⟩
        have HLB := Lib.hid hlb
        clear hlb
        cases lb with
        | false =>
          have HRR := Lib.hid (HR.out (by rw [HQ.out, HLB.out]; rfl))
          go_wp2_with (go_at_call 53; refine (length_any _ [q0, q1, q2] _ HI3.out).mono ?_; rw [HLB.out]; rintro e w' ⟨rfl, rfl⟩)
          go_ret
          exact ⟨ret_int HRR.out.symm, HAW.out⟩
        | true =>
          obtain (h3 | h3 | ⟨h3, h3'⟩) : (q3 < 0) ∨ (0 ≤ q3 ∧ 1000 < q3) ∨ (0 ≤ q3 ∧ q3 ≤ 1000) := by omega
          · have HRR := Lib.hid (HR.out (by rw [HQ.out, HLB.out]; simp [cntB]; omega))
            go_wp2_with (go_at_call 53; refine (length_any _ [q0, q1, q2] _ HI3.out).mono ?_; rw [HLB.out]; rintro e w' ⟨rfl, rfl⟩)
            go_ret
            exact ⟨ret_int HRR.out.symm, HAW.out⟩
          · obtain ⟨h3, h3'⟩ := h3
            have HRR := Lib.hid (HR.out (by rw [HQ.out, HLB.out]; simp [cntB]; omega))
            go_wp2_with (go_at_call 53; refine (length_any _ [q0, q1, q2] _ HI3.out).mono ?_; rw [HLB.out]; rintro e w' ⟨rfl, rfl⟩)
            go_ret
            exact ⟨ret_int HRR.out.symm, HAW.out⟩
          · obtain (h4 | h4 | ⟨h4, h4'⟩) : (q4 < 0) ∨ (0 ≤ q4 ∧ 1000 < q4) ∨ (0 ≤ q4 ∧ q4 ≤ 1000) := by omega
            · have HRR := Lib.hid (HR.out (by rw [HQ.out, HLB.out]; simp [cntB]; omega))
              go_wp2_with (go_at_call 53; refine (length_any _ [q0, q1, q2] _ HI3.out).mono ?_; rw [HLB.out]; rintro e w' ⟨rfl, rfl⟩)
              go_ret
              exact ⟨ret_int HRR.out.symm, HAW.out⟩
            · obtain ⟨h4, h4'⟩ := h4
              have HRR := Lib.hid (HR.out (by rw [HQ.out, HLB.out]; simp [cntB]; omega))
              go_wp2_with (go_at_call 53; refine (length_any _ [q0, q1, q2] _ HI3.out).mono ?_; rw [HLB.out]; rintro e w' ⟨rfl, rfl⟩)
              go_ret
              exact ⟨ret_int HRR.out.symm, HAW.out⟩
            · have HFN : Hid (flexTo l (k + 1)) := flexTo_succ HF.out (by rw [HQ.out, HLB.out]; simp [cntB]; omega)
              go_wp2_with (go_at_call 53; refine (length_any _ [q0, q1, q2] _ HI3.out).mono ?_; rw [HLB.out]; rintro e w' ⟨rfl, rfl⟩)
              go_roundw
              case rel => exact ⟨k + 1, by omega, by go_num, HFN, HAW.out⟩
              case measure => simp [intOf]; omega
      · obtain rfl : k = n := by omega
        have HR : Hid (flexErr av gp l = 0) := flexErr_ok (by rw [HN.out]; exact hn) HB0.out (by rw [HN.out]; exact HF.out)
        clear hbl
        go_wp2
        go_ret
        exact ⟨ret_int HR.out.symm, HBL.out⟩

theorem bvalid_any (v : Value) (av gp : Int) (l : List Rec) (w : World) (hv : IsRecs 5 w v l) : Calls Try.prog 44 #[.int .i64 av, .int .i64 gp, v] w (Gives (flexErr av gp l) w) := by
  obtain ⟨a, cap, rfl, h1, h2, h3⟩ := hv
  by_cases c : 100 < l.length
  · exact bvalid_long a cap av gp l w _ (Lib.hid rfl) c (Nat.le_trans h1 h2)
  · exact bvalid_short a cap av gp l w _ (Lib.hid rfl) (by omega) (Lib.hid h3)
end Go.Proofs.Ytadkkkdecejkeaa

