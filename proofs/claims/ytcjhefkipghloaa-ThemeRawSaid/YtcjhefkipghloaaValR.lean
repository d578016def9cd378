/- Validate of the reference of theme (printed by wip/gen_valr.py). -/
import Derived.Test.YtcjhefkipghloaaValT
namespace Go.Proofs.Ytcjhefkipghloaa
open Go.RowKit
set_option linter.unusedVariables false
set_option linter.unusedSimpArgs false

theorem below_drewN {B : Nat} {a w : World} (h : Below B a w) (n : Nat) : Below B a (w.drewN n) := ⟨h.os, h.tape, h.output, h.size, h.block⟩
set_option maxHeartbeats 400000 in
theorem rvalue_any (n : Int) (w : World) : Calls Try.prog 33 #[.int .i64 n] w fun e w' => e = .returned (.bool (valB n)) ∧ w = w' := by
  go_enter Try.func33, Try.ntmps33
  go_wp2
  all_goals
    go_ret
    exact ⟨ret_bool (by rw [Bool.eq_iff_iff]; simp [valB]; try omega), rfl⟩

set_option maxHeartbeats 2000000 in
theorem rvalid_long (a : Option Addr) (cap : Nat) (l : List Tok) (w : World) (n : Nat) (HN : Hid (l.length = n)) (hn : 100 < n) (hc : n ≤ maxLen) : Calls Try.prog 20 #[.agg #[.slice a n cap]] w (Gives (valE l) w) := by
  have hr : Hid (valE l = 2) := by show _ = _; unfold valE; rw [HN.out, if_pos hn]
  unfold maxLen at hc
  have hn' : (100 : Int) < (n : Int) := by omega
  clear hn
  go_enter Try.func20, Try.ntmps20
  go_wp2
  go_ret
  exact ⟨ret_int hr.out.symm, (Below.refl _ _).alloc (Nat.le_refl _) _⟩

set_option maxHeartbeats 4000000 in
set_option maxRecDepth 100000 in
theorem rvalid_short (a : Option Addr) (cap : Nat) (l : List Tok) (w : World) (n : Nat) (HN : Hid (l.length = n)) (hn : n ≤ 100) (hnc : n ≤ cap) (hcm : cap ≤ 9223372036854775807) (NO : Hid (namesOk l))
    (H3 : Hid (0 < n → ∃ b off, a = some ⟨b, off, none⟩ ∧ b < w.heap.size ∧ ∀ i, i < n → TokAt w b (off + i * 5) (gt l i))) : Calls Try.prog 20 #[.agg #[.slice a n cap]] w (Gives (valE l) w) := by
  have hn' : (n : Int) ≤ 100 := by omega
  have hm0 : (w.alloc (.cells #[.slice a n cap] 32)).cell? ⟨w.heap.size, 0, none⟩ = some (.slice a n cap) := by go_simp
  have hsz : (w.alloc (.cells #[.slice a n cap] 32)).heap.size = w.heap.size + 1 := by simp
  have hb0 : Below w.heap.size w (w.alloc (.cells #[.slice a n cap] 32)) := (Below.refl _ _).alloc (Nat.le_refl _) _
  have HM := Lib.hid hm0
  have HSZ := Lib.hid hsz
  have HB0 := Lib.hid hb0
  clear hm0 hsz hb0
  go_enter Try.func20, Try.ntmps20
  go_wp2_with fail
  obtain ⟨W, hW⟩ : ∃ W, (w.alloc (.cells #[.slice a n cap] 32)) = W := ⟨_, rfl⟩
  rw [hW] at HB0 HM HSZ ⊢
  clear hW
  go_loopw [3] (fun i wr => ∃ k : Nat, k ≤ n ∧ i = .int .i64 k ∧ Hid (firstE l k = 0) ∧ Below W.heap.size W wr) (fun i _ => n - (intOf i).toNat)
  case atStart => exact ⟨0, Nat.zero_le _, rfl, by show _ = _; rfl, Below.refl _ _⟩
  case round =>
    obtain ⟨k, hk, rfl, HF, hbl⟩ := hrel
    have HB := Lib.hid hbl
    have hs1 : w.heap.size < W.heap.size := by have := HSZ.out; omega
    have m0 := (hbl.cell (p := ⟨w.heap.size, 0, none⟩) hs1).trans HM.out
    have HS1 := Lib.hid hs1
    clear hs1
    by_cases hkn : k < n
    · obtain ⟨b, off, rfl, hlt, hcell⟩ := H3.out (by omega)
      have HC := Lib.hid hcell
      have HLT := Lib.hid hlt
      have hoff := ((hcell k hkn).kept HB0.out hlt).kept hbl (Nat.lt_of_lt_of_le hlt HB0.out.size)
      obtain ⟨t, ht⟩ : ∃ t, gt l k = t := ⟨_, rfl⟩
      have HT := Lib.hid ht
      have hkn' : (k : Int) < (n : Int) := by omega
      have hnm := NO.out k
      rw [ht] at hoff hnm
      obtain ⟨nm, t1, t2, t3, t4⟩ := t
      obtain ⟨c0, c1, c2, c3, c4⟩ := hoff
      simp only at c0 c1 c2 c3 c4 hnm
      have HNM := Lib.hid hnm
      have HBn : Hid (Below W.heap.size W (wr.alloc (.cells #[.string nm, .int .i64 t1, .int .i64 t2, .int .i64 t3, .int .i64 t4] 35))) := HB.out.alloc HB.out.size (.cells #[.string nm, .int .i64 t1, .int .i64 t2, .int .i64 t3, .int .i64 t4] 35)
      have HRET : Hid (∀ c, tokE l k = c → c ≠ 0 → valE l = c) := fun c h1 h2 => valE_hit (by rw [HN.out]; exact hn) HF.out h1 h2 (by rw [HN.out]; exact hkn)
      clear hcell hbl ht hnm hlt
      cases hb : nameB nm with
      | false =>
        have HNB := Lib.hid hb
        clear hb
        have HR := Lib.hid (HRET.out 4 (tokE_name (by rw [HT.out]; exact HNB.out)) (by omega))
        go_wp2_with (go_at_call 32; refine (rname_any _ _ HNM.out).mono ?_; rw [HNB.out]; rintro e w' ⟨rfl, rfl⟩)
        go_ret
        exact ⟨ret_int HR.out.symm, HB0.out.trans (HBn.out.mono HB0.out.size)⟩
      | true =>
        have HNB := Lib.hid hb
        clear hb
        have HWN : Hid ((wr.alloc (.cells #[.string nm, .int .i64 t1, .int .i64 t2, .int .i64 t3, .int .i64 t4] 35)).cell? ⟨wr.heap.size, 0, none⟩ = some (.string nm) ∧ (wr.alloc (.cells #[.string nm, .int .i64 t1, .int .i64 t2, .int .i64 t3, .int .i64 t4] 35)).cell? ⟨wr.heap.size, 1, none⟩ = some (.int .i64 t1) ∧ (wr.alloc (.cells #[.string nm, .int .i64 t1, .int .i64 t2, .int .i64 t3, .int .i64 t4] 35)).cell? ⟨wr.heap.size, 2, none⟩ = some (.int .i64 t2) ∧ (wr.alloc (.cells #[.string nm, .int .i64 t1, .int .i64 t2, .int .i64 t3, .int .i64 t4] 35)).cell? ⟨wr.heap.size, 3, none⟩ = some (.int .i64 t3) ∧ (wr.alloc (.cells #[.string nm, .int .i64 t1, .int .i64 t2, .int .i64 t3, .int .i64 t4] 35)).cell? ⟨wr.heap.size, 4, none⟩ = some (.int .i64 t4)) := ⟨by go_simp, by go_simp, by go_simp, by go_simp, by go_simp⟩
        go_wp2_with (go_at_call 32; refine (rname_any _ _ HNM.out).mono ?_; rw [HNB.out]; rintro e w' ⟨rfl, rfl⟩)
        obtain ⟨W1, hW1⟩ : ∃ W1, (wr.alloc (.cells #[.string nm, .int .i64 t1, .int .i64 t2, .int .i64 t3, .int .i64 t4] 35)) = W1 := ⟨_, rfl⟩
        rw [hW1] at HBn HWN ⊢
        clear hW1 c0 c1 c2 c3 c4 m0
        obtain ⟨c0, c1, c2, c3, c4⟩ := HWN.out
        have m0 := (HBn.out.cell (p := ⟨w.heap.size, 0, none⟩) HS1.out).trans HM.out
        obtain ⟨G, hG⟩ : ∃ G, wr.heap.size = G := ⟨_, rfl⟩
        rw [hG] at c0 c1 c2 c3 c4 ⊢
        clear hG
        go_loopw [5] (fun i wi => ∃ (j d : Nat), j ≤ k ∧ i = .int .i64 j ∧ wi = W1.drewN d ∧ Hid (dupTo l nm j = false)) (fun i _ => k - (intOf i).toNat)
        case atStart => exact ⟨0, 0, Nat.zero_le _, rfl, rfl, by show _ = _; rfl⟩
        case round =>
          obtain ⟨j, d, hj, rfl, rfl, HD⟩ := hrel
          by_cases hjk : j < k
          · have hcj := ((HC.out j (by omega)).kept HB0.out HLT.out).kept HBn.out (Nat.lt_of_lt_of_le HLT.out HB0.out.size)
            obtain ⟨s, hs⟩ : ∃ s, (gt l j).name = s := ⟨_, rfl⟩
            have e0 := hcj.1
            rw [hs] at e0
            have HSN := Lib.hid hs
            have hjk' : (j : Int) < (k : Int) := by omega
            have hjn' : (j : Int) < (n : Int) := by omega
            clear hcj hs
            by_cases he : s = nm
            · subst he
              have HR := Lib.hid (HRET.out 6 (tokE_dup (by rw [HT.out]; exact HNB.out) (by rw [HT.out]; exact dupTo_hit HSN.out k hjk)) (by omega))
              go_wp2_with fail
              go_quiet (fail)
              go_wp2
              go_ret
              exact ⟨ret_int HR.out.symm, below_drewN (below_drewN (HB0.out.trans (HBn.out.mono HB0.out.size)) _) _⟩
            · have hne := bytes_ne he
              have HDN : Hid (dupTo l nm (j + 1) = false) := dupTo_next HD.out (by rw [HSN.out]; exact he)
              clear he
              go_wp2_with fail
              go_quiet (fail)
              go_wp2
              go_roundw
              case rel => exact ⟨j + 1, _, by omega, by go_num, rfl, HDN⟩
              case measure => simp [intOf]; omega
          · obtain rfl : j = k := by omega
            have HRV : Hid ((⟨nm, t1, t2, t3, t4⟩ : Tok).vals = false → valE l = 1) := fun h => HRET.out 1 (tokE_val (by rw [HT.out]; exact HNB.out) (by rw [HT.out]; exact HD.out) (by rw [HT.out]; exact h)) (by omega)
            have HNX : Hid ((⟨nm, t1, t2, t3, t4⟩ : Tok).vals = true → firstE l (j + 1) = 0) := fun h => firstE_next HF.out (tokE_ok (by rw [HT.out]; exact HNB.out) (by rw [HT.out]; exact HD.out) (by rw [HT.out]; exact h))
            cases h1 : valB t1 with
            | false =>
              have HR := Lib.hid (HRV.out (by simp [Tok.vals, h1]))
              go_wp2_with (go_at_call 33; refine (rvalue_any _ _).mono ?_; rintro e w' ⟨rfl, rfl⟩)
              go_ret
              exact ⟨ret_int HR.out.symm, below_drewN (HB0.out.trans (HBn.out.mono HB0.out.size)) _⟩
            | true =>
              cases h2 : valB t2 with
              | false =>
                have HR := Lib.hid (HRV.out (by simp [Tok.vals, h2]))
                go_wp2_with (go_at_call 33; refine (rvalue_any _ _).mono ?_; rintro e w' ⟨rfl, rfl⟩)
                go_ret
                exact ⟨ret_int HR.out.symm, below_drewN (HB0.out.trans (HBn.out.mono HB0.out.size)) _⟩
              | true =>
                cases h3 : valB t3 with
                | false =>
                  have HR := Lib.hid (HRV.out (by simp [Tok.vals, h3]))
                  go_wp2_with (go_at_call 33; refine (rvalue_any _ _).mono ?_; rintro e w' ⟨rfl, rfl⟩)
                  go_ret
                  exact ⟨ret_int HR.out.symm, below_drewN (HB0.out.trans (HBn.out.mono HB0.out.size)) _⟩
                | true =>
                  cases h4 : valB t4 with
                  | false =>
                    have HR := Lib.hid (HRV.out (by simp [Tok.vals, h4]))
                    go_wp2_with (go_at_call 33; refine (rvalue_any _ _).mono ?_; rintro e w' ⟨rfl, rfl⟩)
                    go_ret
                    exact ⟨ret_int HR.out.symm, below_drewN (HB0.out.trans (HBn.out.mono HB0.out.size)) _⟩
                  | true =>
                    have HR := Lib.hid (HNX.out (by simp [Tok.vals, h1, h2, h3, h4]))
                    go_wp2_with (go_at_call 33; refine (rvalue_any _ _).mono ?_; rintro e w' ⟨rfl, rfl⟩)
                    go_roundw
                    case rel => exact ⟨j + 1, by omega, by go_num, HR, below_drewN HBn.out _⟩
                    case measure => simp [intOf]; omega
    · obtain rfl : k = n := by omega
      have HR : Hid (valE l = 0) := valE_ok (by rw [HN.out]; exact hn) (by rw [HN.out]; exact HF.out)
      clear hbl
      go_wp2
      go_ret
      exact ⟨ret_int HR.out.symm, HB0.out.trans (HB.out.mono HB0.out.size)⟩

theorem rvalid_any (v : Value) (l : List Tok) (w : World) (hv : IsToks w v l) (hn : namesOk l) : Calls Try.prog 20 #[.agg #[v]] w (Gives (valE l) w) := by
  obtain ⟨a, cap, rfl, h1, h2, h3⟩ := hv
  by_cases c : 100 < l.length
  · exact rvalid_long a cap l w _ (Lib.hid rfl) c (Nat.le_trans h1 h2)
  · exact rvalid_short a cap l w _ (Lib.hid rfl) (by omega) h1 h2 (Lib.hid hn) (Lib.hid h3)
end Go.Proofs.Ytcjhefkipghloaa
