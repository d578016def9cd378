/- check of the reference of package grid: for all arguments (printed by wip/gen_rcheck.py). -/
import Derived.Test.YtadkkkdecejkeaaGValid
namespace Go.Proofs.Ytadkkkdecejkeaa
open Go.RowKit
attribute [local go_sem ↓] Go.wp_at_zero Go.wp_at_succ
set_option linter.unusedVariables false
set_option linter.unusedSimpArgs false

set_option maxHeartbeats 2000000 in
theorem rglen_any (x : Int) (w : World) : Calls Try.prog 48 #[.int .i64 x] w fun e w' => e = .returned (.bool (lenB x)) ∧ w = w' := by
  by_cases h : 0 ≤ x
  · go_enter Try.func48, Try.ntmps48
    go_wp2
    go_ret
    exact ⟨ret_bool (by simp [lenB, h]), rfl⟩
  · go_enter Try.func48, Try.ntmps48
    go_wp2
    go_ret
    exact ⟨ret_bool (by simp [lenB]; omega), rfl⟩
set_option maxHeartbeats 8000000 in
set_option maxRecDepth 100000 in
theorem rcheck_any (v vi : Value) (av gp : Int) (l it : List Rec) (w : World) (hv : IsRecs 2 w v l) (hi : InRecs 4 w vi it) :
    Calls Try.prog 33 #[.int .i64 av, .int .i64 gp, v, vi] w (Errs (gErr av gp l it) w) := by
  obtain ⟨a, cap, rfl, h1, h2, h3⟩ := hv
  obtain ⟨⟨ia, icap, rfl, g1, g2, g3⟩, gin⟩ := hi
  obtain ⟨n, hn⟩ : ∃ n, l.length = n := ⟨_, rfl⟩
  obtain ⟨q, hq⟩ : ∃ q, it.length = q := ⟨_, rfl⟩
  have HN := Lib.hid hn
  have HQ := Lib.hid hq
  rw [hn] at h1 h3 ⊢
  have H3 := Lib.hid h3
  rw [hq] at g1 g3 ⊢
  have G3 := Lib.hid g3
  have GIN := Lib.hid gin
  unfold maxLen at h2 g2
  clear h3 g3 hn hq gin
  by_cases hl : 24 < n
  · as_aux_lemma =>
    have hl' : (24 : Int) < (n : Int) := by omega
    have HE : Hid (gErr av gp l it = 2) := gErr_long (.inl (by rw [HN.out]; exact hl))
    go_enter Try.func33, Try.ntmps33
    go_wp2
    go_ret
    exact ⟨by rw [HE.out]; rfl, Below.refl _ _⟩
  have hl' : (n : Int) ≤ 24 := by omega
  by_cases hm : 100 < q
  · as_aux_lemma =>
    have hm' : (100 : Int) < (q : Int) := by omega
    have HE : Hid (gErr av gp l it = 2) := gErr_long (.inr (by rw [HQ.out]; exact hm))
    go_enter Try.func33, Try.ntmps33
    go_wp2
    go_ret
    exact ⟨by rw [HE.out]; rfl, Below.refl _ _⟩
  have hm' : (q : Int) ≤ 100 := by omega
  have HNL : Hid (¬ (24 < l.length ∨ 100 < it.length)) := by show ¬ _; rw [HN.out, HQ.out]; omega
  cases ha : lenB av with
  | false =>
    as_aux_lemma =>
    have HE : Hid (gErr av gp l it = 1) := gErr_bad HNL.out (by rw [ha]; simp)
    have HA := Lib.hid ha
    clear ha
    go_enter Try.func33, Try.ntmps33
    go_wp2_with (go_at_call 48; refine (rglen_any _ _).mono ?_; rw [HA.out]; rintro e w' ⟨rfl, rfl⟩)
    go_ret
    exact ⟨by rw [HE.out]; rfl, Below.refl _ _⟩
  | true =>
    cases hg : lenB gp with
    | false =>
      as_aux_lemma =>
      have HE : Hid (gErr av gp l it = 1) := gErr_bad HNL.out (by rw [hg]; simp)
      have HA := Lib.hid ha
      have HG := Lib.hid hg
      clear ha hg
      go_enter Try.func33, Try.ntmps33
      go_wp2_with (go_at_call 48; refine (rglen_any _ _).mono ?_; (first | rw [HA.out] | rw [HG.out]); rintro e w' ⟨rfl, rfl⟩)
      go_ret
      exact ⟨by rw [HE.out]; rfl, Below.refl _ _⟩
    | true =>
      as_aux_lemma =>
      have HA := Lib.hid ha
      have HG := Lib.hid hg
      have HER : Hid (trksB l = true → ∀ B, itsB it l.length = B → gErr av gp l it = if B then 0 else 1) := fun h B hB => by
        cases B
        · exact gErr_bad HNL.out (by rw [hB]; simp)
        · exact gErr_good HNL.out (by rw [ha, hg, h, hB]; rfl)
      have HE1 : Hid (trksB l = false → gErr av gp l it = 1) := fun h => gErr_bad HNL.out (by rw [h]; simp)
      clear ha hg
      go_enter Try.func33, Try.ntmps33
      go_wp2_with (go_at_call 48; refine (rglen_any _ _).mono ?_; (first | rw [HA.out] | rw [HG.out]); rintro e w' ⟨rfl, rfl⟩)
      go_loopw [9] (fun i wr => ∃ k : Nat, k ≤ n ∧ i = .int .i64 k ∧ trksTo l k ∧ Below w.heap.size w wr) (fun i _ => n - (intOf i).toNat)
      case atStart => exact ⟨0, Nat.zero_le _, rfl, fun i h => absurd h (Nat.not_lt_zero _), Below.refl _ _⟩
      case round =>
        obtain ⟨k, hk, rfl, htk, hbl⟩ := hrel
        have HB := Lib.hid hbl
        have HTK := Lib.hid htk
        clear hbl htk
        by_cases hkn : k < n
        ·
          as_aux_lemma =>
            obtain ⟨b, off, rfl, hlt, hcell⟩ := H3.out (by omega)
            have k0 := (HB.out.cell (p := ⟨b, off + k * 2 + 0, none⟩) hlt).trans (hcell k hkn 0 (by omega))
            have k1 := (HB.out.cell (p := ⟨b, off + k * 2 + 1, none⟩) hlt).trans (hcell k hkn 1 (by omega))
            rw [Nat.add_zero] at k0
            have HTB : Hid (trkB (gf l k 0) (gf l k 1) = if gf l k 0 = 0 then lenB (gf l k 1) else if gf l k 0 = 1 then decide (gf l k 1 = 0) else if gf l k 0 = 2 then decide (1 ≤ gf l k 1) && decide (gf l k 1 ≤ 1000) else false) := rfl
            have HTN : Hid (trkB (gf l k 0) (gf l k 1) = true → trksTo l (k + 1)) := fun h i hi => by
              by_cases e : i = k
              · subst e; exact h
              · exact HTK.out i (by omega)
            have HBAD : Hid (trkB (gf l k 0) (gf l k 1) = false → gErr av gp l it = 1) := fun h => HE1.out (trksB_not (by rw [HN.out]; exact hkn) h)
            obtain ⟨T, hT⟩ : ∃ T, trkB (gf l k 0) (gf l k 1) = T := ⟨_, rfl⟩
            rw [hT] at HTB HTN HBAD
            obtain ⟨q0, hq0⟩ : ∃ q, gf l k 0 = q := ⟨_, rfl⟩
            obtain ⟨q1, hq1⟩ : ∃ q, gf l k 1 = q := ⟨_, rfl⟩
            rw [hq0, hq1] at HTB
            rw [hq0] at k0
            rw [hq1] at k1
            have hkn' : (k : Int) < (n : Int) := by omega
            have hk0 : (0 : Int) ≤ (k : Int) := by omega
            have HBA : Hid (∀ o, Below w.heap.size w (wr.alloc o)) := fun o => HB.out.alloc HB.out.size o
            obtain ⟨B1, hB1⟩ : ∃ B, lenB q1 = B := ⟨_, rfl⟩
            have HB1 := Lib.hid hB1
            rw [hB1] at HTB
            clear hcell hlt hq0 hq1 hT hB1
            by_cases c0 : q0 < 0
            · have HF := Lib.hid (HBAD.out (by rw [HTB.out, if_neg (by omega), if_neg (by omega), if_neg (by omega)]))
              go_wp2_with (go_at_call 48; refine (rglen_any _ _).mono ?_; rw [HB1.out]; rintro e w' ⟨rfl, rfl⟩)
              go_ret
              exact ⟨by rw [HF.out]; rfl, HBA.out _⟩
            · by_cases c2 : 2 < q0
              · have HF := Lib.hid (HBAD.out (by rw [HTB.out, if_neg (by omega), if_neg (by omega), if_neg (by omega)]))
                go_wp2_with (go_at_call 48; refine (rglen_any _ _).mono ?_; rw [HB1.out]; rintro e w' ⟨rfl, rfl⟩)
                go_ret
                exact ⟨by rw [HF.out]; rfl, HBA.out _⟩
              · obtain (rfl | rfl | rfl) : q0 = 0 ∨ q0 = 1 ∨ q0 = 2 := by omega
                · cases B1 with
                  | false =>
                    have HF := Lib.hid (HBAD.out (by rw [HTB.out]; rfl))
                    go_wp2_with (go_at_call 48; refine (rglen_any _ _).mono ?_; rw [HB1.out]; rintro e w' ⟨rfl, rfl⟩)
                    go_ret
                    exact ⟨by rw [HF.out]; rfl, HBA.out _⟩
                  | true =>
                    have HF := Lib.hid (HTN.out (by rw [HTB.out]; rfl))
                    go_wp2_with (go_at_call 48; refine (rglen_any _ _).mono ?_; rw [HB1.out]; rintro e w' ⟨rfl, rfl⟩)
                    go_roundw
                    case rel => exact ⟨k + 1, by omega, by go_num, HF.out, HBA.out _⟩
                    case measure => simp [intOf]; omega
                · by_cases cz : q1 = 0
                  · have ez : (q1 != 0) = false := by simpa using cz
                    have HF := Lib.hid (HTN.out (by rw [HTB.out]; simp [cz]))
                    go_wp2_with (go_at_call 48; refine (rglen_any _ _).mono ?_; rw [HB1.out]; rintro e w' ⟨rfl, rfl⟩)
                    go_roundw
                    case rel => exact ⟨k + 1, by omega, by go_num, HF.out, HBA.out _⟩
                    case measure => simp [intOf]; omega
                  · have ez : (q1 != 0) = true := by simpa using cz
                    have HF := Lib.hid (HBAD.out (by rw [HTB.out]; simp [cz]))
                    go_wp2_with (go_at_call 48; refine (rglen_any _ _).mono ?_; rw [HB1.out]; rintro e w' ⟨rfl, rfl⟩)
                    go_ret
                    exact ⟨by rw [HF.out]; rfl, HBA.out _⟩
                · by_cases c3 : q1 < 1
                  · have HF := Lib.hid (HBAD.out (by rw [HTB.out]; simp; omega))
                    go_wp2_with (go_at_call 48; refine (rglen_any _ _).mono ?_; rw [HB1.out]; rintro e w' ⟨rfl, rfl⟩)
                    go_ret
                    exact ⟨by rw [HF.out]; rfl, HBA.out _⟩
                  · by_cases c4 : 1000 < q1
                    · have HF := Lib.hid (HBAD.out (by rw [HTB.out]; simp; omega))
                      go_wp2_with (go_at_call 48; refine (rglen_any _ _).mono ?_; rw [HB1.out]; rintro e w' ⟨rfl, rfl⟩)
                      go_ret
                      exact ⟨by rw [HF.out]; rfl, HBA.out _⟩
                    · have HF := Lib.hid (HTN.out (by rw [HTB.out]; simp; omega))
                      go_wp2_with (go_at_call 48; refine (rglen_any _ _).mono ?_; rw [HB1.out]; rintro e w' ⟨rfl, rfl⟩)
                      go_roundw
                      case rel => exact ⟨k + 1, by omega, by go_num, HF.out, HBA.out _⟩
                      case measure => simp [intOf]; omega
        · obtain rfl : k = n := by omega
          have HT : Hid (trksB l = true) := trksB_of (by rw [HN.out]; exact HTK.out)
          have HER2 := Lib.hid (HER.out HT.out)
          clear HER HE1
          obtain ⟨w2, rfl⟩ : ∃ x : World, x = wr := ⟨_, rfl⟩
          go_wp2_with fail
          go_loopw [11] (fun i wr => ∃ j : Nat, j ≤ q ∧ i = .int .i64 j ∧ (∀ c, c < j → itB it k c = true) ∧ Below w.heap.size w wr) (fun i _ => q - (intOf i).toNat)
          case atStart => exact ⟨0, Nat.zero_le _, rfl, fun i h => absurd h (Nat.not_lt_zero _), HB.out⟩
          case round =>
            obtain ⟨j, hk, rfl, hik, hbl⟩ := hrel
            have HBk := Lib.hid hbl
            have HIK := Lib.hid hik
            clear hbl hik
            by_cases hkq : j < q
            · obtain ⟨ib, io, rfl, ilt, icell⟩ := G3.out (by omega)
              have i0 := (HBk.out.cell (p := ⟨ib, io + j * 4 + 0, none⟩) ilt).trans (icell j hkq 0 (by omega))
              have i1 := (HBk.out.cell (p := ⟨ib, io + j * 4 + 1, none⟩) ilt).trans (icell j hkq 1 (by omega))
              have i2 := (HBk.out.cell (p := ⟨ib, io + j * 4 + 2, none⟩) ilt).trans (icell j hkq 2 (by omega))
              have i3 := (HBk.out.cell (p := ⟨ib, io + j * 4 + 3, none⟩) ilt).trans (icell j hkq 3 (by omega))
              rw [Nat.add_zero] at i0
              have b0 := GIN.out j 0
              have b1 := GIN.out j 1
              have HITB : Hid (itB it k j = (lenB (gf it j 2) && lenB (gf it j 3) && decide (0 ≤ gf it j 0) && decide (gf it j 0 < (k : Int)) && decide (1 ≤ gf it j 1) && decide (gf it j 1 ≤ (k : Int) - gf it j 0))) := rfl
              obtain ⟨q0, hq0⟩ : ∃ q, gf it j 0 = q := ⟨_, rfl⟩
              obtain ⟨q1, hq1⟩ : ∃ q, gf it j 1 = q := ⟨_, rfl⟩
              obtain ⟨q2, hq2⟩ : ∃ q, gf it j 2 = q := ⟨_, rfl⟩
              obtain ⟨q3, hq3⟩ : ∃ q, gf it j 3 = q := ⟨_, rfl⟩
              rw [hq0, hq1, hq2, hq3] at HITB
              rw [hq0] at i0 b0
              rw [hq1] at i1 b1
              rw [hq2] at i2
              rw [hq3] at i3
              have hkq' : (j : Int) < (q : Int) := by omega
              have hk0 : (0 : Int) ≤ (j : Int) := by omega
              have HBA : Hid (Below w.heap.size w (wr.alloc (.cells #[.int .i64 q0, .int .i64 q1, .int .i64 q2, .int .i64 q3] 44))) := HBk.out.alloc HBk.out.size _
              have HBAD : Hid (itB it k j = false → gErr av gp l it = 1) := fun h => HER2.out false (by rw [HN.out]; exact itsB_not (by rw [HQ.out]; exact hkq) h)
              clear hq0 hq1 hq2 hq3 icell ilt
              obtain ⟨B2, hB2⟩ : ∃ B, lenB q2 = B := ⟨_, rfl⟩
              obtain ⟨B3, hB3⟩ : ∃ B, lenB q3 = B := ⟨_, rfl⟩
              have HB2 := Lib.hid hB2
              have HB3 := Lib.hid hB3
              rw [hB2, hB3] at HITB
              clear hB2 hB3
              have LNS : True := trivial
              cases B2 with
              | false =>
                have HF := Lib.hid (HBAD.out (by rw [HITB.out]; simp))
                go_wp2_with (go_at_call 48; refine (rglen_any _ _).mono ?_; (first | rw [HB2.out] | rw [HB3.out]); rintro e w' ⟨rfl, rfl⟩)
                go_ret
                exact ⟨by rw [HF.out]; rfl, HBA.out⟩
              | true =>
                cases B3 with
                | false =>
                  have HF := Lib.hid (HBAD.out (by rw [HITB.out]; simp))
                  go_wp2_with (go_at_call 48; refine (rglen_any _ _).mono ?_; (first | rw [HB2.out] | rw [HB3.out]); rintro e w' ⟨rfl, rfl⟩)
                  go_ret
                  exact ⟨by rw [HF.out]; rfl, HBA.out⟩
                | true =>
                  by_cases c0 : q0 < 0
                  · have HF := Lib.hid (HBAD.out (by rw [HITB.out]; simp; omega))
                    go_wp2_with (go_at_call 48; refine (rglen_any _ _).mono ?_; (first | rw [HB2.out] | rw [HB3.out]); rintro e w' ⟨rfl, rfl⟩)
                    go_ret
                    exact ⟨by rw [HF.out]; rfl, HBA.out⟩
                  · by_cases c1 : q0 < (k : Int)
                    · have c1' : ¬ (k : Int) ≤ q0 := by omega
                      by_cases c2 : q1 < 1
                      · have HF := Lib.hid (HBAD.out (by rw [HITB.out]; simp; omega))
                        go_wp2_with (go_at_call 48; refine (rglen_any _ _).mono ?_; (first | rw [HB2.out] | rw [HB3.out]); rintro e w' ⟨rfl, rfl⟩)
                        go_ret
                        exact ⟨by rw [HF.out]; rfl, HBA.out⟩
                      · have hws : IntKind.i64.wrap ((k : Int) - q0) = (k : Int) - q0 := IntWalk.i64_in _ (by omega)
                        by_cases c3 : (k : Int) - q0 < q1
                        · have HF := Lib.hid (HBAD.out (by rw [HITB.out]; simp; omega))
                          go_wp2_with (go_at_call 48; refine (rglen_any _ _).mono ?_; (first | rw [HB2.out] | rw [HB3.out]); rintro e w' ⟨rfl, rfl⟩)
                          go_ret
                          exact ⟨by rw [HF.out]; rfl, HBA.out⟩
                        · have HF : Hid (itB it k j = true) := by show _ = _; rw [HITB.out]; simp; omega
                          go_wp2_with (go_at_call 48; refine (rglen_any _ _).mono ?_; (first | rw [HB2.out] | rw [HB3.out]); rintro e w' ⟨rfl, rfl⟩)
                          go_roundw
                          case rel => exact ⟨j + 1, by omega, by go_num, fun c hj => by by_cases e : c = j; (subst e; exact HF.out); exact HIK.out c (by omega), HBA.out⟩
                          case measure => simp [intOf]; omega
                    · have c1' : (k : Int) ≤ q0 := by omega
                      have HF := Lib.hid (HBAD.out (by rw [HITB.out]; simp; omega))
                      go_wp2_with (go_at_call 48; refine (rglen_any _ _).mono ?_; (first | rw [HB2.out] | rw [HB3.out]); rintro e w' ⟨rfl, rfl⟩)
                      go_ret
                      exact ⟨by rw [HF.out]; rfl, HBA.out⟩
            · obtain rfl : j = q := by omega
              have HF := Lib.hid (HER2.out true (by rw [HN.out]; exact itsB_of (by rw [HQ.out]; exact HIK.out)))
              go_wp2
              go_ret
              exact ⟨by rw [HF.out]; rfl, HBk.out⟩
end Go.Proofs.Ytadkkkdecejkeaa

