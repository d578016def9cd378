/- Resolve of the reference: the errors, and the whole. -/
import Derived.Test.YtadkkkdecejkeaaResR
namespace Go.Proofs.Ytadkkkdecejkeaa
open Go.RowKit
attribute [local go_sem ↓] Go.wp_at_zero Go.wp_at_succ
set_option linter.unusedVariables false
set_option linter.unusedSimpArgs false

theorem ResolvedN.err {av gp : Int} {l : List Rec} {w w' : World} {c : Int} (h : flexErr av gp l = c) (hc : c ≠ 0) (hb : Below w.heap.size w w') : ResolvedN av gp l w (.returned (.tuple #[.slice none 0 0, .int .i64 c])) w' :=
  ⟨_, by rw [h], by unfold resL; rw [if_neg (by rw [h]; exact hc)]; exact IsInts.nil w', hb, freshV.nil _ _ _⟩
set_option maxHeartbeats 8000000 in
set_option maxRecDepth 100000 in
theorem rres_no (a : Option Addr) (cap n : Nat) (av gp : Int) (l : List Rec) (w : World) (HN : Hid (l.length = n)) (hcap : n ≤ cap) (hm : cap ≤ maxLen) (he : flexErr av gp l ≠ 0)
    (H3 : Hid (0 < n → ∃ b off, a = some ⟨b, off, none⟩ ∧ b < w.heap.size ∧ ∀ i, i < n → ∀ j, j < 5 → w.cell? ⟨b, off + i * 5 + j, none⟩ = some (.int .i64 (gf l i j)))) :
    Calls Try.prog 37 #[.int .i64 av, .int .i64 gp, .slice a n cap] w (ResolvedN av gp l w) := by
  have HE := Lib.hid he
  clear he
  by_cases hl : 100 < n
  · as_aux_lemma =>
    have hl' : (100 : Int) < (n : Int) := by omega
    have HC : Hid (flexErr av gp l = 2) := flexErr_long (by rw [HN.out]; exact hl)
    go_enter Try.func37, Try.ntmps37
    go_wp2
    go_ret2
    exact ResolvedN.err HC.out (by decide) (Below.refl _ _)
  have hn' : (n : Int) ≤ 100 := by omega
  have HL : Hid (l.length ≤ 100) := by show _ ≤ _; rw [HN.out]; omega
  cases h1 : lenB av with
  | false =>
    as_aux_lemma =>
    have H1 := Lib.hid h1
    have HC : Hid (flexErr av gp l = 1) := flexErr_args HL.out (by rw [h1]; rfl)
    clear h1
    go_enter Try.func37, Try.ntmps37
    go_wp2_with (go_at_call 50; refine (rlen_any _ _).mono ?_; rw [H1.out]; rintro e w' ⟨rfl, rfl⟩)
    go_ret2
    exact ResolvedN.err HC.out (by decide) (Below.refl _ _)
  | true =>
    cases h2 : lenB gp with
    | false =>
      as_aux_lemma =>
      have H1 := Lib.hid h1
      have H2 := Lib.hid h2
      have HC : Hid (flexErr av gp l = 1) := flexErr_args HL.out (by rw [h1, h2]; rfl)
      clear h1 h2
      go_enter Try.func37, Try.ntmps37
      go_wp2_with (go_at_call 50; refine (rlen_any _ _).mono ?_; (first | rw [H1.out] | rw [H2.out]); rintro e w' ⟨rfl, rfl⟩)
      go_ret2
      exact ResolvedN.err HC.out (by decide) (Below.refl _ _)
    | true =>
      have H1 := Lib.hid h1
      have H2 := Lib.hid h2
      have HAB : Hid ((lenB av && lenB gp) = true) := by show _ = _; rw [h1, h2]; rfl
      clear h1 h2
      go_enter Try.func37, Try.ntmps37
      go_wp2_with (go_at_call 50; refine (rlen_any _ _).mono ?_; (first | rw [H1.out] | rw [H2.out]); rintro e w' ⟨rfl, rfl⟩)
      go_loopw [8] (fun i wr => ∃ k : Nat, k ≤ n ∧ i = .int .i64 k ∧ Hid (flexTo l k) ∧ Below w.heap.size w wr) (fun i _ => n - (intOf i).toNat)
      case atStart => exact ⟨0, Nat.zero_le _, rfl, flexTo_zero l, Below.refl _ _⟩
      case round =>
        obtain ⟨k, hk, rfl, HF, hbl⟩ := hrel
        have HB := Lib.hid hbl
        clear hbl
        by_cases hkn : k < n
        · obtain ⟨b, off, rfl, hlt, hcell⟩ := H3.out (by omega)
          have k0 := (HB.out.cell (p := ⟨b, off + k * 5 + 0, none⟩) hlt).trans (hcell k hkn 0 (by omega))
          have k1 := (HB.out.cell (p := ⟨b, off + k * 5 + 1, none⟩) hlt).trans (hcell k hkn 1 (by omega))
          have k2 := (HB.out.cell (p := ⟨b, off + k * 5 + 2, none⟩) hlt).trans (hcell k hkn 2 (by omega))
          have k3 := (HB.out.cell (p := ⟨b, off + k * 5 + 3, none⟩) hlt).trans (hcell k hkn 3 (by omega))
          have k4 := (HB.out.cell (p := ⟨b, off + k * 5 + 4, none⟩) hlt).trans (hcell k hkn 4 (by omega))
          rw [Nat.add_zero] at k0
          have HFB : Hid (flexB l k = (lenB (gf l k 0) && lenB (gf l k 1) && lenB (gf l k 2) && cntB (gf l k 3) && cntB (gf l k 4))) := rfl
          obtain ⟨q0, hq0⟩ : ∃ q, gf l k 0 = q := ⟨_, rfl⟩
          obtain ⟨q1, hq1⟩ : ∃ q, gf l k 1 = q := ⟨_, rfl⟩
          obtain ⟨q2, hq2⟩ : ∃ q, gf l k 2 = q := ⟨_, rfl⟩
          obtain ⟨q3, hq3⟩ : ∃ q, gf l k 3 = q := ⟨_, rfl⟩
          obtain ⟨q4, hq4⟩ : ∃ q, gf l k 4 = q := ⟨_, rfl⟩
          rw [hq0, hq1, hq2, hq3, hq4] at HFB
          rw [hq0] at k0
          rw [hq1] at k1
          rw [hq2] at k2
          rw [hq3] at k3
          rw [hq4] at k4
          have hkn' : (k : Int) < (n : Int) := by omega
          have hk0 : (0 : Int) ≤ (k : Int) := by omega
          have HBA : Hid (Below w.heap.size w (wr.alloc (.cells #[.int .i64 q0, .int .i64 q1, .int .i64 q2, .int .i64 q3, .int .i64 q4] 60))) := HB.out.alloc HB.out.size _
          have HR : Hid (flexB l k = false → flexErr av gp l = 1) := fun h => flexErr_bad HL.out (by rw [HN.out]; exact hkn) h
          clear hcell hlt hq0 hq1 hq2 hq3 hq4
          cases f0 : lenB q0 with
          | false =>
            as_aux_lemma =>
            have HF0 := Lib.hid f0
            have HF1 := HF0
            have HF2 := HF0
            have HC := Lib.hid (HR.out (by rw [HFB.out, f0]; rfl))
            clear f0
            go_wp2_with (go_at_call 50; refine (rlen_any _ _).mono ?_; (first | rw [HF0.out] | rw [HF1.out] | rw [HF2.out]); rintro e w' ⟨rfl, rfl⟩)
            go_ret2
            exact ResolvedN.err HC.out (by decide) HBA.out
          | true =>
            have HF0 := Lib.hid f0
            cases f1 : lenB q1 with
            | false =>
              as_aux_lemma =>
              have HF1 := Lib.hid f1
              have HF2 := HF1
              have HC := Lib.hid (HR.out (by rw [HFB.out, f0, f1]; rfl))
              clear f0 f1
              go_wp2_with (go_at_call 50; refine (rlen_any _ _).mono ?_; (first | rw [HF0.out] | rw [HF1.out] | rw [HF2.out]); rintro e w' ⟨rfl, rfl⟩)
              go_ret2
              exact ResolvedN.err HC.out (by decide) HBA.out
            | true =>
              have HF1 := Lib.hid f1
              cases f2 : lenB q2 with
              | false =>
                as_aux_lemma =>
                have HF2 := Lib.hid f2
                have HC := Lib.hid (HR.out (by rw [HFB.out, f0, f1, f2]; rfl))
                clear f0 f1 f2
                go_wp2_with (go_at_call 50; refine (rlen_any _ _).mono ?_; (first | rw [HF0.out] | rw [HF1.out] | rw [HF2.out]); rintro e w' ⟨rfl, rfl⟩)
                go_ret2
                exact ResolvedN.err HC.out (by decide) HBA.out
              | true =>
                have HF2 := Lib.hid f2
                obtain (h3 | ⟨h3, h3'⟩ | ⟨h3, h3'⟩) : (q3 < 0) ∨ (0 ≤ q3 ∧ 1000 < q3) ∨ (0 ≤ q3 ∧ q3 ≤ 1000) := by omega
                · as_aux_lemma =>
                  have HC := Lib.hid (HR.out (by rw [HFB.out, f0, f1, f2]; simp [cntB]; omega))
                  clear f0 f1 f2
                  go_wp2_with (go_at_call 50; refine (rlen_any _ _).mono ?_; (first | rw [HF0.out] | rw [HF1.out] | rw [HF2.out]); rintro e w' ⟨rfl, rfl⟩)
                  go_ret2
                  exact ResolvedN.err HC.out (by decide) HBA.out
                · as_aux_lemma =>
                  have HC := Lib.hid (HR.out (by rw [HFB.out, f0, f1, f2]; simp [cntB]; omega))
                  clear f0 f1 f2
                  go_wp2_with (go_at_call 50; refine (rlen_any _ _).mono ?_; (first | rw [HF0.out] | rw [HF1.out] | rw [HF2.out]); rintro e w' ⟨rfl, rfl⟩)
                  go_ret2
                  exact ResolvedN.err HC.out (by decide) HBA.out
                · obtain (h4 | ⟨h4, h4'⟩ | ⟨h4, h4'⟩) : (q4 < 0) ∨ (0 ≤ q4 ∧ 1000 < q4) ∨ (0 ≤ q4 ∧ q4 ≤ 1000) := by omega
                  · as_aux_lemma =>
                    have HC := Lib.hid (HR.out (by rw [HFB.out, f0, f1, f2]; simp [cntB]; omega))
                    clear f0 f1 f2
                    go_wp2_with (go_at_call 50; refine (rlen_any _ _).mono ?_; (first | rw [HF0.out] | rw [HF1.out] | rw [HF2.out]); rintro e w' ⟨rfl, rfl⟩)
                    go_ret2
                    exact ResolvedN.err HC.out (by decide) HBA.out
                  · as_aux_lemma =>
                    have HC := Lib.hid (HR.out (by rw [HFB.out, f0, f1, f2]; simp [cntB]; omega))
                    clear f0 f1 f2
                    go_wp2_with (go_at_call 50; refine (rlen_any _ _).mono ?_; (first | rw [HF0.out] | rw [HF1.out] | rw [HF2.out]); rintro e w' ⟨rfl, rfl⟩)
                    go_ret2
                    exact ResolvedN.err HC.out (by decide) HBA.out
                  · as_aux_lemma =>
                    have HFN : Hid (flexTo l (k + 1)) := flexTo_succ HF.out (by rw [HFB.out, f0, f1, f2]; simp [cntB]; omega)
                    clear f0 f1 f2
                    go_wp2_with (go_at_call 50; refine (rlen_any _ _).mono ?_; (first | rw [HF0.out] | rw [HF1.out] | rw [HF2.out]); rintro e w' ⟨rfl, rfl⟩)
                    go_roundw
                    case rel => exact ⟨k + 1, by omega, by go_num, HFN, HBA.out⟩
                    case measure => simp [intOf]; omega
        · obtain rfl : n = k := by omega
          exfalso
          exact HE.out (flexErr_ok HL.out HAB.out (by rw [HN.out]; exact HF.out))
theorem rres_new (v : Value) (av gp : Int) (l : List Rec) (w : World) (hv : IsRecs 5 w v l) : Calls Try.prog 37 #[.int .i64 av, .int .i64 gp, v] w (ResolvedN av gp l w) := by
  obtain ⟨a, cap, rfl, k1, k2, k3⟩ := hv
  by_cases he : flexErr av gp l = 0
  · obtain ⟨h1, h2, h3⟩ := flexErr_inv he
    rw [Bool.and_eq_true, lenB_iff, lenB_iff] at h2
    exact rres_ok a cap _ av gp l w k1 (Lib.hid rfl) h1 h2.1 h2.2 h3 he (Lib.hid k3)
  · exact rres_no a cap _ av gp l w (Lib.hid rfl) k1 k2 he (Lib.hid k3)
theorem rres_any (v : Value) (av gp : Int) (l : List Rec) (w : World) (hv : IsRecs 5 w v l) : Calls Try.prog 37 #[.int .i64 av, .int .i64 gp, v] w (Resolved av gp l w) := (rres_new v av gp l w hv).mono fun _ _ h => h.res
end Go.Proofs.Ytadkkkdecejkeaa

