/- valid of package grid: for all arguments. -/
import Derived.Test.YtadkkkdecejkeaaTrkPlain
import Derived.Test.YtadkkkdecejkeaaDem
namespace Go.Proofs.Ytadkkkdecejkeaa
open Go.RowKit
attribute [local go_sem ↓] Go.wp_at_zero Go.wp_at_succ
set_option linter.unusedVariables false
set_option linter.unusedSimpArgs false

theorem trk_eq (kd x : Int) : trackB kd x = trkB kd x := rfl
/-- The first k tracks are valid. -/
def trksTo (l : List Rec) (k : Nat) : Prop := ∀ i, i < k → trkB (gf l i 0) (gf l i 1) = true
theorem trksB_of {l : List Rec} (h : trksTo l l.length) : trksB l = true := List.all_eq_true.2 fun i hi => h i (List.mem_range.1 hi)
theorem trksB_not {l : List Rec} {k : Nat} (hk : k < l.length) (h : trkB (gf l k 0) (gf l k 1) = false) : trksB l = false := by
  cases c : trksB l with
  | false => rfl
  | true => have := trksB_at c hk; rw [h] at this; cases this
theorem itsB_of {it : List Rec} {n : Nat} (h : ∀ j, j < it.length → itB it n j = true) : itsB it n = true := List.all_eq_true.2 fun i hi => h i (List.mem_range.1 hi)
theorem itsB_not {it : List Rec} {n k : Nat} (hk : k < it.length) (h : itB it n k = false) : itsB it n = false := by
  cases c : itsB it n with
  | false => rfl
  | true => have := itsB_at c hk; rw [h] at this; cases this
theorem gErr_long {av gp : Int} {l it : List Rec} (h : 24 < l.length ∨ 100 < it.length) : gErr av gp l it = 2 := by unfold gErr; rw [if_pos h]
theorem gErr_bad {av gp : Int} {l it : List Rec} (h : ¬ (24 < l.length ∨ 100 < it.length)) (h2 : (lenB av && lenB gp && trksB l && itsB it l.length) = false) : gErr av gp l it = 1 := by unfold gErr; rw [if_neg h, if_neg (by rw [h2]; simp)]
theorem gErr_good {av gp : Int} {l it : List Rec} (h : ¬ (24 < l.length ∨ 100 < it.length)) (h2 : (lenB av && lenB gp && trksB l && itsB it l.length) = true) : gErr av gp l it = 0 := by unfold gErr; rw [if_neg h, if_pos h2]

set_option maxHeartbeats 4000000 in
theorem tindex_any (v : Value) (l : List Rec) (w : World) (hv : IsRecs 2 w v l) (hl : l.length ≤ 24) :
    Calls Try.prog 51 #[v, .func (.func 40) #[] #[]] w fun e w' => ∃ z : Int, e = .returned (.int .i64 z) ∧ (decide (0 ≤ z) = !trksB l) ∧ Below w.heap.size w w' := by
  obtain ⟨a, cap, rfl, h1, h2, h3⟩ := hv
  obtain ⟨n, hn⟩ : ∃ n, l.length = n := ⟨_, rfl⟩
  have HN := Lib.hid hn
  rw [hn] at h1 h3 hl ⊢
  have H3 := Lib.hid h3
  unfold maxLen at h2
  have hn' : (n : Int) ≤ 24 := by omega
  clear h3 hn
  go_enter Try.func51, Try.ntmps51
  go_wp2_with fail
  go_loopw [8] (fun i wr => ∃ k : Nat, k ≤ n ∧ i = .int .i64 k ∧ trksTo l k ∧ Below w.heap.size w wr) (fun i _ => n - (intOf i).toNat)
  case atStart => exact ⟨0, Nat.zero_le _, rfl, fun i h => absurd h (Nat.not_lt_zero _), Below.refl _ _⟩
  case round =>
    obtain ⟨k, hk, rfl, htk, hbl⟩ := hrel
    have HB := Lib.hid hbl
    have HTK := Lib.hid htk
    clear hbl htk
    by_cases hkn : k < n
    · obtain ⟨b, off, rfl, hlt, hcell⟩ := H3.out (by omega)
      have k0 := (HB.out.cell (p := ⟨b, off + k * 2 + 0, none⟩) hlt).trans (hcell k hkn 0 (by omega))
      have k1 := (HB.out.cell (p := ⟨b, off + k * 2 + 1, none⟩) hlt).trans (hcell k hkn 1 (by omega))
      rw [Nat.add_zero] at k0
      obtain ⟨T, hT⟩ : ∃ T, trkB (gf l k 0) (gf l k 1) = T := ⟨_, rfl⟩
      have HT := Lib.hid hT
      have HTT : Hid (trackB (gf l k 0) (gf l k 1) = T) := hT
      obtain ⟨q0, hq0⟩ : ∃ q, gf l k 0 = q := ⟨_, rfl⟩
      obtain ⟨q1, hq1⟩ : ∃ q, gf l k 1 = q := ⟨_, rfl⟩
      rw [hq0] at k0 HTT
      rw [hq1] at k1 HTT
      have hkn' : (k : Int) < (n : Int) := by omega
      have hk0 : (0 : Int) ≤ (k : Int) := by omega
      clear hcell hlt hq0 hq1 hT
      go_wp2_with fail
      refine (valid1_any _ _ _).mono ?_
      rw [HTT.out]
      rintro e w' ⟨rfl, hb⟩
      have HB2 : Hid (Below w.heap.size w w') := HB.out.trans (hb.mono HB.out.size)
      clear hb
      cases T with
      | true =>
        have HTN : Hid (trksTo l (k + 1)) := fun i hi => by
          by_cases e : i = k
          · subst e; exact HT.out
          · exact HTK.out i (by omega)
        go_wp2_with fail
        go_roundw
        case rel => exact ⟨k + 1, by omega, by go_num, HTN.out, HB2.out⟩
        case measure => simp [intOf]; omega
      | false =>
        have HTN : Hid (trksB l = false) := trksB_not (by rw [HN.out]; exact hkn) HT.out
        go_wp2
        go_ret
        exact ⟨_, rfl, by rw [HTN.out]; simp, HB2.out⟩
    · obtain rfl : k = n := by omega
      have HTN : Hid (trksB l = true) := trksB_of (by rw [HN.out]; exact HTK.out)
      go_wp2
      go_ret
      exact ⟨_, rfl, by rw [HTN.out]; decide, HB.out⟩
set_option maxHeartbeats 4000000 in
theorem tcontains_any (v : Value) (l : List Rec) (w : World) (hv : IsRecs 2 w v l) (hl : l.length ≤ 24) :
    Calls Try.prog 39 #[v, .func (.func 40) #[] #[]] w (Tells (!trksB l) w) := by
  have HV := Lib.hid hv
  clear hv
  go_enter Try.func39, Try.ntmps39
  go_wp2_with fail
  refine (tindex_any v l _ HV.out hl).mono ?_
  rintro e w' ⟨z, rfl, hz, hb⟩
  have HB := Lib.hid hb
  have HZ := Lib.hid hz
  clear hb hz
  by_cases h0 : 0 ≤ z
  · go_wp2
    go_ret
    exact ⟨ret_bool (by rw [← HZ.out]; simp [h0]), HB.out⟩
  · go_wp2
    go_ret
    exact ⟨ret_bool (by rw [← HZ.out]; first | done | (simp; done) | (simp; omega)), HB.out⟩
/-- The error, and only new blocks. -/
def Errs (c : Int) (w : World) (e : Ending) (w' : World) : Prop := e = .returned (.int .i64 c) ∧ Below w.heap.size w w'
set_option maxHeartbeats 8000000 in
set_option maxRecDepth 100000 in
theorem gvalid_any (v vi : Value) (av gp : Int) (l it : List Rec) (w : World) (hv : IsRecs 2 w v l) (hi : InRecs 4 w vi it) :
    Calls Try.prog 28 #[.int .i64 av, .int .i64 gp, v, vi] w (Errs (gErr av gp l it) w) := by
  have HV := Lib.hid hv
  obtain ⟨a, cap, rfl, h1, h2, h3⟩ := hv
  obtain ⟨⟨ia, icap, rfl, g1, g2, g3⟩, gin⟩ := hi
  obtain ⟨n, hn⟩ : ∃ n, l.length = n := ⟨_, rfl⟩
  obtain ⟨q, hq⟩ : ∃ q, it.length = q := ⟨_, rfl⟩
  have HN := Lib.hid hn
  have HQ := Lib.hid hq
  rw [hn] at h1 HV ⊢
  rw [hq] at g1 g3 ⊢
  have G3 := Lib.hid g3
  have GIN := Lib.hid gin
  unfold maxLen at h2 g2
  clear h3 g3 hn hq gin
  by_cases hl : 24 < n
  · as_aux_lemma =>
    have hl' : (24 : Int) < (n : Int) := by omega
    have HE : Hid (gErr av gp l it = 2) := gErr_long (.inl (by rw [HN.out]; exact hl))
    go_enter Try.func28, Try.ntmps28
    go_wp2
    go_ret
    exact ⟨by rw [HE.out]; rfl, Below.refl _ _⟩
  have hl' : (n : Int) ≤ 24 := by omega
  by_cases hm : 100 < q
  · as_aux_lemma =>
    have hm' : (100 : Int) < (q : Int) := by omega
    have HE : Hid (gErr av gp l it = 2) := gErr_long (.inr (by rw [HQ.out]; exact hm))
    go_enter Try.func28, Try.ntmps28
    go_wp2
    go_ret
    exact ⟨by rw [HE.out]; rfl, Below.refl _ _⟩
  have hm' : (q : Int) ≤ 100 := by omega
  have HNL : Hid (¬ (24 < l.length ∨ 100 < it.length)) := by show ¬ _; rw [HN.out, HQ.out]; omega
  cases ha : lenB av with
  | false =>
    as_aux_lemma =>
    have HE : Hid (gErr av gp l it = 1) := gErr_bad HNL.out (by rw [ha]; simp)
    have HA := Lib.hid ha
    clear ha
    go_enter Try.func28, Try.ntmps28
    go_wp2_with (go_at_call 38; refine (glen_any _ _).mono ?_; rw [HA.out]; rintro e w' ⟨rfl, rfl⟩)
    go_ret
    exact ⟨by rw [HE.out]; rfl, Below.refl _ _⟩
  | true =>
    cases hg : lenB gp with
    | false =>
      as_aux_lemma =>
      have HE : Hid (gErr av gp l it = 1) := gErr_bad HNL.out (by rw [hg]; simp)
      have HA := Lib.hid ha
      have HG := Lib.hid hg
      clear ha hg
      go_enter Try.func28, Try.ntmps28
      go_wp2_with (go_at_call 38; refine (glen_any _ _).mono ?_; (first | rw [HA.out] | rw [HG.out]); rintro e w' ⟨rfl, rfl⟩)
      go_ret
      exact ⟨by rw [HE.out]; rfl, Below.refl _ _⟩
    | true =>
      have HA := Lib.hid ha
      have HG := Lib.hid hg
      have HTC : Hid (∀ W, W = w → Calls Try.prog 39 #[.slice a n cap, .func (.func 40) #[] #[]] W (Tells (!trksB l) W)) := fun W e => by subst e; exact tcontains_any _ l _ HV.out (by rw [HN.out]; omega)
      have HER : Hid (trksB l = true → ∀ B, itsB it l.length = B → gErr av gp l it = if B then 0 else 1) := fun h B hB => by
        cases B
        · exact gErr_bad HNL.out (by rw [hB]; simp)
        · exact gErr_good HNL.out (by rw [ha, hg, h, hB]; rfl)
      have HE1 : Hid (trksB l = false → gErr av gp l it = 1) := fun h => gErr_bad HNL.out (by rw [h]; simp)
      clear ha hg
      cases ht : trksB l with
      | false =>
        as_aux_lemma =>
        have HT := Lib.hid ht
        have HE := Lib.hid (HE1.out ht)
        clear ht
        go_enter Try.func28, Try.ntmps28
        go_wp2_with (first | (go_at_call 38; refine (glen_any _ _).mono ?_; (first | rw [HA.out] | rw [HG.out]); rintro e w' ⟨rfl, rfl⟩) | (go_at_call 39; refine (HTC.out _ rfl).mono ?_; rw [HT.out]; rintro e w2 ⟨rfl, hb⟩; have HB := Lib.hid hb))
        go_ret
        exact ⟨by rw [HE.out]; rfl, HB.out⟩
      | true =>
        as_aux_lemma =>
        have HT := Lib.hid ht
        have HER2 := Lib.hid (HER.out ht)
        clear ht HER HE1
        go_enter Try.func28, Try.ntmps28
        go_wp2_with (first | (go_at_call 38; refine (glen_any _ _).mono ?_; (first | rw [HA.out] | rw [HG.out]); rintro e w' ⟨rfl, rfl⟩) | (go_at_call 39; refine (HTC.out _ rfl).mono ?_; rw [HT.out]; rintro e w2 ⟨rfl, hb⟩; have HB := Lib.hid hb))
        go_loopw [33] (fun i wr => ∃ k : Nat, k ≤ q ∧ i = .int .i64 k ∧ (∀ j, j < k → itB it n j = true) ∧ Below w.heap.size w wr) (fun i _ => q - (intOf i).toNat)
        case atStart => exact ⟨0, Nat.zero_le _, rfl, fun i h => absurd h (Nat.not_lt_zero _), HB.out⟩
        case round =>
          obtain ⟨k, hk, rfl, hik, hbl⟩ := hrel
          have HBk := Lib.hid hbl
          have HIK := Lib.hid hik
          clear hbl hik
          by_cases hkq : k < q
          · obtain ⟨ib, io, rfl, ilt, icell⟩ := G3.out (by omega)
            have i0 := (HBk.out.cell (p := ⟨ib, io + k * 4 + 0, none⟩) ilt).trans (icell k hkq 0 (by omega))
            have i1 := (HBk.out.cell (p := ⟨ib, io + k * 4 + 1, none⟩) ilt).trans (icell k hkq 1 (by omega))
            have i2 := (HBk.out.cell (p := ⟨ib, io + k * 4 + 2, none⟩) ilt).trans (icell k hkq 2 (by omega))
            have i3 := (HBk.out.cell (p := ⟨ib, io + k * 4 + 3, none⟩) ilt).trans (icell k hkq 3 (by omega))
            rw [Nat.add_zero] at i0
            have b0 := GIN.out k 0
            have b1 := GIN.out k 1
            have HITB : Hid (itB it n k = (lenB (gf it k 2) && lenB (gf it k 3) && decide (0 ≤ gf it k 0) && decide (gf it k 0 < (n : Int)) && decide (1 ≤ gf it k 1) && decide (gf it k 1 ≤ (n : Int) - gf it k 0))) := rfl
            obtain ⟨q0, hq0⟩ : ∃ q, gf it k 0 = q := ⟨_, rfl⟩
            obtain ⟨q1, hq1⟩ : ∃ q, gf it k 1 = q := ⟨_, rfl⟩
            obtain ⟨q2, hq2⟩ : ∃ q, gf it k 2 = q := ⟨_, rfl⟩
            obtain ⟨q3, hq3⟩ : ∃ q, gf it k 3 = q := ⟨_, rfl⟩
            rw [hq0, hq1, hq2, hq3] at HITB
            rw [hq0] at i0 b0
            rw [hq1] at i1 b1
            rw [hq2] at i2
            rw [hq3] at i3
            have hkq' : (k : Int) < (q : Int) := by omega
            have hk0 : (0 : Int) ≤ (k : Int) := by omega
            have HBA : Hid (Below w.heap.size w (wr.alloc (.cells #[.int .i64 q0, .int .i64 q1, .int .i64 q2, .int .i64 q3] 44))) := HBk.out.alloc HBk.out.size _
            have HBAD : Hid (itB it n k = false → gErr av gp l it = 1) := fun h => HER2.out false (by rw [HN.out]; exact itsB_not (by rw [HQ.out]; exact hkq) h)
            clear hq0 hq1 hq2 hq3 icell ilt
            obtain ⟨B2, hB2⟩ : ∃ B, lenB q2 = B := ⟨_, rfl⟩
            obtain ⟨B3, hB3⟩ : ∃ B, lenB q3 = B := ⟨_, rfl⟩
            have HB2 := Lib.hid hB2
            have HB3 := Lib.hid hB3
            rw [hB2, hB3] at HITB
            clear hB2 hB3
            have LNS : True := trivial
            cases B2 with
            | false =>
              have HF := Lib.hid (HBAD.out (by rw [HITB.out]; simp))
              go_wp2_with (go_at_call 38; refine (glen_any _ _).mono ?_; (first | rw [HB2.out] | rw [HB3.out]); rintro e w' ⟨rfl, rfl⟩)
              go_ret
              exact ⟨by rw [HF.out]; rfl, HBA.out⟩
            | true =>
              cases B3 with
              | false =>
                have HF := Lib.hid (HBAD.out (by rw [HITB.out]; simp))
                go_wp2_with (go_at_call 38; refine (glen_any _ _).mono ?_; (first | rw [HB2.out] | rw [HB3.out]); rintro e w' ⟨rfl, rfl⟩)
                go_ret
                exact ⟨by rw [HF.out]; rfl, HBA.out⟩
              | true =>
                by_cases c0 : q0 < 0
                · have HF := Lib.hid (HBAD.out (by rw [HITB.out]; simp; omega))
                  go_wp2_with (go_at_call 38; refine (glen_any _ _).mono ?_; (first | rw [HB2.out] | rw [HB3.out]); rintro e w' ⟨rfl, rfl⟩)
                  go_ret
                  exact ⟨by rw [HF.out]; rfl, HBA.out⟩
                · by_cases c1 : q0 < (n : Int)
                  · have c1' : ¬ (n : Int) ≤ q0 := by omega
                    by_cases c2 : q1 < 1
                    · have HF := Lib.hid (HBAD.out (by rw [HITB.out]; simp; omega))
                      go_wp2_with (go_at_call 38; refine (glen_any _ _).mono ?_; (first | rw [HB2.out] | rw [HB3.out]); rintro e w' ⟨rfl, rfl⟩)
                      go_ret
                      exact ⟨by rw [HF.out]; rfl, HBA.out⟩
                    · have hws : IntKind.i64.wrap ((n : Int) - q0) = (n : Int) - q0 := IntWalk.i64_in _ (by omega)
                      by_cases c3 : (n : Int) - q0 < q1
                      · have HF := Lib.hid (HBAD.out (by rw [HITB.out]; simp; omega))
                        go_wp2_with (go_at_call 38; refine (glen_any _ _).mono ?_; (first | rw [HB2.out] | rw [HB3.out]); rintro e w' ⟨rfl, rfl⟩)
                        go_ret
                        exact ⟨by rw [HF.out]; rfl, HBA.out⟩
                      · have HF : Hid (itB it n k = true) := by show _ = _; rw [HITB.out]; simp; omega
                        go_wp2_with (go_at_call 38; refine (glen_any _ _).mono ?_; (first | rw [HB2.out] | rw [HB3.out]); rintro e w' ⟨rfl, rfl⟩)
                        go_roundw
                        case rel => exact ⟨k + 1, by omega, by go_num, fun j hj => by by_cases e : j = k; (subst e; exact HF.out); exact HIK.out j (by omega), HBA.out⟩
                        case measure => simp [intOf]; omega
                  · have c1' : (n : Int) ≤ q0 := by omega
                    have HF := Lib.hid (HBAD.out (by rw [HITB.out]; simp; omega))
                    go_wp2_with (go_at_call 38; refine (glen_any _ _).mono ?_; (first | rw [HB2.out] | rw [HB3.out]); rintro e w' ⟨rfl, rfl⟩)
                    go_ret
                    exact ⟨by rw [HF.out]; rfl, HBA.out⟩
          · obtain rfl : k = q := by omega
            have HF := Lib.hid (HER2.out true (by rw [HN.out]; exact itsB_of (by rw [HQ.out]; exact HIK.out)))
            go_wp2
            go_ret
            exact ⟨by rw [HF.out]; rfl, HBk.out⟩
end Go.Proofs.Ytadkkkdecejkeaa

