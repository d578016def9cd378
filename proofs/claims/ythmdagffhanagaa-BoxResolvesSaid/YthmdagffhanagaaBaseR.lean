/- Baseline of the reference. -/
import Derived.Test.YthmdagffhanagaaBaseP
import Derived.Test.YthmdagffhanagaaFillTo
import Derived.Test.YthmdagffhanagaaBoxStep
namespace Go.Proofs.Ythmdagffhanagaa
open Go.RowKit
set_option linter.unusedVariables false
set_option linter.unusedSimpArgs false

set_option maxHeartbeats 400000 in
theorem rlen_any (x : Int) (w : World) : Calls Try.prog 30 #[.int .i64 x] w fun e w' => e = .returned (.bool (lenB x)) ∧ w = w' := by
  go_enter Try.func30, Try.ntmps30
  go_wp2
  all_goals
    go_ret
    exact ⟨ret_bool (by rw [Bool.eq_iff_iff]; simp [lenB]; try omega), rfl⟩

set_option maxHeartbeats 8000000 in
theorem rbase_any (v u : Value) (hs bs : List Int) (w : World) (hv : IsInts w v hs) (hu : IsInts w u bs) :
    Calls Try.prog 22 #[v, u] w (Based hs bs w) := by
  have HV := Lib.hid hv
  have HU := Lib.hid hu
  obtain ⟨a, c, rfl, h1, h2, h3⟩ := hv
  obtain ⟨b, d, rfl, k1, k2, k3⟩ := hu
  unfold maxLen at h2 k2
  obtain ⟨n, hn⟩ : ∃ n, hs.length = n := ⟨_, rfl⟩
  obtain ⟨m, hm⟩ : ∃ m, bs.length = m := ⟨_, rfl⟩
  have HN2 := Lib.hid hn
  have HN := Lib.hid hm
  rw [hn] at h1 h3 HV ⊢
  rw [hm] at k1 k3 HU ⊢
  have H3 := Lib.hid h3
  have K3 := Lib.hid k3
  clear h3 k3 hn hm
  by_cases hnm : n = m
  case neg =>
    have HNO : Hid (baseOk hs bs = false) := by
      show _ = _
      cases e : baseOk hs bs with
      | false => rfl
      | true => have := (baseOk_iff.1 e).1; rw [HN.out, HN2.out] at this; exact absurd this hnm
    have hnm' : ((n : Int) != (m : Int)) = true := by simp; omega
    clear hnm
    go_enter Try.func22, Try.ntmps22
    go_wp2
    go_ret2
    exact Based.no HNO.out
  subst hnm
  by_cases hl : 100 < n
  · have HNO : Hid (baseOk hs bs = false) := by
      show _ = _
      cases e : baseOk hs bs with
      | false => rfl
      | true => have := (baseOk_iff.1 e).2.1; rw [HN2.out] at this; omega
    have hl' : (100 : Int) < (n : Int) := by omega
    go_enter Try.func22, Try.ntmps22
    go_wp2
    go_ret2
    exact Based.no HNO.out
  have hl' : (n : Int) ≤ 100 := by omega
  go_enter Try.func22, Try.ntmps22
  go_wp2_with fail
  go_loop [6, 7] (fun t i => ∃ k : Nat, k ≤ n ∧ i = .int .i64 k ∧ t = .int .i64 (topTo bs k) ∧ Hid (∀ i, i < k → lenB (gz hs i) = true ∧ lenB (gz bs i) = true)) (fun _ i => n - (intOf i).toNat)
  case atStart => exact ⟨0, Nat.zero_le _, rfl, rfl, fun i hi => absurd hi (Nat.not_lt_zero _)⟩
  case round =>
    obtain ⟨k, hk, rfl, rfl, HOK⟩ := hrel
    have tb := (topTo_bd (bs := bs) k (fun i hi => lenB_iff.1 (HOK.out i hi).2)).1
    by_cases hkn : k < n
    · obtain ⟨g, off, rfl, hlt, hcell⟩ := K3.out (by omega)
      obtain ⟨g2, off2, rfl, hlt2, hcell2⟩ := H3.out (by omega)
      have hc := hcell k hkn
      have hc2 := hcell2 k hkn
      have hkn' : (k : Int) < (n : Int) := by omega
      have hk0 : (0 : Int) ≤ (k : Int) := by omega
      have HS : Hid (topTo bs (k + 1) = max (topTo bs k) (gz bs k)) := Lib.hid rfl
      have HQ : Hid (lenB (gz hs k) = false ∨ lenB (gz bs k) = false → baseOk hs bs = false) := by
        intro h
        cases e : baseOk hs bs with
        | false => rfl
        | true =>
          obtain ⟨-, -, y1, y2⟩ := baseOk_iff.1 e
          rcases h with h | h
          · rw [lensB_no (by rw [HN2.out]; exact hkn) h] at y1; cases y1
          · rw [lensB_no (by rw [HN.out]; exact hkn) h] at y2; cases y2
      have HO2 : Hid (lenB (gz hs k) = true → lenB (gz bs k) = true → ∀ i, i < k + 1 → lenB (gz hs i) = true ∧ lenB (gz bs i) = true) := by
        intro x1 x2 i hi
        by_cases e : i = k
        · subst e; exact ⟨x1, x2⟩
        · exact HOK.out i (by omega)
      obtain ⟨t, ht⟩ : ∃ t, topTo bs k = t := ⟨_, rfl⟩
      obtain ⟨z, hz⟩ : ∃ z, gz bs k = z := ⟨_, rfl⟩
      obtain ⟨y, hy⟩ : ∃ y, gz hs k = y := ⟨_, rfl⟩
      rw [ht, hz] at HS
      rw [ht] at tb ⊢
      rw [hz] at hc HQ HO2
      rw [hy] at hc2 HQ HO2
      clear hcell hcell2 ht hz hy
      cases hb1 : lenB y with
      | false =>
        have H1 := Lib.hid hb1
        clear hb1
        go_wp2_with fail
        refine (rlen_any _ _).mono ?_
        rw [H1.out]
        rintro e w' ⟨rfl, rfl⟩
        go_wp2
        go_ret2
        exact Based.no (HQ.out (.inl H1.out))
      | true =>
        have H1 := Lib.hid hb1
        clear hb1
        cases hb2 : lenB z with
        | false =>
          have H2 := Lib.hid hb2
          clear hb2
          go_wp2_with fail
          refine (rlen_any _ _).mono ?_
          rw [H1.out]
          rintro e w' ⟨rfl, rfl⟩
          go_wp2_with fail
          refine (rlen_any _ _).mono ?_
          rw [H2.out]
          rintro e w' ⟨rfl, rfl⟩
          go_wp2
          go_ret2
          exact Based.no (HQ.out (.inr H2.out))
        | true =>
          have H2 := Lib.hid hb2
          clear hb2
          have zb := lenB_iff.1 H2.out
          by_cases hm : t < z
          all_goals
            go_wp2_with fail
            refine (rlen_any _ _).mono ?_
            rw [H1.out]
            rintro e w' ⟨rfl, rfl⟩
            go_wp2_with fail
            refine (rlen_any _ _).mono ?_
            rw [H2.out]
            rintro e w' ⟨rfl, rfl⟩
            go_wp2
            go_round
            case rel => exact ⟨k + 1, by omega, by go_num, by rw [HS.out]; congr 1; omega, HO2.out H1.out H2.out⟩
            case measure => simp [intOf]; omega
    · obtain rfl : n = k := by omega
      have HH : Hid (lensB hs = true) := lensB_yes fun k hk => (HOK.out k (by rw [← HN2.out]; exact hk)).1
      have HB : Hid (lensB bs = true) := lensB_yes fun k hk => (HOK.out k (by rw [← HN.out]; exact hk)).2
      have hok : baseOk hs bs = true := baseOk_iff.2 ⟨HN2.out.trans HN.out.symm, by rw [HN2.out]; omega, HH.out, HB.out⟩
      have HRL : Hid (baseL hs bs = bOffs bs (topTo bs n) n) := by show _ = _; unfold baseL; rw [if_pos hok, HN.out]
      have HRH : Hid (baseH hs bs = htTo hs bs (topTo bs n) n) := by show _ = _; unfold baseH; rw [if_pos hok, HN.out]
      clear hok
      obtain ⟨t, ht⟩ : ∃ t, topTo bs n = t := ⟨_, rfl⟩
      have HT := Lib.hid ht
      rw [ht] at HRL HRH tb ⊢
      clear ht
      have hmk := make_ints n (by omega)
      have HMD : Hid (OwnI (w.alloc (.cells (madeCells #[.int .i64 0] n) 3)) w.heap.size (fillTo (fun i => t - gz bs i) n 0)) := by
        show OwnI _ _ _
        rw [fillTo_zero]; exact OwnI.made w n
      have HBM : Hid (Below w.heap.size w (w.alloc (.cells (madeCells #[.int .i64 0] n) 3))) := (Below.refl _ _).alloc (Nat.le_refl _) _
      go_wp2_with fail
      clear hmk
      go_loopw [9, 10] (fun h i wr => ∃ k : Nat, k ≤ n ∧ i = .int .i64 k ∧ h = .int .i64 (htTo hs bs t k) ∧ OwnI wr w.heap.size (fillTo (fun i => t - gz bs i) n k) ∧ Below w.heap.size w wr) (fun _ i _ => n - (intOf i).toNat)
      case atStart => exact ⟨0, Nat.zero_le _, rfl, rfl, HMD.out, HBM.out⟩
      case round =>
        obtain ⟨k, hk2, rfl, rfl, hO, hbl⟩ := hrel
        have HO := Lib.hid hO
        have HBL := Lib.hid hbl
        clear hO hbl
        have hb := (htTo_bd (hs := hs) (bs := bs) tb k (fun i hi => ⟨⟨(lensZ HB.out (by rw [HN.out]; omega)).1, by have := (topTo_bd (bs := bs) n (fun i hi => lensZ HB.out (by rw [HN.out]; omega))).2 i (by omega); rw [HT.out] at this; exact this⟩, lensZ HH.out (by rw [HN2.out]; omega)⟩)).1
        by_cases hkn : k < n
        · obtain ⟨g, off, rfl, hlt, hcell⟩ := K3.out (by omega)
          obtain ⟨g2, off2, rfl, hlt2, hcell2⟩ := H3.out (by omega)
          have hc := (HBL.out.cell (p := ⟨g, off + k, none⟩) hlt).trans (hcell k hkn)
          have hof := HO.out.cell (i := k) (by rw [fillTo_len]; exact hkn)
          have hfr := HO.out.free k
          have zb := lensZ HB.out (k := k) (by rw [HN.out]; exact hkn)
          have zh := lensZ HH.out (k := k) (by rw [HN2.out]; exact hkn)
          have HS : Hid (htTo hs bs t (k + 1) = max (htTo hs bs t k) (t - gz bs k + gz hs k)) := Lib.hid rfl
          have HO5 : Hid (OwnI (wr.setCell ⟨w.heap.size, k, none⟩ (.int .i64 (t - gz bs k))) w.heap.size (fillTo (fun i => t - gz bs i) n (k + 1))) := by
            show OwnI _ _ _
            rw [← fillTo_set _ hkn]
            exact HO.out.set k _
          have HB5 : Hid (Below w.heap.size w (wr.setCell ⟨w.heap.size, k, none⟩ (.int .i64 (t - gz bs k)))) := HBL.out.setCell (p := ⟨w.heap.size, k, none⟩) (Nat.le_refl _) _
          have hkn' : (k : Int) < (n : Int) := by omega
          have hk0 : (0 : Int) ≤ (k : Int) := by omega
          obtain ⟨x, hx⟩ : ∃ x, htTo hs bs t k = x := ⟨_, rfl⟩
          obtain ⟨y, hy⟩ : ∃ y, gz bs k = y := ⟨_, rfl⟩
          obtain ⟨z, hz⟩ : ∃ z, gz hs k = z := ⟨_, rfl⟩
          have HY := Lib.hid hy
          have HZ := Lib.hid hz
          rw [hx, hy, hz] at HS
          rw [hy] at zb hc HO5 HB5
          rw [hz] at zh
          rw [hx] at hb ⊢
          have HC2 := Lib.hid hcell2
          clear hcell hcell2 hx hy hz
          go_wp2_with fail
          clear hc hof hfr
          obtain ⟨W5, hW5⟩ : ∃ W5, (wr.setCell ⟨w.heap.size, k, none⟩ (.int .i64 (t - y))) = W5 := ⟨_, rfl⟩
          rw [hW5] at HO5 HB5 ⊢
          clear hW5
          have hc1 := HO5.out.cell (i := k) (by rw [fillTo_len]; exact hkn)
          rw [fillTo_at _ hkn (by omega), HY.out] at hc1
          have hc2 := (HB5.out.cell (p := ⟨g2, off2 + k, none⟩) hlt2).trans (HC2.out k hkn)
          rw [HZ.out] at hc2
          have x1 : IntKind.i64.wrap (t - y + z) = t - y + z := IntWalk.i64_in _ (by omega)
          by_cases hm : x < t - y + z
          all_goals
            go_quiet (fail)
            clear x1
            go_wp2
            go_roundw
            case rel => exact ⟨k + 1, by omega, by go_num, by rw [HS.out]; congr 1; omega, HO5.out.drewN _, Below_drewN HB5.out _⟩
            case measure => simp [intOf]; omega
        · obtain rfl : n = k := by omega
          have hf : IsInts wr (.slice (some ⟨w.heap.size, 0, none⟩) n n) (bOffs bs t n) := by
            have h := HO.out
            rw [fillTo_all] at h
            have := h.isInts (by simp [maxLen]; omega)
            simpa [bOffs] using this
          have HF := Lib.hid hf
          clear hf
          go_wp2
          go_ret2
          exact ⟨_, by rw [HRH.out]; rfl, by rw [HRL.out]; exact HF.out, HBL.out⟩
end Go.Proofs.Ythmdagffhanagaa
