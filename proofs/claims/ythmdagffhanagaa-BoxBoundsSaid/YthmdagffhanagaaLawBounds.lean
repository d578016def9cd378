/- The walk of the law BoxBounds. -/
import Derived.Test.YthmdagffhanagaaElems
import Derived.Test.YthmdagffhanagaaAwake18
import Derived.Test.YthmdagffhanagaaBoxBnd
import Derived.Test.YthmdagffhanagaaClampR
import Derived.Test.YthmdagffhanagaaOpen
import Derived.Deep.QuietTactic
import Derived.BigQuiet
namespace Go.Proofs.Ythmdagffhanagaa
open Go.RowKit
set_option linter.unusedVariables false
set_option linter.unusedSimpArgs false

theorem quiet_sum {P : Program} {f : FuncId} {args : Array Value} {w : World} {a n : Nat} {v : Value} (c : ∀ W : World, Calls P f args W fun e w' => e = .returned v ∧ W = w') :
    Calls P f args (w.drewN (a + n)) fun e w'' => e = .returned v ∧ ∃ m, w'' = w.drewN (a + m) := (c _).mono fun _ _ ⟨he, hm⟩ => ⟨he, n, hm.symm⟩
set_option maxHeartbeats 8000000 in
set_option maxRecDepth 100000 in
theorem walk_BoxBounds (v0 : Value) (xs : List Int) (v1 : Value) (av : Int) (w : World) (h0 : InInts w v0 xs) (h1 : v1 = .int .i64 av ∧ (Lit.int .i64 av).wf = true) : Calls Try.prog 5 #[v0, v1] w (True_ w) := by
  obtain ⟨rfl, -⟩ := h1
  have HU := Lib.hid h0
  clear h0
  by_cases ha0 : av < 0
  · go_enter Try.func5, Try.ntmps5
    go_wp2
    go_ret
    exact ⟨rfl, Below.refl _ _⟩
  by_cases ha1 : 1048576 < av
  · go_enter Try.func5, Try.ntmps5
    go_wp2
    go_ret
    exact ⟨rfl, Below.refl _ _⟩
  go_enter Try.func5, Try.ntmps5
  go_wp2_with fail
  refine (srcNew_any _ xs _ HU.out).mono ?_
  rintro e w1 ⟨g, rfl, hs, hg0, hg1, hb⟩
  have HG : Hid (w.heap.size ≤ g) := hg0
  have HS1 := Lib.hid hs
  have HB1 := Lib.hid hb
  clear hs hg0 hg1 hb
  go_wp2_with fail
  refine (elems_any g _ HS1.out).mono ?_
  rintro e w2 ⟨v, l, rfl, hl5, hok, hown, hs2, hg2⟩
  have HB2 := Lib.hid (HB1.out.trans (grownBy_below hg2 HG.out HS1.out.lt))
  have HT : Hid (IsRecs 5 w2 v l) := ownsRow_isRecs hown rfl hok.1
  have HFX : Hid (flexTo l l.length) := hok.2
  have HER : Hid (flexErr av 3 l = 0) := flexErr_ok (by omega) (by simp [lenB]; omega) hok.2
  have HRS : Hid (resL av 3 l = resOk av 3 l) := by show _ = _; unfold resL; rw [if_pos HER.out]
  have HBN := Lib.hid (resOk_bounds (av := av) (gp := 3) hok.2)
  have HBD := Lib.hid (resOk_bd (av := av) (gp := 3) hok.2)
  obtain ⟨R, hR⟩ : ∃ R, resOk av 3 l = R := ⟨_, rfl⟩
  rw [hR] at HBN HBD HRS
  clear hR hs2 hg2 hown hok
  obtain ⟨a, cap, rfl, k1, k2, k3⟩ := HT.out
  obtain ⟨n, hn⟩ : ∃ n, l.length = n := ⟨_, rfl⟩
  have HN := Lib.hid hn
  have HRN : Hid (R.length = n) := HBN.out.1.trans hn
  have HV := Lib.hid HT.out
  rw [hn] at hl5 k1 k3 HV HT ⊢
  have H3 := Lib.hid k3
  clear hn k1 k2 k3
  go_wp2_with fail
  refine (bres_any _ _ _ l _ HV.out).mono ?_
  rintro e w3 ⟨v3, he, hv, hb3⟩
  rw [HER.out] at he
  rw [show resL av 3 l = R from HRS.out] at hv
  subst he
  obtain ⟨ra, rcap, rfl, r1, r2, r3⟩ := hv
  rw [HRN.out] at r1 r3 ⊢
  have HR3 := Lib.hid r3
  have HB3 := Lib.hid (HB2.out.trans (hb3.mono HB2.out.size))
  have H23 := Lib.hid hb3
  clear r1 r2 r3 hb3
  go_wp2_with fail
  go_loopw [8] (fun i wr => ∃ j : Nat, j ≤ n ∧ i = .int .i64 j ∧ ∃ d, wr = w3.drewN d) (fun i _ => n - (intOf i).toNat)
  case atStart => exact ⟨0, Nat.zero_le _, rfl, 0, rfl⟩
  case round =>
    obtain ⟨j, hj, rfl, hd⟩ := hrel
    have cw : ∀ p, wr.cell? p = w3.cell? p := by
      obtain ⟨d, rfl⟩ := hd
      intro p
      simp
    have HD := Lib.hid hd
    clear hd
    by_cases hjn : j < n
    · obtain ⟨b, off, rfl, hlt, hcell⟩ := H3.out (by omega)
      obtain ⟨rb, roff, rfl, rlt, rcell⟩ := HR3.out (by omega)
      have hjn' : (j : Int) < (n : Int) := by omega
      have kb := HBN.out.2 j (by rw [HN.out]; exact hjn)
      have kf := flexB_iff.1 (HFX.out j (by rw [HN.out]; exact hjn))
      have cy := (cw _).trans (rcell j hjn)
      have hc : ∀ i, i < 5 → wr.cell? ⟨b, off + j * 5 + i, none⟩ = some (.int .i64 (gf l j i)) := fun i hi => (cw _).trans <| (H23.out.cell (p := ⟨b, off + j * 5 + i, none⟩) hlt).trans (hcell j hjn i hi)
      have c0 := hc 0 (by omega)
      rw [Nat.add_zero] at c0
      have c1 := hc 1 (by omega)
      have c2 := hc 2 (by omega)
      have c3 := hc 3 (by omega)
      have c4 := hc 4 (by omega)
      obtain ⟨y, hy⟩ : ∃ y, gz R j = y := ⟨_, rfl⟩
      obtain ⟨b0, q0⟩ : ∃ x, gf l j 0 = x := ⟨_, rfl⟩
      obtain ⟨b1, q1⟩ : ∃ x, gf l j 1 = x := ⟨_, rfl⟩
      obtain ⟨b2, q2⟩ : ∃ x, gf l j 2 = x := ⟨_, rfl⟩
      obtain ⟨b3, q3⟩ : ∃ x, gf l j 3 = x := ⟨_, rfl⟩
      obtain ⟨b4, q4⟩ : ∃ x, gf l j 4 = x := ⟨_, rfl⟩
      rw [hy] at kb cy
      rw [q0] at kb kf c0
      rw [q1] at kb kf c1
      rw [q2] at kb kf c2
      rw [q3] at kb kf c3
      rw [q4] at kb kf c4
      clear hy q0 q1 q2 q3 q4 hc hcell rcell cw
      obtain ⟨⟨kb1, kb2, kb3⟩, kb4⟩ := kb
      have HK4 := Lib.hid kb4
      clear kb4 kf
      have d1 : decide (y < b1) = false := decide_eq_false (by omega)
      by_cases h12 : b1 ≤ b2
      all_goals
        first
          | (have e2 := kb2 h12; have d2 : decide (b1 ≤ b2) = true := decide_eq_true h12; have d3 : decide (b2 < y) = false := decide_eq_false (by omega); have d4 : decide (b2 < b1) = false := decide_eq_false (by omega))
          | (have e2 := kb3 (by omega); subst e2; have d2 : decide (y ≤ b2) = false := decide_eq_false h12; have d4 : decide (b2 < y) = true := decide_eq_true (by omega))
        clear kb1 kb2 kb3
        go_wp2_with fail
        go_quiet (fail)
        go_wp2_with fail
        try clear e2
        clear h12 d1 d2
        try clear d3
        try clear d4
        by_cases h3 : b3 = 0
        · subst h3
          by_cases h4 : b4 = 0
          · subst h4
            have e5 := HK4.out rfl rfl
            have e6 := (beq_iff_eq (α := Int)).mpr e5
            clear e5
            go_quiet ((go_at_call 18; exact quiet_sum (fun W => rclamp_any _ _ _ W)))
            go_wp2
            go_roundw
            case rel => exact ⟨j + 1, by omega, by go_num, by obtain ⟨d, rfl⟩ := HD.out; first | exact ⟨_, rfl⟩ | (simp only [World.drewN_drewN]; exact ⟨_, rfl⟩)⟩
            case measure => simp [intOf]; omega
          ·
            have d6 : (b4 == 0) = false := by simpa using h4
            clear h4
            go_quiet (fail)
            go_wp2
            go_roundw
            case rel => exact ⟨j + 1, by omega, by go_num, by obtain ⟨d, rfl⟩ := HD.out; first | exact ⟨_, rfl⟩ | (simp only [World.drewN_drewN]; exact ⟨_, rfl⟩)⟩
            case measure => simp [intOf]; omega
        · have d6 : (b3 == 0) = false := by simpa using h3
          clear h3
          go_quiet (fail)
          go_wp2
          go_roundw
          case rel => exact ⟨j + 1, by omega, by go_num, by obtain ⟨d, rfl⟩ := HD.out; first | exact ⟨_, rfl⟩ | (simp only [World.drewN_drewN]; exact ⟨_, rfl⟩)⟩
          case measure => simp [intOf]; omega
    · obtain rfl : j = n := by omega
      go_wp2_with (go_at_call 14; refine (awake_any _).mono ?_; rintro e w5 ⟨rfl, hb5⟩)
      go_ret
      obtain ⟨d, rfl⟩ := HD.out
      exact ⟨rfl, (Below_drewN HB3.out d).trans (hb5.mono (by have := HB3.out.size; simpa using this))⟩
end Go.Proofs.Ythmdagffhanagaa

