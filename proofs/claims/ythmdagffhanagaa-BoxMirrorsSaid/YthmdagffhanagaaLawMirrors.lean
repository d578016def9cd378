/- The walk of the law BoxMirrors. -/
import Derived.Test.YthmdagffhanagaaOffFacts
import Derived.Test.YthmdagffhanagaaAwake18
import Derived.Test.YthmdagffhanagaaOpen
import Derived.Deep.QuietTactic
import Derived.BigQuiet
namespace Go.Proofs.Ythmdagffhanagaa
open Go.RowKit
set_option linter.unusedVariables false
set_option linter.unusedSimpArgs false

set_option maxHeartbeats 8000000 in
set_option maxRecDepth 100000 in
theorem walk_BoxMirrors (v0 : Value) (av0 : Int) (v1 : Value) (gp0 : Int) (v2 : Value) (ju0 : Int) (v3 : Value) (al0 : Int) (v4 : Value) (sz0 : Int) (v5 : Value) (xs : List Int) (w : World)
    (h0 : v0 = .int .i64 av0 ∧ (Lit.int .i64 av0).wf = true) (h1 : v1 = .int .i64 gp0 ∧ (Lit.int .i64 gp0).wf = true) (h2 : v2 = .int .i64 ju0 ∧ (Lit.int .i64 ju0).wf = true) (h3 : v3 = .int .i64 al0 ∧ (Lit.int .i64 al0).wf = true) (h4 : v4 = .int .i64 sz0 ∧ (Lit.int .i64 sz0).wf = true)
    (h5 : InInts w v5 xs) : Calls Try.prog 10 #[v0, v1, v2, v3, v4, v5] w (True_ w) := by
  obtain ⟨rfl, -⟩ := h0
  obtain ⟨rfl, -⟩ := h1
  obtain ⟨rfl, -⟩ := h2
  obtain ⟨rfl, -⟩ := h3
  obtain ⟨rfl, -⟩ := h4
  obtain ⟨⟨a, cap, rfl, m1, m2, m3⟩, -⟩ := h5
  unfold maxLen at m2
  have HSF := Lib.hid (sm_fill xs)
  have HSL := Lib.hid (sm_len xs)
  have HSN := Lib.hid (sm_lens xs)
  obtain ⟨n, hn⟩ : ∃ n, xs.length = n := ⟨_, rfl⟩
  have HN := Lib.hid hn
  rw [hn] at m1 m3 HSF HSL ⊢
  have H3 := Lib.hid m3
  clear m3 hn
  by_cases hl : 100 < n
  · have hl' : (100 : Int) < (n : Int) := by omega
    go_enter Try.func10, Try.ntmps10
    go_wp2
    go_ret
    exact ⟨rfl, Below.refl _ _⟩
  have hl1 : (n : Int) ≤ 100 := by omega
  obtain ⟨A, hA⟩ : ∃ A, av0 % 4096 = A := ⟨_, rfl⟩
  obtain ⟨G, hG⟩ : ∃ G, gp0 % 32 = G := ⟨_, rfl⟩
  obtain ⟨J, hJ⟩ : ∃ J, ju0 % 4 = J := ⟨_, rfl⟩
  obtain ⟨L0, hL0⟩ : ∃ L0, al0 % 65536 = L0 := ⟨_, rfl⟩
  obtain ⟨L, hL⟩ : ∃ L, L0 % 5 = L := ⟨_, rfl⟩
  obtain ⟨Z, hZ⟩ : ∃ Z, sz0 % 4096 = Z := ⟨_, rfl⟩
  have bA := (and_4095 av0).trans hA
  have bG := (and_31 gp0).trans hG
  have bJ := (and_3 ju0).trans hJ
  have bL := (and_65535 al0).trans hL0
  have bZ := (and_4095 sz0).trans hZ
  have kA : 0 ≤ A ∧ A ≤ 4095 := by omega
  have kG : 0 ≤ G ∧ G ≤ 31 := by omega
  have kJ : 0 ≤ J ∧ J ≤ 3 := by omega
  have kL0 : 0 ≤ L0 ∧ L0 ≤ 65535 := by omega
  have kL : 0 ≤ L ∧ L ≤ 4 := by omega
  have kZ : 0 ≤ Z ∧ Z ≤ 4095 := by omega
  have tL : L0.tmod 5 = L := by rw [Int.tmod_eq_emod_of_nonneg kL0.1]; exact hL
  obtain ⟨a0, a1⟩ := kA
  obtain ⟨g0, g1⟩ := kG
  obtain ⟨j0, j1⟩ := kJ
  obtain ⟨l0, l1⟩ := kL
  obtain ⟨l2, l3⟩ := kL0
  obtain ⟨z0, z1⟩ := kZ
  clear hA hG hJ hL0 hZ
  have HOK : Hid (offOk A G J (sm xs) = true) := offOk_iff.2 ⟨by rw [HSL.out]; omega, by omega, by omega, HSN.out, by omega, by omega⟩
  have hmk := make_ints n (by omega) w
  have HMD : Hid (OwnI (w.alloc (.cells (madeCells #[.int .i64 0] n) 3)) w.heap.size (fillTo (smf xs) n 0)) := by
    show OwnI _ _ _
    rw [fillTo_zero]; exact OwnI.made w n
  have HBM : Hid (Below w.heap.size w (w.alloc (.cells (madeCells #[.int .i64 0] n) 3))) := (Below.refl _ _).alloc (Nat.le_refl _) _
  obtain ⟨W1, hW1⟩ : ∃ W1, (w.alloc (.cells (madeCells #[.int .i64 0] n) 3)) = W1 := ⟨_, rfl⟩
  obtain ⟨B, hB⟩ : ∃ B, w.heap.size = B := ⟨_, rfl⟩
  have HBZ := Lib.hid hB
  rw [hW1, hB] at HMD HBM hmk
  clear hW1 hB
  go_enter Try.func10, Try.ntmps10
  go_wp2_with fail
  clear bA bG bJ bL bZ tL hL hmk
  go_loopw [14] (fun i wr => ∃ k : Nat, k ≤ n ∧ i = .int .i64 k ∧ OwnI wr B (fillTo (smf xs) n k) ∧ Below B w wr) (fun i _ => n - (intOf i).toNat)
  case atStart => exact ⟨0, Nat.zero_le _, rfl, HMD.out, HBM.out⟩
  case round =>
    obtain ⟨k, hk, rfl, hO, hB⟩ := hrel
    have HO := Lib.hid hO
    have HB := Lib.hid hB
    clear hO hB
    by_cases hkn : k < n
    · obtain ⟨b, off, rfl, hlt, hcell⟩ := H3.out (by omega)
      rw [HBZ.out] at hlt
      have hc := (HB.out.cell (p := ⟨b, off + k, none⟩) hlt).trans (hcell k hkn)
      have hof := HO.out.cell (i := k) (by rw [fillTo_len]; exact hkn)
      have hfr := HO.out.free k
      have hkn' : (k : Int) < (n : Int) := by omega
      have hk0 : (0 : Int) ≤ (k : Int) := by omega
      have bx : bits .and .i64 (gz xs k) 127 = smf xs k := and_127 _
      have HO5 : Hid (OwnI (wr.setCell ⟨B, k, none⟩ (.int .i64 (smf xs k))) B (fillTo (smf xs) n (k + 1))) := by
        show OwnI _ _ _
        rw [← fillTo_set _ hkn]
        exact HO.out.set k _
      have HB5 : Hid (Below B w (wr.setCell ⟨B, k, none⟩ (.int .i64 (smf xs k)))) := HB.out.setCell (p := ⟨B, k, none⟩) (Nat.le_refl _) _
      clear hcell
      go_wp2
      go_roundw
      case rel => exact ⟨k + 1, by omega, by go_num, HO5.out, HB5.out⟩
      case measure => simp [intOf]; omega
    · obtain rfl : n = k := by omega
      have HOS : Hid (OwnI wr B (sm xs)) := by
        have h := HO.out
        rw [HSF.out] at h
        exact h
      have hI : IsInts wr (.slice (some ⟨B, 0, none⟩) n n) (sm xs) := by
        have h := HOS.out.isInts (by rw [HSL.out]; simp [maxLen]; omega)
        rw [HSL.out] at h
        exact h
      have HI := Lib.hid hI
      clear hI HO
      go_wp2_with fail
      refine (offs_any A G J (sm xs) false _ _ HI.out).mono ?_
      rintro e w2 ⟨v, rfl, hv, hb2⟩
      have HV2 := Lib.hid hv
      have HB2 := Lib.hid hb2
      clear hv hb2
      go_wp2_with fail
      refine (offs_any A G J (sm xs) true _ _ (HI.out.of_below HB2.out)).mono ?_
      rintro e w3 ⟨u, rfl, hu, hb3⟩
      have HU3 := Lib.hid hu
      have HV3 : Hid (IsInts w3 v (offL A G J (sm xs) false)) := HV2.out.of_below hb3
      have HB3 : Hid (Below wr.heap.size wr w3) := HB2.out.trans (hb3.mono HB2.out.size)
      have HOS3 : Hid (OwnI w3 B (sm xs)) := HOS.out.of_below HB3.out HOS.out.lt
      have HBW : Hid (Below B w w3) := HB.out.trans (HB3.out.mono (by have := HB.out.size; rw [HBZ.out] at this; exact this))
      clear hu hb3 HV2 HB2
      obtain ⟨ra, rc, rfl, r1, r2, r3⟩ := HV3.out
      obtain ⟨sa, sc, rfl, s1, s2, s3⟩ := HU3.out
      rw [offL_len (r := false) HOK.out, HSL.out] at r1 r3 ⊢
      rw [offL_len (r := true) HOK.out, HSL.out] at s1 s3 ⊢
      have R3 := Lib.hid r3
      have S3 := Lib.hid s3
      unfold maxLen at r2 s2
      clear r3 s3
      go_wp2_with fail
      obtain ⟨wo, rfl⟩ : ∃ wo : World, wo = wr := ⟨_, rfl⟩
      go_loopw [17] (fun i wq => ∃ j : Nat, j ≤ n ∧ i = .int .i64 j ∧ ∃ d, wq = w3.drewN d) (fun i _ => n - (intOf i).toNat)
      case atStart => exact ⟨0, Nat.zero_le _, rfl, 0, rfl⟩
      case round =>
        obtain ⟨j, hj, rfl, hd⟩ := hrel
        have cw : ∀ q, wr.cell? q = w3.cell? q := by
          obtain ⟨d, rfl⟩ := hd
          intro q
          simp
        have HD := Lib.hid hd
        clear hd
        by_cases hjn : j < n
        · obtain ⟨b1, o1, rfl, -, f1⟩ := R3.out (by omega)
          obtain ⟨b2, o2, rfl, -, f2⟩ := S3.out (by omega)
          have c1 := (cw _).trans (f1 j hjn)
          have c2 := (cw _).trans (f2 j hjn)
          have c3 := (cw _).trans (HOS3.out.cell (i := j) (by rw [HSL.out]; exact hjn))
          have F := mir_facts HOK.out (i := j) (by rw [HSL.out]; exact hjn)
          have hj' : (j : Int) < (n : Int) := by omega
          have hj0 : (0 : Int) ≤ (j : Int) := by omega
          obtain ⟨x, hx⟩ : ∃ x, gz (offL A G J (sm xs) false) j = x := ⟨_, rfl⟩
          obtain ⟨z, hz⟩ : ∃ x, gz (offL A G J (sm xs) true) j = x := ⟨_, rfl⟩
          obtain ⟨y, hy⟩ : ∃ x, gz (sm xs) j = x := ⟨_, rfl⟩
          rw [hx] at c1 F
          rw [hz] at c2 F
          rw [hy] at c3 F
          obtain ⟨F1, F2, F3, F4⟩ := F
          have w1' : IntKind.i64.wrap (A - x) = A - x := IntWalk.i64_in _ (by omega)
          have w2' : IntKind.i64.wrap (A - x - y) = z := by rw [IntWalk.i64_in _ (by omega)]; omega
          by_cases hjz : j = 0
          · subst hjz
            clear hx hz hy F1 F2 F3 F4 cw f1 f2
            simp only [Nat.add_zero] at c1 c2
            go_wp2_with fail
            go_quiet (fail)
            clear w1' w2'
            go_wp2
            go_roundw
            case rel => exact ⟨0 + 1, by omega, by go_num, by obtain ⟨d, rfl⟩ := HD.out; first | exact ⟨_, rfl⟩ | (simp only [World.drewN_drewN]; exact ⟨_, rfl⟩)⟩
            case measure => simp [intOf]; omega
          · obtain ⟨p, hp⟩ : ∃ p, p + 1 = j := ⟨j - 1, by omega⟩
            have F5 := F4 p hp
            have c4 := (cw _).trans (f1 p (by omega))
            have c5 := (cw _).trans (f2 p (by omega))
            have c6 := (cw _).trans (HOS3.out.cell (i := p) (by rw [HSL.out]; omega))
            have F6 := mir_facts HOK.out (i := p) (by rw [HSL.out]; omega)
            obtain ⟨x', hx'⟩ : ∃ x, gz (offL A G J (sm xs) false) p = x := ⟨_, rfl⟩
            obtain ⟨z', hz'⟩ : ∃ x, gz (offL A G J (sm xs) true) p = x := ⟨_, rfl⟩
            obtain ⟨y', hy'⟩ : ∃ x, gz (sm xs) p = x := ⟨_, rfl⟩
            rw [hx'] at c4 F5 F6
            rw [hz'] at c5 F6
            rw [hy'] at c6 F5 F6
            obtain ⟨F7, F8, F9, -⟩ := F6
            have d1 : decide ((0 : Int) < (j : Int)) = true := decide_eq_true (by omega)
            have d0 : decide (0 < j) = true := decide_eq_true (by omega)
            have hjp : 0 < j := by omega
            have w3' : IntKind.i64.wrap (x' + y') = x' + y' := IntWalk.i64_in _ (by omega)
            have w4' : IntKind.i64.wrap (x' + y' + G) = x' + y' + G := IntWalk.i64_in _ (by omega)
            have w5' : IntKind.i64.wrap (z + y) = z + y := IntWalk.i64_in _ (by omega)
            have w6' : IntKind.i64.wrap (z + y + G) = z + y + G := IntWalk.i64_in _ (by omega)
            have w7' : IntKind.i64.wrap ((j : Int) - 1) = (p : Int) := by rw [IntWalk.i64_in _ (by omega)]; omega
            have d2 : decide (x < x' + y' + G) = false := decide_eq_false (by omega)
            have d3 : decide (z' < z + y + G) = false := decide_eq_false (by omega)
            have p0 : (0 : Int) ≤ (p : Int) := by omega
            have p1 : (p : Int) < (n : Int) := by omega
            clear hx hz hy F1 F2 F3 F4 cw f1 f2 hp F5 hx' hz' hy' F7 F8 F9 hjz
            go_wp2_with fail
            go_quiet (fail)
            clear w1' w2' w3' w4' w5' w6' w7' d0 d1 d2 d3
            go_wp2
            go_roundw
            case rel => exact ⟨j + 1, by omega, by go_num, by obtain ⟨d, rfl⟩ := HD.out; first | exact ⟨_, rfl⟩ | (simp only [World.drewN_drewN]; exact ⟨_, rfl⟩)⟩
            case measure => simp [intOf]; omega
        · obtain rfl : j = n := by omega
          clear cw
          have hal : alOk L A Z = true := alOk_iff.2 ⟨by omega, by omega, by omega, by omega⟩
          have hbd := al_bd hal
          have HA1 : Hid (alV L A Z false = .tuple #[.int .i64 (alAt0 L A Z), .int .i64 (alExt L A Z)]) := by show _ = _; unfold alV; rw [if_pos hal]; rfl
          have HA2 : Hid (alV L A Z true = .tuple #[.int .i64 (A - alExt L A Z - alAt0 L A Z), .int .i64 (alExt L A Z)]) := by show _ = _; unfold alV; rw [if_pos hal]; rfl
          obtain ⟨X, hX⟩ : ∃ X, alAt0 L A Z = X := ⟨_, rfl⟩
          obtain ⟨E, hE⟩ : ∃ E, alExt L A Z = E := ⟨_, rfl⟩
          rw [hX, hE] at HA1 HA2 hbd
          obtain ⟨⟨e0, e1⟩, x0, x1⟩ := hbd
          clear hX hE hal
          go_wp2_with fail
          refine (align_any L A Z false _).mono ?_
          rw [HA1.out]
          rintro e w4 ⟨rfl, hb4⟩
          have HB4 := Lib.hid hb4
          clear hb4
          go_wp2_with fail
          refine (align_any L A Z true _).mono ?_
          rw [HA2.out]
          rintro e w5 ⟨rfl, hb5⟩
          have HB5 := Lib.hid (HB4.out.trans (hb5.mono HB4.out.size))
          clear hb5
          go_wp2_with (go_at_call 14; refine (awake_any _).mono ?_; rintro e w6 ⟨rfl, hb6⟩)
          go_ret
          refine ⟨rfl, ?_⟩
          have HB6 := HB5.out.trans (hb6.mono HB5.out.size)
          obtain ⟨d, rfl⟩ := HD.out
          rw [HBZ.out]
          exact (Below_drewN HBW.out d).trans (HB6.mono (by have := HBW.out.size; rw [HBZ.out] at this; exact this))
end Go.Proofs.Ythmdagffhanagaa

