/- The walk of the law BoxJustifies. -/
import Derived.Test.YthmdagffhanagaaJustPlain
import Derived.Test.YthmdagffhanagaaAwake18
import Derived.Test.YthmdagffhanagaaOpen
import Derived.Deep.QuietTactic
import Derived.BigQuiet
namespace Go.Proofs.Ythmdagffhanagaa
open Go.RowKit
set_option linter.unusedVariables false
set_option linter.unusedSimpArgs false

set_option maxHeartbeats 8000000 in
set_option maxRecDepth 100000 in
theorem walk_BoxJustifies (v0 : Value) (ex : Int) (v1 : Value) (xs : List Int) (w : World)
    (h0 : v0 = .int .i64 ex ∧ (Lit.int .i64 ex).wf = true) (h1 : InInts w v1 xs) : Calls Try.prog 7 #[v0, v1] w (True_ w) := by
  obtain ⟨rfl, -⟩ := h0
  obtain ⟨⟨a, cap, rfl, m1, m2, m3⟩, -⟩ := h1
  unfold maxLen at m2
  have HSF := Lib.hid (sm_fill xs)
  have HSL := Lib.hid (sm_len xs)
  have HSN := Lib.hid (sm_lens xs)
  have HAT : Hid (∀ k, k < xs.length → gz (sm xs) k = smf xs k) := fun k hk => sm_at hk
  obtain ⟨n, hn⟩ : ∃ n, xs.length = n := ⟨_, rfl⟩
  have HN := Lib.hid hn
  rw [hn] at m1 m3 HSF HSL HAT ⊢
  have H3 := Lib.hid m3
  clear m3 hn
  by_cases hl2 : n < 2
  · have hl' : (n : Int) < 2 := by omega
    go_enter Try.func7, Try.ntmps7
    go_wp2
    go_ret
    exact ⟨rfl, Below.refl _ _⟩
  by_cases hl : 50 < n
  · have hl' : (50 : Int) < (n : Int) := by omega
    go_enter Try.func7, Try.ntmps7
    go_wp2
    go_ret
    exact ⟨rfl, Below.refl _ _⟩
  have hl1 : (n : Int) ≤ 50 := by omega
  have hl3 : (2 : Int) ≤ (n : Int) := by omega
  obtain ⟨E, hE⟩ : ∃ E, ex % 1024 = E := ⟨_, rfl⟩
  have bE := (and_1023 ex).trans hE
  have kE : 0 ≤ E ∧ E ≤ 1023 := by omega
  obtain ⟨e0, e1⟩ := kE
  have HSB : Hid (∀ k, k ≤ n → 0 ≤ sumTo (sm xs) k ∧ sumTo (sm xs) k ≤ 127 * (k : Int)) := by
    intro k
    induction k with
    | zero => intro _; simp [sumTo]
    | succ k ih =>
      intro hk
      have h1 := ih (by omega)
      have h2 := sm_at (xs := xs) (i := k) (by rw [HN.out]; omega)
      simp only [sumTo]
      omega
  clear hE
  have hmk := make_ints n (by omega) w
  have HMD : Hid (OwnI (w.alloc (.cells (madeCells #[.int .i64 0] n) 3)) w.heap.size (fillTo (smf xs) n 0)) := by
    show OwnI _ _ _
    rw [fillTo_zero]; exact OwnI.made w n
  have HBM : Hid (Below w.heap.size w (w.alloc (.cells (madeCells #[.int .i64 0] n) 3))) := (Below.refl _ _).alloc (Nat.le_refl _) _
  obtain ⟨W1, hW1⟩ : ∃ W1, (w.alloc (.cells (madeCells #[.int .i64 0] n) 3)) = W1 := ⟨_, rfl⟩
  obtain ⟨B, hB⟩ : ∃ B, w.heap.size = B := ⟨_, rfl⟩
  have HBZ := Lib.hid hB
  rw [hW1, hB] at HMD HBM hmk
  clear hW1 hB
  have HE := Lib.hid bE
  clear bE
  go_enter Try.func7, Try.ntmps7
  go_wp2_with fail
  clear hmk
  go_loopw [6, 7] (fun s i wr => ∃ k : Nat, k ≤ n ∧ i = .int .i64 k ∧ s = .int .i64 (sumTo (sm xs) k) ∧ OwnI wr B (fillTo (smf xs) n k) ∧ Below B w wr) (fun _ i _ => n - (intOf i).toNat)
  case atStart => exact ⟨0, Nat.zero_le _, rfl, rfl, HMD.out, HBM.out⟩
  case round =>
    obtain ⟨k, hk, rfl, rfl, hO, hB⟩ := hrel
    have HO := Lib.hid hO
    have HB := Lib.hid hB
    clear hO hB
    have sb := HSB.out k hk
    by_cases hkn : k < n
    · obtain ⟨b, off, rfl, hlt, hcell⟩ := H3.out (by omega)
      rw [HBZ.out] at hlt
      have hc := (HB.out.cell (p := ⟨b, off + k, none⟩) hlt).trans (hcell k hkn)
      have hof := HO.out.cell (i := k) (by rw [fillTo_len]; exact hkn)
      have hfr := HO.out.free k
      have hkn' : (k : Int) < (n : Int) := by omega
      have hk0 : (0 : Int) ≤ (k : Int) := by omega
      have bx : bits .and .i64 (gz xs k) 127 = smf xs k := and_127 _
      have xb : 0 ≤ smf xs k ∧ smf xs k ≤ 127 := by unfold smf; omega
      have HS : Hid (sumTo (sm xs) (k + 1) = sumTo (sm xs) k + smf xs k) := by
        show _ = _
        simp only [sumTo]
        rw [HAT.out k hkn]
      have HO5 : Hid (OwnI (wr.setCell ⟨B, k, none⟩ (.int .i64 (smf xs k))) B (fillTo (smf xs) n (k + 1))) := by
        show OwnI _ _ _
        rw [← fillTo_set _ hkn]
        exact HO.out.set k _
      have HB5 : Hid (Below B w (wr.setCell ⟨B, k, none⟩ (.int .i64 (smf xs k)))) := HB.out.setCell (p := ⟨B, k, none⟩) (Nat.le_refl _) _
      obtain ⟨x, hx⟩ : ∃ x, smf xs k = x := ⟨_, rfl⟩
      have HX := Lib.hid hx
      have hc5 := HO5.out.cell (i := k) (by rw [fillTo_len]; exact hkn)
      rw [fillTo_at _ hkn (by omega)] at hc5
      rw [hx] at bx xb HS HO5 HB5 hc5
      have HC5 := Lib.hid hc5
      clear hcell hx hc5
      go_upto_region 9 with fail
      obtain ⟨W5, hW5⟩ : ∃ W5, wr.setCell ⟨B, k, none⟩ (.int .i64 x) = W5 := ⟨_, rfl⟩
      rw [hW5] at HO5 HB5 HC5 ⊢
      clear hW5 hc hof hfr bx
      have hc5 := HC5.out
      go_wp2
      go_roundw
      case rel => exact ⟨k + 1, by omega, by go_num, by rw [HS.out], HO5.out, HB5.out⟩
      case measure => simp [intOf]; omega
    · obtain rfl : n = k := by omega
      have HOS : Hid (OwnI wr B (sm xs)) := by
        have h := HO.out
        rw [HSF.out] at h
        exact h
      have hI : IsInts wr (.slice (some ⟨B, 0, none⟩) n n) (sm xs) := by
        have h := HOS.out.isInts (by rw [HSL.out]; simp [maxLen]; omega)
        rw [HSL.out] at h
        exact h
      have HI := Lib.hid hI
      obtain ⟨S, hS⟩ : ∃ S, sumTo (sm xs) n = S := ⟨_, rfl⟩
      obtain ⟨A, hA⟩ : ∃ A, S + 1 + E = A := ⟨_, rfl⟩
      have F := just_facts (xs := xs) (E := E) (A := A) HN.out (by omega) (by omega) ⟨e0, e1⟩ (by rw [hS]; exact hA.symm)
      obtain ⟨F1, F2, F3, F4, F5, F6, F7⟩ := F
      have HOK := Lib.hid F1
      have HF2 := Lib.hid F2
      have HF3 := Lib.hid F3
      have HF4 := Lib.hid F4
      have HF5 := Lib.hid F5
      have HF6 := Lib.hid F6
      have HF7 := Lib.hid F7
      rw [hS] at sb ⊢
      have wA : IntKind.i64.wrap (S + 1 + E) = A := by rw [IntWalk.i64_in _ (by omega)]; exact hA
      have bE := HE.out
      have HA := Lib.hid hA
      clear hI HO F1 F2 F3 F4 F5 F6 F7 hS hA
      go_upto_region 11 with fail
      first | rw [HA.out] | rw [wA] | skip
      clear wA bE
      go_wp2_with fail
      refine (offs_any A 0 3 (sm xs) false _ _ HI.out).mono ?_
      rintro e w3 ⟨v, rfl, hv, hb3⟩
      have HV3 := Lib.hid hv
      have HB3 := Lib.hid hb3
      have HOS3 : Hid (OwnI w3 B (sm xs)) := HOS.out.of_below HB3.out HOS.out.lt
      have HBW : Hid (Below B w w3) := HB.out.trans (HB3.out.mono (by have := HB.out.size; rw [HBZ.out] at this; exact this))
      clear hv hb3
      obtain ⟨ra, rc, rfl, r1, r2, r3⟩ := HV3.out
      rw [offL_len (r := false) HOK.out, HSL.out] at r1 r3 ⊢
      obtain ⟨b1, o1, rfl, -, f1⟩ := r3 (by omega)
      have R3 := Lib.hid f1
      unfold maxLen at r2
      clear r3 f1
      obtain ⟨p, hp⟩ : ∃ p, p + 1 = n := ⟨n - 1, by omega⟩
      have c1 := R3.out 0 (by omega)
      rw [HF3.out, Nat.add_zero] at c1
      have c2 := R3.out p (by omega)
      have c3 := HOS3.out.cell (i := p) (by rw [HSL.out]; omega)
      have F4 := HF4.out p hp
      have F2 := HF2.out p (by omega)
      obtain ⟨x, hx⟩ : ∃ x, gz (offL A 0 3 (sm xs) false) p = x := ⟨_, rfl⟩
      obtain ⟨y, hy⟩ : ∃ x, gz (sm xs) p = x := ⟨_, rfl⟩
      have yb : 0 ≤ y ∧ y ≤ 127 := by rw [← hy, HAT.out p (by omega)]; unfold smf; omega
      rw [hx] at c2 F4 F2
      rw [hy] at c3 F4
      have w1' : IntKind.i64.wrap ((n : Int) - 1) = (p : Int) := by rw [IntWalk.i64_in _ (by omega)]; omega
      have w2' : IntKind.i64.wrap (x + y) = A := by rw [IntWalk.i64_in _ (by omega)]; omega
      have p0 : (0 : Int) ≤ (p : Int) := by omega
      have p1 : (p : Int) < (n : Int) := by omega
      have n0 : (0 : Int) < (n : Int) := by omega
      have n1 : 0 < n := by omega
      clear hx hy F4 F2
      have HPN := Lib.hid hp
      clear hp
      go_wp2_with fail
      go_quiet (fail)
      clear w1' w2' c1 c2 c3
      obtain ⟨wo, rfl⟩ : ∃ wo : World, wo = wr := ⟨_, rfl⟩
      go_wp2_with fail
      go_loopw [10, 11, 12] (fun l m i wr => ∃ j : Nat, 1 ≤ j ∧ j ≤ n ∧ i = .int .i64 j ∧ l = .int .i64 (lstTo (jP E n) (j - 1)) ∧ m = .int .i64 (mstTo (jP E n) (j - 1)) ∧ ∃ d, wr = w3.drewN d) (fun _ _ i _ => n - (intOf i).toNat)
      case atStart => exact ⟨1, Nat.le_refl _, by omega, rfl, rfl, rfl, _, rfl⟩
      case round =>
        obtain ⟨j, hj1, hj, rfl, rfl, rfl, hd⟩ := hrel
        have cw : ∀ q, wr.cell? q = w3.cell? q := by
          obtain ⟨d, rfl⟩ := hd
          intro q
          simp
        have HD := Lib.hid hd
        clear hd
        have lb := (lst_bd (P := jP E n) (j - 1) (fun i hi => HF6.out i (by omega))).1
        have mb := (mst_bd (P := jP E n) (j - 1) (fun i hi => HF6.out i (by omega))).1
        by_cases hjn : j < n
        · obtain ⟨q, hq⟩ : ∃ q, q + 1 = j := ⟨j - 1, by omega⟩
          have c1 := (cw _).trans (R3.out j hjn)
          have c2 := (cw _).trans (R3.out q (by omega))
          have c3 := (cw _).trans (HOS3.out.cell (i := q) (by rw [HSL.out]; omega))
          have F5 := HF5.out q (by omega)
          have F6 := HF6.out q (by omega)
          have F2 := HF2.out q (by omega)
          have F8 := HF2.out j (by omega)
          have HL1 : Hid (lstTo (jP E n) (j + 1 - 1) = min (lstTo (jP E n) (j - 1)) (gz (jP E n) q)) := by
            show _ = _
            rw [show j + 1 - 1 = q + 1 by omega, show j - 1 = q by omega]; rfl
          have HM1 : Hid (mstTo (jP E n) (j + 1 - 1) = max (mstTo (jP E n) (j - 1)) (gz (jP E n) q)) := by
            show _ = _
            rw [show j + 1 - 1 = q + 1 by omega, show j - 1 = q by omega]; rfl
          rw [hq] at F5
          obtain ⟨l, hl⟩ : ∃ x, lstTo (jP E n) (j - 1) = x := ⟨_, rfl⟩
          obtain ⟨m, hm⟩ : ∃ x, mstTo (jP E n) (j - 1) = x := ⟨_, rfl⟩
          obtain ⟨g, hg⟩ : ∃ x, gz (jP E n) q = x := ⟨_, rfl⟩
          obtain ⟨x, hx⟩ : ∃ x, gz (offL A 0 3 (sm xs) false) j = x := ⟨_, rfl⟩
          obtain ⟨x', hx'⟩ : ∃ x, gz (offL A 0 3 (sm xs) false) q = x := ⟨_, rfl⟩
          obtain ⟨y', hy'⟩ : ∃ x, gz (sm xs) q = x := ⟨_, rfl⟩
          have yb : 0 ≤ y' ∧ y' ≤ 127 := by rw [← hy', HAT.out q (by omega)]; unfold smf; omega
          rw [hl, hg] at HL1
          rw [hm, hg] at HM1
          rw [hl] at lb ⊢
          rw [hm] at mb ⊢
          rw [hx] at c1 F5 F8
          rw [hx'] at c2 F5 F2
          rw [hy'] at c3 F5
          rw [hg] at F5 F6
          have w1' : IntKind.i64.wrap (x - x') = x - x' := IntWalk.i64_in _ (by omega)
          have w2' : IntKind.i64.wrap (x - x' - y') = g := by rw [IntWalk.i64_in _ (by omega)]; omega
          have w7' : IntKind.i64.wrap ((j : Int) - 1) = (q : Int) := by rw [IntWalk.i64_in _ (by omega)]; omega
          have q0 : (0 : Int) ≤ (q : Int) := by omega
          have q1 : (q : Int) < (n : Int) := by omega
          have hj' : (j : Int) < (n : Int) := by omega
          have hj0 : (0 : Int) ≤ (j : Int) := by omega
          clear hl hm hg hx hx' hy' F5 F2 F8 cw hq yb
          go_wp2_with fail
          go_quiet (fail)
          clear w1' w2' w7' c1 c2 c3
          by_cases t1 : g < l
          all_goals
            by_cases t2 : m < g
            all_goals
              go_wp2
              go_roundw
              case rel => exact ⟨j + 1, by omega, by omega, by go_num, by rw [HL1.out]; congr 1; omega, by rw [HM1.out]; congr 1; omega, by obtain ⟨d, rfl⟩ := HD.out; first | exact ⟨_, rfl⟩ | (simp only [World.drewN_drewN]; exact ⟨_, rfl⟩)⟩
              case measure => simp [intOf]; omega
        · obtain rfl : j = n := by omega
          clear cw
          have F7 := HF7.out
          obtain ⟨l, hl⟩ : ∃ x, lstTo (jP E j) (j - 1) = x := ⟨_, rfl⟩
          obtain ⟨m, hm⟩ : ∃ x, mstTo (jP E j) (j - 1) = x := ⟨_, rfl⟩
          rw [hl] at F7 lb ⊢
          rw [hm] at F7 mb ⊢
          clear hl hm
          go_wp2_with (go_at_call 14; refine (awake_any _).mono ?_; rintro e w6 ⟨rfl, hb6⟩)
          go_ret
          refine ⟨rfl, ?_⟩
          obtain ⟨d, rfl⟩ := HD.out
          rw [HBZ.out]
          exact (Below_drewN HBW.out d).trans (hb6.mono (by have := HBW.out.size; rw [HBZ.out] at this; exact this))
end Go.Proofs.Ythmdagffhanagaa

