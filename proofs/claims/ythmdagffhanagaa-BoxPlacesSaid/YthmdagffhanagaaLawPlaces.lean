/- The walk of the law BoxPlaces. -/
import Derived.Test.YthmdagffhanagaaOffR
import Derived.Test.YthmdagffhanagaaAwake18
import Derived.Test.YthmdagffhanagaaOpen
import Derived.Deep.QuietTactic
import Derived.BigQuiet
namespace Go.Proofs.Ythmdagffhanagaa
open Go.RowKit
set_option linter.unusedVariables false
set_option linter.unusedSimpArgs false

theorem alV_form (al av sz : Int) (r : Bool) : ∃ p q : Int, alV al av sz r = .tuple #[.int .i64 p, .int .i64 q] := by
  unfold alV
  split
  · exact ⟨_, _, rfl⟩
  · exact ⟨_, _, rfl⟩
set_option maxHeartbeats 8000000 in
set_option maxRecDepth 100000 in
theorem walk_BoxPlaces (v0 : Value) (av : Int) (v1 : Value) (gp : Int) (v2 : Value) (ju : Int) (v3 : Value) (xs : List Int) (v4 : Value) (right : Bool) (w : World)
    (h0 : v0 = .int .i64 av ∧ (Lit.int .i64 av).wf = true) (h1 : v1 = .int .i64 gp ∧ (Lit.int .i64 gp).wf = true) (h2 : v2 = .int .i64 ju ∧ (Lit.int .i64 ju).wf = true) (h3 : InInts w v3 xs) (h4 : v4 = .bool right) :
    Calls Try.prog 9 #[v0, v1, v2, v3, v4] w (True_ w) := by
  obtain ⟨rfl, -⟩ := h0
  obtain ⟨rfl, -⟩ := h1
  obtain ⟨rfl, -⟩ := h2
  subst h4
  have HV := Lib.hid h3.1
  obtain ⟨⟨a, cap, rfl, m1, m2, m3⟩, -⟩ := h3
  unfold maxLen at m2
  have HSF := Lib.hid (sm_fill xs)
  have HSL := Lib.hid (sm_len xs)
  obtain ⟨n, hn⟩ : ∃ n, xs.length = n := ⟨_, rfl⟩
  have HN := Lib.hid hn
  rw [hn] at m1 m3 HSF HSL HV ⊢
  have H3 := Lib.hid m3
  clear m3 hn
  by_cases hl : 120 < n
  · have hl' : (120 : Int) < (n : Int) := by omega
    go_enter Try.func9, Try.ntmps9
    go_wp2
    go_ret
    exact ⟨rfl, Below.refl _ _⟩
  have hl1 : (n : Int) ≤ 120 := by omega
  obtain ⟨A, hA⟩ : ∃ A, av % 1024 = A := ⟨_, rfl⟩
  obtain ⟨G, hG⟩ : ∃ G, gp % 16 = G := ⟨_, rfl⟩
  obtain ⟨J, hJ⟩ : ∃ J, ju % 4 = J := ⟨_, rfl⟩
  have HBA := Lib.hid ((and_1023 av).trans hA)
  have HBG := Lib.hid ((and_15 gp).trans hG)
  have HBJ := Lib.hid ((and_3 ju).trans hJ)
  clear hA hG hJ
  have hmk := make_ints n (by omega) w
  have HMD : Hid (OwnI (w.alloc (.cells (madeCells #[.int .i64 0] n) 3)) w.heap.size (fillTo (smf xs) n 0)) := by
    show OwnI _ _ _
    rw [fillTo_zero]; exact OwnI.made w n
  have HBM : Hid (Below w.heap.size w (w.alloc (.cells (madeCells #[.int .i64 0] n) 3))) := (Below.refl _ _).alloc (Nat.le_refl _) _
  obtain ⟨W1, hW1⟩ : ∃ W1, (w.alloc (.cells (madeCells #[.int .i64 0] n) 3)) = W1 := ⟨_, rfl⟩
  obtain ⟨B, hB⟩ : ∃ B, w.heap.size = B := ⟨_, rfl⟩
  have HBZ := Lib.hid hB
  rw [hW1, hB] at HMD HBM hmk
  clear hW1 hB
  go_enter Try.func9, Try.ntmps9
  go_wp2_with fail
  clear hmk
  go_loopw [12] (fun i wr => ∃ k : Nat, k ≤ n ∧ i = .int .i64 k ∧ OwnI wr B (fillTo (smf xs) n k) ∧ Below B w wr) (fun i _ => n - (intOf i).toNat)
  case atStart => exact ⟨0, Nat.zero_le _, rfl, HMD.out, HBM.out⟩
  case round =>
    obtain ⟨k, hk, rfl, hO, hB⟩ := hrel
    have HO := Lib.hid hO
    have HB := Lib.hid hB
    clear hO hB
    by_cases hkn : k < n
    · obtain ⟨b, off, rfl, hlt, hcell⟩ := H3.out (by omega)
      rw [HBZ.out] at hlt
      have hc := (HB.out.cell (p := ⟨b, off + k, none⟩) hlt).trans (hcell k hkn)
      have hof := HO.out.cell (i := k) (by rw [fillTo_len]; exact hkn)
      have hfr := HO.out.free k
      have hkn' : (k : Int) < (n : Int) := by omega
      have hk0 : (0 : Int) ≤ (k : Int) := by omega
      have bx : bits .and .i64 (gz xs k) 127 = smf xs k := and_127 _
      have HO5 : Hid (OwnI (wr.setCell ⟨B, k, none⟩ (.int .i64 (smf xs k))) B (fillTo (smf xs) n (k + 1))) := by
        show OwnI _ _ _
        rw [← fillTo_set _ hkn]
        exact HO.out.set k _
      have HB5 : Hid (Below B w (wr.setCell ⟨B, k, none⟩ (.int .i64 (smf xs k)))) := HB.out.setCell (p := ⟨B, k, none⟩) (Nat.le_refl _) _
      clear hcell
      go_wp2
      go_roundw
      case rel => exact ⟨k + 1, by omega, by go_num, HO5.out, HB5.out⟩
      case measure => simp [intOf]; omega
    · obtain rfl : n = k := by omega
      have HOS : Hid (OwnI wr B (sm xs)) := by
        have h := HO.out
        rw [HSF.out] at h
        exact h
      have hI : IsInts wr (.slice (some ⟨B, 0, none⟩) n n) (sm xs) := by
        have h := HOS.out.isInts (by rw [HSL.out]; simp [maxLen]; omega)
        rw [HSL.out] at h
        exact h
      have HI := Lib.hid hI
      clear hI HO
      have HVR : Hid (IsInts wr (.slice a n cap) xs) := HV.out.of_below (by rw [HBZ.out]; exact HB.out)
      go_wp2_with fail
      refine (offs_any av gp ju xs right _ _ HVR.out).mono ?_
      rintro e w2 ⟨v, rfl, hv, hb2⟩
      have HV2 := Lib.hid hv
      have HB2 := Lib.hid hb2
      clear hv hb2
      go_wp2_with fail
      refine (roffs_any av gp ju xs right _ _ (HVR.out.of_below HB2.out)).mono ?_
      rintro e w3 ⟨u, rfl, hu, hb3⟩
      have HU3 := Lib.hid hu
      have HV3 := Lib.hid (HV2.out.of_below hb3)
      have HB3 : Hid (Below wr.heap.size wr w3) := HB2.out.trans (hb3.mono HB2.out.size)
      clear hu hb3 HV2 HB2
      obtain ⟨L1, hL1⟩ : ∃ L, offL av gp ju xs right = L := ⟨_, rfl⟩
      rw [hL1] at HU3 HV3
      clear hL1
      have bA := HBA.out
      have bG := HBG.out
      have bJ := HBJ.out
      go_wp2_with fail
      refine (offs_any A G J (sm xs) right _ _ (HI.out.of_below HB3.out)).mono ?_
      rintro e w4 ⟨v', rfl, hv, hb4⟩
      have HV4 := Lib.hid hv
      have HB4 : Hid (Below w3.heap.size w3 w4) := Lib.hid hb4
      clear hv hb4
      go_wp2_with fail
      refine (roffs_any A G J (sm xs) right _ _ ((HI.out.of_below HB3.out).of_below HB4.out)).mono ?_
      rintro e w5 ⟨u', rfl, hu, hb5⟩
      have HU5 := Lib.hid hu
      have HV5 := Lib.hid (HV4.out.of_below hb5)
      have HB5 : Hid (Below w3.heap.size w3 w5) := HB4.out.trans (hb5.mono HB4.out.size)
      clear hu hb5 HV4 HB4 bA bG bJ
      obtain ⟨L2, hL2⟩ : ∃ L, offL A G J (sm xs) right = L := ⟨_, rfl⟩
      rw [hL2] at HU5 HV5
      clear hL2
      obtain ⟨p, q, hpq⟩ := alV_form ju av gp right
      have HPQ := Lib.hid hpq
      clear hpq
      go_wp2_with fail
      refine (align_any ju av gp right _).mono ?_
      rw [HPQ.out]
      rintro e w6 ⟨rfl, hb6⟩
      have HB6 : Hid (Below w3.heap.size w3 w6) := HB5.out.trans (hb6.mono HB5.out.size)
      have HU6 := Lib.hid (HU5.out.of_below hb6)
      have HV6 := Lib.hid (HV5.out.of_below hb6)
      clear hb6 HU5 HV5
      go_wp2_with fail
      refine (ralign_any ju av gp right _).mono ?_
      rw [HPQ.out]
      rintro e w7 ⟨rfl, rfl⟩
      have HU7 := Lib.hid (HU3.out.of_below HB6.out)
      have HV7 := Lib.hid (HV3.out.of_below HB6.out)
      go_wp2_with fail
      refine (equal_any _ _ L1 L1 _ HV7.out HU7.out).mono ?_
      rw [eqL_self]
      rintro e w8 ⟨rfl, d8, rfl⟩
      go_wp2_with fail
      refine (equal_any _ _ L2 L2 _ (HV6.out.of_below (Below_drewN (Below.refl _ _) _)) (HU6.out.of_below (Below_drewN (Below.refl _ _) _))).mono ?_
      rw [eqL_self]
      rintro e w9 ⟨rfl, d9, rfl⟩
      go_wp2_with (go_at_call 14; refine (awake_any _).mono ?_; rintro e w10 ⟨rfl, hb10⟩)
      go_ret
      refine ⟨rfl, ?_⟩
      rw [HBZ.out]
      have hz : B ≤ wr.heap.size := by have := HB.out.size; rw [HBZ.out] at this; exact this
      have h36 := HB3.out.trans (HB6.out.mono HB3.out.size)
      have h1 := Below_drewN h36 (d8 + d9)
      exact HB.out.trans ((h1.trans (hb10.mono (by have := h36.size; simpa using this))).mono hz)
end Go.Proofs.Ythmdagffhanagaa

