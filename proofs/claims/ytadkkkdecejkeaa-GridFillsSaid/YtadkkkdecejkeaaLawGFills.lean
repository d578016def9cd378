/- The walk of the law GridFills. -/
import Derived.Test.YtadkkkdecejkeaaGFillPlain
import Derived.Test.YtadkkkdecejkeaaTracks
import Derived.Test.YtadkkkdecejkeaaAwake19
import Derived.Test.YtadkkkdecejkeaaSumR
import Derived.Test.YtadkkkdecejkeaaOpen
import Derived.Deep.QuietTactic
import Derived.BigQuiet
namespace Go.Proofs.Ytadkkkdecejkeaa
open Go.RowKit
set_option linter.unusedVariables false
set_option linter.unusedSimpArgs false

theorem sumF_upto {F : Nat → Int} {M : Int} : ∀ n, (∀ i, i < n → 0 ≤ F i ∧ F i ≤ M) → 0 ≤ sumF F n ∧ sumF F n ≤ M * (n : Int)
  | 0, _ => by simp [sumF]
  | n + 1, h => by
    have h1 := sumF_upto n (fun i hi => h i (by omega))
    have h2 := h n (by omega)
    have e : M * ((n + 1 : Nat) : Int) = M * (n : Int) + M := by rw [Int.natCast_add, Int.mul_add]; simp
    rw [e]
    simp only [sumF]
    omega
theorem gf_wide {c : Nat} {l : List Rec} (h : wide c l) {i j : Nat} (hi : i < l.length) (hj : ¬ j < c) : gf l i j = 0 := by
  have h3 : (l[i]'hi).length = c := h _ (List.getElem_mem hi)
  have h4 : (l[i]'hi)[j]? = none := List.getElem?_eq_none (by omega)
  simp [gf, List.getD, hi, h4]
theorem gf_out {l : List Rec} {i j : Nat} (hi : ¬ i < l.length) : gf l i j = 0 := by
  have h4 : l[i]? = none := List.getElem?_eq_none (by omega)
  simp [gf, List.getD, h4]
theorem Built19.inRecs {l it : List Rec} (h : Built19 l it) {w : World} {v : Value} (hi : IsRecs 4 w v it) : InRecs 4 w v it := ⟨hi, fun i j => by
  by_cases h1 : i < it.length
  · by_cases h2 : j < 4
    · have hb := itB_out (itsB_at h.ib h1)
      have h5 := h.l1
      have h3 : j = 0 ∨ j = 1 ∨ j = 2 ∨ j = 3 := by omega
      rcases h3 with rfl | rfl | rfl | rfl <;> omega
    · rw [gf_wide h.wi h1 h2]; omega
  · rw [gf_out h1]; omega⟩
/-- There is a fraction among the first k tracks. -/
def frB (l : List Rec) (k : Nat) : Bool := (List.range k).any fun i => decide (gf l i 0 = 2)
theorem frB_succ (l : List Rec) (k : Nat) : frB l (k + 1) = (frB l k || decide (gf l k 0 = 2)) := by simp [frB, List.range_succ]
theorem frB_true {l : List Rec} {k : Nat} (h : frB l k = true) : ∃ i, i < k ∧ gf l i 0 = 2 := by
  unfold frB at h
  simp only [List.any_eq_true, List.mem_range, decide_eq_true_eq] at h
  exact h
theorem InRecs.of_below {c : Nat} {w w' : World} {v : Value} {l : List Rec} (h : InRecs c w v l) (hb : Below w.heap.size w w') : InRecs c w' v l := ⟨h.1.of_below hb, h.2⟩
set_option maxHeartbeats 8000000 in
set_option maxRecDepth 100000 in
theorem walk_GridFills (v0 : Value) (xs : List Int) (v1 : Value) (av : Int) (w : World) (h0 : InInts w v0 xs) (h1 : v1 = .int .i64 av ∧ (Lit.int .i64 av).wf = true) : Calls Try.prog 7 #[v0, v1] w (True_ w) := by
  obtain ⟨rfl, -⟩ := h1
  have HU := Lib.hid h0
  clear h0
  by_cases ha0 : av < 0
  · go_enter Try.func7, Try.ntmps7
    go_wp2
    go_ret
    exact ⟨rfl, Below.refl _ _⟩
  by_cases ha1 : 1048576 < av
  · go_enter Try.func7, Try.ntmps7
    go_wp2
    go_ret
    exact ⟨rfl, Below.refl _ _⟩
  go_enter Try.func7, Try.ntmps7
  go_wp2_with fail
  refine (srcNew_any _ xs _ HU.out).mono ?_
  rintro e w1 ⟨g, rfl, hs, hg0, hg1, hb⟩
  have HG : Hid (w.heap.size ≤ g) := hg0
  have HS1 := Lib.hid hs
  have HB1 := Lib.hid hb
  clear hs hg0 hg1 hb
  go_wp2_with fail
  refine (gbuild_any g _ HS1.out).mono ?_
  rintro e w2 ⟨v, vi, l, it, rfl, hbt, hov, hoi, hbl⟩
  have HB2 := Lib.hid (HB1.out.trans (grownBy_below hbl.2 HG.out HS1.out.lt))
  have HS2 := Lib.hid hbl.1
  have HOV := Lib.hid hov
  have HOI := Lib.hid hoi
  have HBT := Lib.hid hbt
  have HGL := Lib.hid HS1.out.lt
  clear hbt hov hoi hbl
  go_wp2_with fail
  refine (srcN_any g _ _ HS2.out (by omega) (by omega)).mono ?_
  rintro e w3 ⟨q, q0, q1, rfl, hs3, hg3⟩
  have HB3 := Lib.hid (HB2.out.trans (grownBy_below hg3 HG.out HS2.out.lt))
  have HV3 : Hid (IsRecs 2 w3 v l) := ownsRow_isRecs (row_turn HOV.out hg3 HGL.out) rfl HBT.out.wl
  have HI3 : Hid (InRecs 4 w3 vi it) := HBT.out.inRecs (ownsRow_isRecs (row_turn HOI.out hg3 HGL.out) rfl HBT.out.wi)
  have HF : Hid (Filled av q l it) := HBT.out.filled ⟨by omega, by omega⟩ ⟨q0, by omega⟩
  clear hs3 hg3 HOV HOI HS2 HB2 HB1
  go_wp2_with fail
  refine (tracks_any v vi av q l it _ HV3.out HI3.out).mono ?_
  unfold Tracked
  rw [HF.out.e]
  rintro e w4 ⟨u, rfl, hu, hb4⟩
  have HV4 := Lib.hid (HV3.out.of_below hb4)
  have HI4 := Lib.hid (HI3.out.of_below hb4)
  have HB4 : Hid (Below w.heap.size w w4) := HB3.out.trans (hb4.mono HB3.out.size)
  have hlen := HF.out.len
  have HGE := Lib.hid HF.out.ge
  have HFX := Lib.hid HF.out.fx
  have HONE := Lib.hid HF.out.one
  have hls := HF.out.ls
  have hfull := HF.out.full
  obtain ⟨A, hA⟩ : ∃ x, trkL av q l it = x := ⟨_, rfl⟩
  rw [hA] at hu hlen HGE HFX HONE hls hfull
  have HU4 := Lib.hid hu
  obtain ⟨n, hn⟩ : ∃ n, l.length = n := ⟨_, rfl⟩
  have hn1 := HBT.out.l0
  have hn5 := HBT.out.l1
  have hm6 := HBT.out.i1
  have HN := Lib.hid hn
  obtain ⟨m, hm⟩ : ∃ n, it.length = n := ⟨_, rfl⟩
  have HM := Lib.hid hm
  rw [hn] at hn1 hn5 hlen HGE HFX hls hfull
  rw [hm] at hm6 HONE
  obtain ⟨ra, rc, rfl, r1, r2, r3⟩ := hu
  obtain ⟨ta, tc, rfl, t1, t2, t3⟩ := HV4.out
  obtain ⟨ia, ic, rfl, i1, i2, i3⟩ := HI4.out.1
  rw [hlen] at r1 r3 HU4 ⊢
  rw [hn] at t1 t3 HV4 ⊢
  rw [hm] at i1 i3 HI4 ⊢
  have HLEN := Lib.hid hlen
  obtain ⟨tb, tof, rfl, tlt, tcell⟩ := t3 (by omega)
  obtain ⟨ab, ao, rfl, alt, acell⟩ := r3 (by omega)
  have HTC : Hid (∀ W, Below w4.heap.size w4 W → ∀ i, i < n → ∀ j, j < 2 → W.cell? ⟨tb, tof + i * 2 + j, none⟩ = some (.int .i64 (gf l i j))) := fun W hW i hi j hj => (hW.cell (p := ⟨tb, tof + i * 2 + j, none⟩) tlt).trans (tcell i hi j hj)
  have HAC : Hid (∀ W, Below w4.heap.size w4 W → ∀ i, i < n → W.cell? ⟨ab, ao + i, none⟩ = some (.int .i64 (gz A i))) := fun W hW i hi => (hW.cell (p := ⟨ab, ao + i, none⟩) alt).trans (acell i hi)
  have HIC : Hid (0 < m → ∃ b o, ia = some ⟨b, o, none⟩ ∧ ∀ W, Below w4.heap.size w4 W → ∀ i, i < m → ∀ j, j < 4 → W.cell? ⟨b, o + i * 4 + j, none⟩ = some (.int .i64 (gf it i j))) := fun h => by
    obtain ⟨b, o, rfl, hlt, hc⟩ := i3 h
    exact ⟨b, o, rfl, fun W hW i hi j hj => (hW.cell (p := ⟨b, o + i * 4 + j, none⟩) hlt).trans (hc i hi j hj)⟩
  have HIB : Hid (∀ j, j < m → gf it j 0 = (itA it j : Int) ∧ itA it j < n) := fun j hj => by
    have hb := itB_nat (itsB_at HBT.out.ib (by rw [hm]; exact hj))
    rw [hn] at hb
    exact ⟨hb.1, by omega⟩
  obtain ⟨L0, hL0⟩ : ∃ x, leastS q l it = x := ⟨_, rfl⟩
  have HL0 := Lib.hid hL0
  rw [hL0] at hls hfull
  have hsumb := sumF_upto (F := gz A) (M := 268435456) n (fun i hi => HGE.out i hi)
  rw [← sumTo_sumF] at hsumb
  have HSM : Hid (∀ W, Below w4.heap.size w4 W → Calls Try.prog 17 #[.slice (some ⟨ab, ao, none⟩) n rc] W fun e w' => e = .returned (.int .i64 (sumTo A n)) ∧ W = w') := fun W hW => by
    have h := rsum_any _ A W (HU4.out.of_below hW) (fun j hj => by
      rw [HLEN.out] at hj
      have h1 := sumF_upto (F := gz A) (M := 268435456) j (fun i hi => HGE.out i (by omega))
      rw [← sumTo_sumF] at h1
      omega)
    rw [HLEN.out] at h; exact h
  obtain ⟨S, hS⟩ : ∃ S, sumTo A n = S := ⟨_, rfl⟩
  rw [hS] at hls hfull hsumb HSM
  have hqm : 0 ≤ q * ((n : Int) - 1) ∧ q * ((n : Int) - 1) ≤ 45 := by
    refine ⟨Int.mul_nonneg q0 (by omega), ?_⟩
    have h3 : q * ((n : Int) - 1) ≤ 9 * 5 := Int.mul_le_mul (by omega) (by omega) (by omega) (by omega)
    omega
  have e1 : ((n - 1 : Nat) : Int) = (n : Int) - 1 := by omega
  rw [e1] at hls hfull
  obtain ⟨QM, hQM⟩ : ∃ x, q * ((n : Int) - 1) = x := ⟨_, rfl⟩
  rw [hQM] at hls hfull hqm
  obtain ⟨T, hT⟩ : ∃ T, S + QM = T := ⟨_, rfl⟩
  rw [hT] at hls hfull
  have HX1 : Hid (IntKind.i64.wrap ((n : Int) - 1) = (n : Int) - 1 ∧ IntKind.i64.wrap (q * ((n : Int) - 1)) = QM ∧ IntKind.i64.wrap (S + QM) = T) := ⟨IntWalk.i64_in _ (by omega), by rw [hQM]; exact IntWalk.i64_in _ (by omega), by rw [hT]; exact IntWalk.i64_in _ (by omega)⟩
  have HLS := Lib.hid hls
  have HFULL : Hid (frB l n = true → L0 ≤ av → T = av) := fun h1 h2 => hfull (frB_true h1) h2
  have hnn : (n : Int) ≤ 5 := by omega
  have hmm : (m : Int) ≤ 6 := by omega
  have r2' : (rc : Int) ≤ 9223372036854775807 := by unfold maxLen at r2; omega
  clear hA hn hm hlen hls hfull hL0 hS hQM hT hsumb hqm e1 hb4 HF HV3 HI3 HB3 r1 r2 r3 t1 t2 t3 i1 i2 i3 tlt tcell alt acell
  go_wp2_with fail
  go_loopw [11, 12] (fun f i wr => ∃ k : Nat, k ≤ n ∧ i = .int .i64 k ∧ f = .bool (frB l k) ∧ Below w4.heap.size w4 wr) (fun _ i _ => n - (intOf i).toNat)
  case atStart => exact ⟨0, Nat.zero_le _, rfl, rfl, Below.refl _ _⟩
  case round =>
    obtain ⟨k, hk, rfl, rfl, hb⟩ := hrel
    have HB := Lib.hid hb
    clear hb
    by_cases hkn : k < n
    ·
      as_aux_lemma =>
        have c0 := HTC.out wr HB.out k hkn 0 (by omega)
        have c1 := HTC.out wr HB.out k hkn 1 (by omega)
        rw [Nat.add_zero] at c0
        have ca := HAC.out wr HB.out k hkn
        have hge := HGE.out k hkn
        have hfx := HFX.out k hkn
        have hfs := frB_succ l k
        obtain ⟨x, hx⟩ : ∃ x, gz A k = x := ⟨_, rfl⟩
        obtain ⟨z, hz⟩ : ∃ z, gf l k 0 = z := ⟨_, rfl⟩
        obtain ⟨y, hy⟩ : ∃ y, gf l k 1 = y := ⟨_, rfl⟩
        rw [hx] at ca hge hfx
        rw [hz] at c0 hfx hfs
        rw [hy] at c1 hfx
        obtain ⟨B, hB⟩ : ∃ B, frB l k = B := ⟨_, rfl⟩
        rw [hB] at hfs ⊢
        have HFS := Lib.hid hfs
        have HFXX := Lib.hid hfx
        have hkn' : (k : Int) < (n : Int) := by omega
        have hk0 : (0 : Int) ≤ (k : Int) := by omega
        have dx : decide (x < 0) = false := by simp; omega
        clear hx hz hy hB hfs hfx hge
        go_upto_region 13 with fail
        go_cut [11] (fun f wx => f = .bool (B || decide (z = 2)) ∧ wx = wr)
        case first =>
          clear ca c1
          by_cases h2 : z = 2
          · have d2 : (z == 2) = true := by simpa using h2
            have HD2 : Hid (decide (z = 2) = true) := Lib.hid (by simpa using h2)
            clear h2
            cases B
            · go_wp2
              go_meet
              exact ⟨by rw [HD2.out]; rfl, rfl⟩
            · go_wp2
              go_meet
              exact ⟨by rw [HD2.out]; rfl, rfl⟩
          · have d2 : (z == 2) = false := by simpa using h2
            have HD2 : Hid (decide (z = 2) = false) := Lib.hid (by simpa using h2)
            clear h2
            cases B
            · go_wp2
              go_meet
              exact ⟨by rw [HD2.out]; rfl, rfl⟩
            · go_wp2
              go_meet
              exact ⟨by rw [HD2.out]; rfl, rfl⟩
        case rest =>
          obtain ⟨rfl, hwx⟩ := hcut
          subst hwx
          obtain ⟨wr, rfl⟩ : ∃ x : World, x = wc := ⟨_, rfl⟩
          obtain ⟨C, hC⟩ : ∃ C, (B || decide (z = 2)) = C := ⟨_, rfl⟩
          rw [hC] at HFS ⊢
          clear hC
          by_cases hz0 : z = 0
          ·
            as_aux_lemma =>
              have hxy := HFXX.out hz0
              subst hxy
              have d0 : (z == 0) = true := by simpa using hz0
              have d1 : (x != x) = false := by simp
              clear hz0
              go_wp2_with fail
              go_quiet (fail)
              go_wp2
              go_roundw
              case rel => exact ⟨k + 1, by omega, by go_num, by rw [HFS.out], Below_drewN HB.out _⟩
              case measure => simp [intOf]; omega
          ·
            as_aux_lemma =>
              have d0 : (z == 0) = false := by simpa using hz0
              clear hz0
              go_wp2_with fail
              go_quiet (fail)
              go_wp2
              go_roundw
              case rel => exact ⟨k + 1, by omega, by go_num, by rw [HFS.out], Below_drewN HB.out _⟩
              case measure => simp [intOf]; omega
    · obtain rfl : k = n := by omega
      as_aux_lemma =>
        obtain ⟨F, hF⟩ : ∃ F, frB l k = F := ⟨_, rfl⟩
        rw [hF] at HFULL ⊢
        clear hF
        go_wp2_with fail
        go_loopw [13] (fun i wr => ∃ j : Nat, j ≤ m ∧ i = .int .i64 j ∧ Below w4.heap.size w4 wr) (fun i _ => m - (intOf i).toNat)
        case atStart => exact ⟨0, Nat.zero_le _, rfl, HB.out⟩
        case round =>
          obtain ⟨j, hj, rfl, hb⟩ := hrel
          have HBJ := Lib.hid hb
          clear hb
          by_cases hjm : j < m
          ·
            as_aux_lemma =>
              obtain ⟨ib, io, rfl, hc⟩ := HIC.out (by omega)
              have c0 := hc wr HBJ.out j hjm 0 (by omega)
              have c1 := hc wr HBJ.out j hjm 1 (by omega)
              have c2 := hc wr HBJ.out j hjm 2 (by omega)
              have c3 := hc wr HBJ.out j hjm 3 (by omega)
              rw [Nat.add_zero] at c0
              obtain ⟨hp, han⟩ := HIB.out j hjm
              have hone := HONE.out j hjm
              rw [hp] at c0
              obtain ⟨a, ha⟩ : ∃ a, itA it j = a := ⟨_, rfl⟩
              rw [ha] at c0 han hone
              obtain ⟨p1, h1⟩ : ∃ x, gf it j 1 = x := ⟨_, rfl⟩
              obtain ⟨p2, h2⟩ : ∃ x, gf it j 2 = x := ⟨_, rfl⟩
              obtain ⟨p3, h3⟩ : ∃ x, gf it j 3 = x := ⟨_, rfl⟩
              rw [h1] at c1 hone
              rw [h2] at c2 hone
              rw [h3] at c3
              have hjm' : (j : Int) < (m : Int) := by omega
              have hj0 : (0 : Int) ≤ (j : Int) := by omega
              have ha0' : (0 : Int) ≤ (a : Int) := by omega
              have han' : (a : Int) < (k : Int) := by omega
              have HWJ : Hid (w4.heap.size ≤ wr.heap.size) := HBJ.out.size
              clear ha h1 h2 h3 hp hc
              go_upto_region 20 with fail
              have HB5 : Hid (Below w4.heap.size w4 (wr.alloc (.cells #[.int .i64 a, .int .i64 p1, .int .i64 p2, .int .i64 p3] 44))) := HBJ.out.alloc HWJ.out _
              have hblk : Hid (ExB (wr.alloc (.cells #[.int .i64 a, .int .i64 p1, .int .i64 p2, .int .i64 p3] 44)) wr.heap.size a p1 p2 p3) := heap_alloc_new wr _
              obtain ⟨X, hX⟩ : ∃ T, wr.heap.size = T := ⟨_, rfl⟩
              obtain ⟨W5, hW5⟩ : ∃ W, wr.alloc (.cells #[.int .i64 a, .int .i64 p1, .int .i64 p2, .int .i64 p3] 44) = W := ⟨_, rfl⟩
              rw [hW5] at HB5 hblk ⊢
              rw [hX] at hblk ⊢
              have x0 := hblk.out.c0
              have x1 := hblk.out.c1
              have x2 := hblk.out.c2
              clear hX hW5 c0 c1 c2 c3
              by_cases hs : p1 = 1
              · have d1 : (p1 == 1) = true := by simpa using hs
                have hone2 := hone hs
                have tz := HTC.out W5 HB5.out a han 0 (by omega)
                rw [Nat.add_zero] at tz
                have ay := HAC.out W5 HB5.out a han
                obtain ⟨z, hz⟩ : ∃ z, gf l a 0 = z := ⟨_, rfl⟩
                obtain ⟨y, hy⟩ : ∃ y, gz A a = y := ⟨_, rfl⟩
                rw [hz] at tz hone2
                rw [hy] at ay hone2
                clear hz hy hs hone
                by_cases hz0 : z = 0
                ·
                  as_aux_lemma =>
                    have d2 : (z != 0) = false := by simpa using hz0
                    clear hz0 hone2
                    go_quiet (fail)
                    go_wp2
                    go_roundw
                    case rel => exact ⟨j + 1, by omega, by go_num, Below_drewN HB5.out _⟩
                    case measure => simp [intOf]; omega
                ·
                  as_aux_lemma =>
                    have d2 : (z != 0) = true := by simpa using hz0
                    have hle := hone2 hz0
                    have d3 : decide (y < p2) = false := by simp; omega
                    clear hz0 hone2 hle
                    go_quiet (fail)
                    go_wp2
                    go_roundw
                    case rel => exact ⟨j + 1, by omega, by go_num, Below_drewN HB5.out _⟩
                    case measure => simp [intOf]; omega
              ·
                as_aux_lemma =>
                  have d1 : (p1 == 1) = false := by simpa using hs
                  clear hs hone
                  go_quiet (fail)
                  go_wp2
                  go_roundw
                  case rel => exact ⟨j + 1, by omega, by go_num, Below_drewN HB5.out _⟩
                  case measure => simp [intOf]; omega
          · obtain rfl : j = m := by omega
            as_aux_lemma =>
              obtain ⟨w5, rfl⟩ : ∃ x : World, x = wr := ⟨_, rfl⟩
              obtain ⟨y1, y2, y3⟩ := HX1.out
              have HSM5 := Lib.hid (HSM.out w5 HBJ.out)
              have hls := HLS.out
              have HB5 : Hid (Below w.heap.size w w5) := HB4.out.trans (HBJ.out.mono HB4.out.size)
              have HV5 := Lib.hid (HV4.out.of_below HBJ.out)
              have HI5 := Lib.hid (HI4.out.of_below HBJ.out)
              by_cases hF : F = true
              · subst hF
                by_cases hal : av < L0
                · go_wp2_with first | (go_at_call 17; refine HSM5.out.mono ?_; rintro e w' ⟨rfl, rfl⟩) | (go_at_call 18; refine (least_any _ _ q l it _ HV5.out HI5.out).mono ?_; unfold Errs; rw [HL0.out]; rintro e w6 ⟨rfl, hb6⟩) | (go_at_call 10; refine (awake_any _).mono ?_; rintro e w7 ⟨rfl, hb7⟩)
                  go_ret
                  exact ⟨rfl, (HB5.out.trans (hb6.mono HB5.out.size)).trans (hb7.mono (HB5.out.trans (hb6.mono HB5.out.size)).size)⟩
                · obtain rfl := HFULL.out rfl (by omega)
                  go_wp2_with first | (go_at_call 17; refine HSM5.out.mono ?_; rintro e w' ⟨rfl, rfl⟩) | (go_at_call 18; refine (least_any _ _ q l it _ HV5.out HI5.out).mono ?_; unfold Errs; rw [HL0.out]; rintro e w6 ⟨rfl, hb6⟩) | (go_at_call 10; refine (awake_any _).mono ?_; rintro e w7 ⟨rfl, hb7⟩)
                  go_ret
                  exact ⟨rfl, (HB5.out.trans (hb6.mono HB5.out.size)).trans (hb7.mono (HB5.out.trans (hb6.mono HB5.out.size)).size)⟩
              · obtain rfl : F = false := by simpa using hF
                go_wp2_with first | (go_at_call 17; refine HSM5.out.mono ?_; rintro e w' ⟨rfl, rfl⟩) | (go_at_call 18; refine (least_any _ _ q l it _ HV5.out HI5.out).mono ?_; unfold Errs; rw [HL0.out]; rintro e w6 ⟨rfl, hb6⟩) | (go_at_call 10; refine (awake_any _).mono ?_; rintro e w7 ⟨rfl, hb7⟩)
                go_ret
                exact ⟨rfl, (HB5.out.trans (hb6.mono HB5.out.size)).trans (hb7.mono (HB5.out.trans (hb6.mono HB5.out.size)).size)⟩
end Go.Proofs.Ytadkkkdecejkeaa

