/- The walk of the law BoxBaselines. -/
import Derived.Test.YthmdagffhanagaaBaseR
import Derived.Test.YthmdagffhanagaaAwake18
import Derived.Test.YthmdagffhanagaaOpen
import Derived.Deep.QuietTactic
import Derived.BigQuiet
namespace Go.Proofs.Ythmdagffhanagaa
open Go.RowKit
set_option linter.unusedVariables false
set_option linter.unusedSimpArgs false

set_option maxHeartbeats 8000000 in
set_option maxRecDepth 100000 in
theorem walk_BoxBaselines (v0 : Value) (hs : List Int) (v1 : Value) (bs : List Int) (w : World) (h0 : InInts w v0 hs) (h1 : InInts w v1 bs) :
    Calls Try.prog 8 #[v0, v1] w (True_ w) := by
  have HV := Lib.hid h0.1
  have HU := Lib.hid h1.1
  obtain ⟨a, c, rfl, m1, m2, m3⟩ := h0.1
  obtain ⟨b, d, rfl, k1, k2, k3⟩ := h1.1
  clear h0 h1
  unfold maxLen at m2 k2
  obtain ⟨n, hn⟩ : ∃ n, hs.length = n := ⟨_, rfl⟩
  obtain ⟨m, hm⟩ : ∃ m, bs.length = m := ⟨_, rfl⟩
  have HN2 := Lib.hid hn
  have HN := Lib.hid hm
  rw [hn] at m1 m3 HV ⊢
  rw [hm] at k1 k3 HU ⊢
  have H3 := Lib.hid m3
  have K3 := Lib.hid k3
  clear m3 k3 hn hm
  by_cases hl : 120 < n
  · have hl' : (120 : Int) < (n : Int) := by omega
    go_enter Try.func8, Try.ntmps8
    go_wp2
    go_ret
    exact ⟨rfl, Below.refl _ _⟩
  have hl1 : (n : Int) ≤ 120 := by omega
  by_cases hl2 : 120 < m
  · have hl' : (120 : Int) < (m : Int) := by omega
    go_enter Try.func8, Try.ntmps8
    go_wp2
    go_ret
    exact ⟨rfl, Below.refl _ _⟩
  have hl3 : (m : Int) ≤ 120 := by omega
  go_enter Try.func8, Try.ntmps8
  go_wp2_with fail
  refine (base_any _ _ hs bs _ HV.out HU.out).mono ?_
  rintro e w1 ⟨v, rfl, hv, hb1⟩
  have HR1 := Lib.hid hv
  have HB1 := Lib.hid hb1
  clear hv hb1
  obtain ⟨H, hH⟩ : ∃ H, baseH hs bs = H := ⟨_, rfl⟩
  have HH := Lib.hid hH
  rw [hH]
  clear hH
  go_wp2_with fail
  refine (rbase_any _ _ hs bs _ (HV.out.of_below HB1.out) (HU.out.of_below HB1.out)).mono ?_
  rintro e w2 ⟨u, rfl, hu, hb2⟩
  rw [HH.out]
  have HR2 := Lib.hid hu
  have HB2 := Lib.hid (HB1.out.trans (hb2.mono HB1.out.size))
  have HRA : Hid (IsInts w2 v (baseL hs bs)) := HR1.out.of_below hb2
  clear hu hb2
  obtain ⟨L, hL⟩ : ∃ L, baseL hs bs = L := ⟨_, rfl⟩
  have HL := Lib.hid hL
  rw [hL] at HRA HR2
  clear hL HR1
  go_wp2_with fail
  refine (equal_any _ _ L L _ HRA.out HR2.out).mono ?_
  rw [eqL_self]
  rintro e w3 ⟨rfl, d3, rfl⟩
  obtain ⟨ra, rc, rfl, r1, r2, r3⟩ := HRA.out
  obtain ⟨p, hp⟩ : ∃ p, L.length = p := ⟨_, rfl⟩
  have HP := Lib.hid hp
  rw [hp] at r1 r3 HRA ⊢
  have R3 := Lib.hid r3
  unfold maxLen at r2
  clear r3 hp
  have HPN : Hid (0 < p → baseOk hs bs = true ∧ p = m ∧ p = n) := by
    intro h
    cases e : baseOk hs bs with
    | false => rw [← HP.out, ← HL.out, baseL_no e] at h; simp at h
    | true =>
      have h1 := baseL_len e
      have h2 := (baseOk_iff.1 e).1
      rw [HL.out, HP.out, HN.out] at h1
      rw [HN2.out, HN.out] at h2
      exact ⟨rfl, h1, by omega⟩
  have hp120 : (p : Int) ≤ 120 := by
    by_cases h : 0 < p
    · have := HPN.out h; omega
    · omega
  go_wp2_with fail
  go_loopw [9] (fun i wr => ∃ j : Nat, j ≤ p ∧ i = .int .i64 j ∧ ∃ d, wr = w2.drewN d) (fun i _ => p - (intOf i).toNat)
  case atStart => exact ⟨0, Nat.zero_le _, rfl, _, rfl⟩
  case round =>
    obtain ⟨j, hj, rfl, hd⟩ := hrel
    have cw : ∀ q, wr.cell? q = w2.cell? q := by
      obtain ⟨d, rfl⟩ := hd
      intro q
      simp
    have HD := Lib.hid hd
    clear hd
    by_cases hjp : j < p
    · obtain ⟨hok, e1, e2⟩ := HPN.out (by omega)
      obtain ⟨g, off, rfl, hlt, hcell⟩ := R3.out (by omega)
      obtain ⟨g1, off1, rfl, hlt1, hcell1⟩ := H3.out (by omega)
      obtain ⟨g2, off2, rfl, hlt2, hcell2⟩ := K3.out (by omega)
      have c1 := (cw _).trans (hcell j hjp)
      have c2 := (cw _).trans (hcell 0 (by omega))
      have c3 := (cw _).trans ((HB2.out.cell (p := ⟨g1, off1 + j, none⟩) hlt1).trans (hcell1 j (by omega)))
      have c4 := (cw _).trans ((HB2.out.cell (p := ⟨g2, off2 + j, none⟩) hlt2).trans (hcell2 j (by omega)))
      have c5 := (cw _).trans ((HB2.out.cell (p := ⟨g2, off2 + 0, none⟩) hlt2).trans (hcell2 0 (by omega)))
      rw [Nat.add_zero] at c2 c5
      have f1 := base_facts hok (i := j) (by rw [HN.out]; omega)
      have f2 := base_facts hok (i := 0) (by rw [HN.out]; omega)
      rw [HL.out, HH.out] at f1 f2
      obtain ⟨x, hx⟩ : ∃ x, gz L j = x := ⟨_, rfl⟩
      obtain ⟨x0, hx0⟩ : ∃ x, gz L 0 = x := ⟨_, rfl⟩
      obtain ⟨y, hy⟩ : ∃ x, gz bs j = x := ⟨_, rfl⟩
      obtain ⟨y0, hy0⟩ : ∃ x, gz bs 0 = x := ⟨_, rfl⟩
      obtain ⟨z, hz⟩ : ∃ x, gz hs j = x := ⟨_, rfl⟩
      obtain ⟨T, hT⟩ : ∃ x, topTo bs bs.length = x := ⟨_, rfl⟩
      rw [hx] at c1 f1
      rw [hx0] at c2 f2
      rw [hz] at c3 f1
      rw [hy] at c4 f1
      rw [hy0] at c5 f2
      rw [hT] at f1 f2
      have hj' : (j : Int) < (p : Int) := by omega
      have hj1 : (j : Int) < (n : Int) := by omega
      have hj2 : (j : Int) < (m : Int) := by omega
      have hz0 : (0 : Int) < (p : Int) := by omega
      have hz1 : (0 : Int) < (m : Int) := by omega
      have hj0 : (0 : Int) ≤ (j : Int) := by omega
      have w1' : IntKind.i64.wrap (x + y) = T := by rw [IntWalk.i64_in _ (by omega)]; omega
      have w2' : IntKind.i64.wrap (x0 + y0) = T := by rw [IntWalk.i64_in _ (by omega)]; omega
      have w3' : IntKind.i64.wrap (x + z) = x + z := IntWalk.i64_in _ (by omega)
      have t1 : decide (x < 0) = false := decide_eq_false (by omega)
      have t2 : decide (H < x + z) = false := decide_eq_false (by omega)
      clear hcell hcell1 hcell2 hx hx0 hy hy0 hz hT f1 f2 hok e1 e2 cw
      go_wp2_with fail
      go_quiet (fail)
      clear w1' w2' w3' t1 t2
      go_wp2
      go_roundw
      case rel => exact ⟨j + 1, by omega, by go_num, by obtain ⟨d, rfl⟩ := HD.out; first | exact ⟨_, rfl⟩ | (simp only [World.drewN_drewN]; exact ⟨_, rfl⟩)⟩
      case measure => simp [intOf]; omega
    · obtain rfl : j = p := by omega
      clear cw
      go_wp2_with fail
      refine (awake_any _).mono ?_
      rintro e w5 ⟨rfl, hb5⟩
      go_wp2
      go_ret
      refine ⟨rfl, ?_⟩
      obtain ⟨d, rfl⟩ := HD.out
      exact (Below_drewN HB2.out d).trans (hb5.mono HB2.out.size)
end Go.Proofs.Ythmdagffhanagaa
