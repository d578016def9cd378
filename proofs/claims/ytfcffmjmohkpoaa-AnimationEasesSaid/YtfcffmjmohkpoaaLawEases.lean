/- The walk of the law AnimationEases. -/
import Derived.Test.YtfcffmjmohkpoaaAwake36
import Derived.Test.YtfcffmjmohkpoaaSrc
import Derived.Deep.RegionHeld3
import Derived.Lib.SmallJoins
namespace Go.Proofs.Ytfcffmjmohkpoaa
open Go.RowKit Go.ChangeShapes Go.WideShapes Go.Joins
set_option linter.unusedVariables false

/-- A curve that came in. -/
def InCurve (v : Value) (c : Int × Int × Int × Int) : Prop := v = .agg #[.int .i64 c.1, .int .i64 c.2.1, .int .i64 c.2.2.1, .int .i64 c.2.2.2]
theorem open_curve {H : Type} {enc : TypeId × Value → H} {W : World} {base : Nat} {v : Value} {d : DataW H} {p : List MemPlace} (hok : Value.okWide Try.prog W .any base 23 v)
    (h : DataW.Trod enc Try.prog W 0 (fun _ => true) true 23 v d p) : ∃ c, InCurve v c := by
  obtain ⟨v0, v1, v2, v3, y0, y1, y2, y3, n, rfl, _, _, h0, h1, h2, h3⟩ := open_agg4 Try.underlying23 (by kernel_rfl) (by kernel_rfl) hok h
  obtain ⟨a, e0, _, _⟩ := DataW.trod_int Try.underlying3 h0
  obtain ⟨b, e1, _, _⟩ := DataW.trod_int Try.underlying3 h1
  obtain ⟨c, e2, _, _⟩ := DataW.trod_int Try.underlying3 h2
  obtain ⟨d, e3, _, _⟩ := DataW.trod_int Try.underlying3 h3
  simp at e0 e1 e2 e3
  subst e0 e1 e2 e3
  exact ⟨(a, b, c, d), rfl⟩

/-- Block g holds the curve. -/
def CurveAt (w : World) (g : Nat) (a b c d : Int) : Prop := w.cell? ⟨g, 0, none⟩ = some (.int .i64 a) ∧ w.cell? ⟨g, 1, none⟩ = some (.int .i64 b) ∧ w.cell? ⟨g, 2, none⟩ = some (.int .i64 c) ∧ w.cell? ⟨g, 3, none⟩ = some (.int .i64 d)
theorem CurveAt.kept {w w' : World} {g B : Nat} {a b c d : Int} (h : CurveAt w g a b c d) (hb : Below B w w') (hg : g < B) : CurveAt w' g a b c d :=
  ⟨(hb.cell (p := ⟨g, 0, none⟩) hg).trans h.1, (hb.cell (p := ⟨g, 1, none⟩) hg).trans h.2.1, (hb.cell (p := ⟨g, 2, none⟩) hg).trans h.2.2.1, (hb.cell (p := ⟨g, 3, none⟩) hg).trans h.2.2.2⟩

theorem curve_cells2 (w : World) (a b c d : Int) :
    (w.alloc (.cells #[.int .i64 a, .int .i64 b, .int .i64 c, .int .i64 d] 23)).cell? ⟨w.heap.size, 0, none⟩ = some (.int .i64 a) ∧ (w.alloc (.cells #[.int .i64 a, .int .i64 b, .int .i64 c, .int .i64 d] 23)).cell? ⟨w.heap.size, 1, none⟩ = some (.int .i64 b) ∧
    (w.alloc (.cells #[.int .i64 a, .int .i64 b, .int .i64 c, .int .i64 d] 23)).cell? ⟨w.heap.size, 2, none⟩ = some (.int .i64 c) ∧ (w.alloc (.cells #[.int .i64 a, .int .i64 b, .int .i64 c, .int .i64 d] 23)).cell? ⟨w.heap.size, 3, none⟩ = some (.int .i64 d) := by
  refine ⟨?_, ?_, ?_, ?_⟩
  all_goals go_simp

set_option maxHeartbeats 4000000 in
set_option maxRecDepth 100000 in
theorem eases_core (x1 y1 x2 y2 part whole : Int) (u : Value) (l : List Int) (w : World) (hl : InInts w u l) :
    Calls Try.prog 3 #[.agg #[.int .i64 x1, .int .i64 y1, .int .i64 x2, .int .i64 y2], .int .i64 part, .int .i64 whole, u] w (True_ w) := by
  have HL := Lib.hid hl
  clear hl
  go_enter Try.func3, Try.ntmps3
  go_wp2_with fail
  go_region_held3 (fun w' => w'.cell? ⟨w.heap.size, 0, none⟩ = some (.int .i64 x1) ∧ w'.cell? ⟨w.heap.size, 1, none⟩ = some (.int .i64 y1) ∧ w'.cell? ⟨w.heap.size, 2, none⟩ = some (.int .i64 x2) ∧ w'.cell? ⟨w.heap.size, 3, none⟩ = some (.int .i64 y2) ∧ Below w.heap.size w w' ∧ w.heap.size < w'.heap.size) (first | (refine ⟨by go_simp, by go_simp, by go_simp, by go_simp, ((Below.refl _ _).alloc (Nat.le_refl _) _).drew, by simp⟩) | (go_split_ands; exact ⟨(hb'.cell (p := ⟨w.heap.size, 0, none⟩) (by assumption)).trans (by assumption), (hb'.cell (p := ⟨w.heap.size, 1, none⟩) (by assumption)).trans (by assumption), (hb'.cell (p := ⟨w.heap.size, 2, none⟩) (by assumption)).trans (by assumption), (hb'.cell (p := ⟨w.heap.size, 3, none⟩) (by assumption)).trans (by assumption), Below.trans (by assumption) (hb'.mono (by omega)), by have := hb'.size; omega⟩) | go_keep) (first | (go_at_call 13; refine (Ease_any _ _ _ _ _ _ _).mono ?_; rintro e w' ⟨rfl, hb'⟩) | (go_at_call 14; refine (rEase_any _ _ _ _ _ _ _).mono ?_; rintro e w' ⟨rfl, hb'⟩))
  go_split_ands
  have hB : Below w.heap.size w w' := by assumption
  have HB0 := Lib.hid hB
  have HL2 := Lib.hid (show InInts w' u l from ⟨HL.out.1.of_below hB, HL.out.2⟩)
  clear hB
  go_wp2_with fail
  refine (srcNew_any _ l _ HL2.out).mono ?_
  rintro e w1 ⟨g, rfl, hs, hg0, hg1, hb⟩
  have HG : Hid (w.heap.size ≤ g) := Nat.le_trans HB0.out.size hg0
  have HS1 := Lib.hid hs
  have HB1 := Lib.hid (HB0.out.trans (hb.mono HB0.out.size))
  have HW1 : Hid (Below g w1 w1) := Below.refl _ _
  clear hs hg0 hg1 hb
  go_wp2_with fail
  refine (srcN_any g _ _ HS1.out (by omega) (by omega)).mono ?_
  rintro e w2 ⟨z1, a1, b1, rfl, hs, hg⟩
  have HS2 := Lib.hid hs
  have HB2 := Lib.hid (HB1.out.trans (grownBy_below hg HG.out HS1.out.lt))
  have HW2 := Lib.hid (HW1.out.trans (grownBy_below hg (Nat.le_refl _) HS1.out.lt))
  clear hs hg
  go_wp2_with fail
  refine (srcRange_any g _ _ _ HS2.out (by omega) (by omega) (by omega)).mono ?_
  rintro e w3 ⟨z2, a2, b2, rfl, hs, hg⟩
  have HS3 := Lib.hid hs
  have HB3 := Lib.hid (HB2.out.trans (grownBy_below hg HG.out HS2.out.lt))
  have HW3 := Lib.hid (HW2.out.trans (grownBy_below hg (Nat.le_refl _) HS2.out.lt))
  clear hs hg
  go_wp2_with fail
  refine (srcN_any g _ _ HS3.out (by omega) (by omega)).mono ?_
  rintro e w4 ⟨z3, a3, b3, rfl, hs, hg⟩
  have HS4 := Lib.hid hs
  have HB4 := Lib.hid (HB3.out.trans (grownBy_below hg HG.out HS3.out.lt))
  have HW4 := Lib.hid (HW3.out.trans (grownBy_below hg (Nat.le_refl _) HS3.out.lt))
  clear hs hg
  go_wp2_with fail
  refine (srcRange_any g _ _ _ HS4.out (by omega) (by omega) (by omega)).mono ?_
  rintro e w5 ⟨z4, a4, b4, rfl, hs, hg⟩
  have HS5 := Lib.hid hs
  have HB5 := Lib.hid (HB4.out.trans (grownBy_below hg HG.out HS4.out.lt))
  have HW5 := Lib.hid (HW4.out.trans (grownBy_below hg (Nat.le_refl _) HS4.out.lt))
  clear hs hg
  go_wp2_with fail
  refine (srcRange_any g _ _ _ (HS5.out.kept ?hk) (by omega) (by omega) (by omega)).mono ?_
  case hk => exact (Below.refl _ _).alloc (by have := HS5.out.lt; omega) _
  rintro e W ⟨N, n0, n1, rfl, hs, hg⟩
  obtain ⟨h, hh⟩ : ∃ h, w5.heap.size = h := ⟨_, rfl⟩
  have hgh : g < h := by rw [← hh]; exact HS5.out.lt
  have hc := curve_cells2 w5 z1 z2 z3 z4
  rw [hh] at hc
  have k0 : W.cell? ⟨h, 0, none⟩ = some (.int .i64 z1) := hg.cell hc.1 (by simp; omega)
  have k1 : W.cell? ⟨h, 1, none⟩ = some (.int .i64 z2) := hg.cell hc.2.1 (by simp; omega)
  have k2 : W.cell? ⟨h, 2, none⟩ = some (.int .i64 z3) := hg.cell hc.2.2.1 (by simp; omega)
  have k3 : W.cell? ⟨h, 3, none⟩ = some (.int .i64 z4) := hg.cell hc.2.2.2 (by simp; omega)
  have hWlt : h < W.heap.size := by have := hg.size; simp at this; omega
  have HBW : Hid (Below w.heap.size w W) := (HB5.out.alloc HB5.out.size _).trans (grownBy_below hg HG.out (by simp; omega))
  have HK := Lib.hid (And.intro k0 (And.intro k1 (And.intro k2 k3)))
  rw [hh]
  clear hs hg hc k0 k1 k2 k3 hh hgh
  go_wp2_with fail
  go_loopw [12] (fun j wr => ∃ i : Nat, i ≤ 11 ∧ j = .int .i64 i ∧ Below W.heap.size W wr) (fun j _ => 11 - (intOf j).toNat)
  case atStart => exact ⟨0, by omega, rfl, Below.refl _ _⟩
  case round =>
    obtain ⟨i, hi, rfl, hbl⟩ := hrel
    have HBl := Lib.hid hbl
    by_cases hi10 : i ≤ 10
    · have hi' : (i : Int) ≤ 10 := by omega
      obtain ⟨m0, m1⟩ := mul_nn (a := N) (b := (i : Int)) (m := 10000) (k := 10) (by omega) n1 (by omega) hi'
      have hx1 : IntKind.i64.wrap (N * (i : Int)) = N * (i : Int) := IntWalk.i64_in _ (by omega)
      have hx2 : (N * (i : Int)).tdiv 10 = N * (i : Int) / 10 := Int.tdiv_eq_ediv_of_nonneg m0
      have hlt : h < wr.heap.size := Nat.lt_of_lt_of_le hWlt hbl.size
      have c0 := (hbl.cell (p := ⟨h, 0, none⟩) hWlt).trans HK.out.1
      have c1 := (hbl.cell (p := ⟨h, 1, none⟩) hWlt).trans HK.out.2.1
      have c2 := (hbl.cell (p := ⟨h, 2, none⟩) hWlt).trans HK.out.2.2.1
      have c3 := (hbl.cell (p := ⟨h, 3, none⟩) hWlt).trans HK.out.2.2.2
      clear hbl
      go_wp2_with fail
      go_region_held3 (fun w' => w'.cell? ⟨h, 0, none⟩ = some (.int .i64 z1) ∧ w'.cell? ⟨h, 1, none⟩ = some (.int .i64 z2) ∧ w'.cell? ⟨h, 2, none⟩ = some (.int .i64 z3) ∧ w'.cell? ⟨h, 3, none⟩ = some (.int .i64 z4) ∧ Below W.heap.size W w' ∧ h < w'.heap.size) (first | (refine ⟨by go_simp, by go_simp, by go_simp, by go_simp, HBl.out.drew, by simpa using hlt⟩) | (go_split_ands; exact ⟨(hb'.cell (p := ⟨h, 0, none⟩) (by assumption)).trans (by assumption), (hb'.cell (p := ⟨h, 1, none⟩) (by assumption)).trans (by assumption), (hb'.cell (p := ⟨h, 2, none⟩) (by assumption)).trans (by assumption), (hb'.cell (p := ⟨h, 3, none⟩) (by assumption)).trans (by assumption), Below.trans (by assumption) (hb'.mono (Below.size (by assumption))), by have := hb'.size; omega⟩) | go_keep) (first | (go_at_call 13; refine (Ease_any _ _ _ _ _ _ _).mono ?_; rintro e w' ⟨rfl, hb'⟩) | (go_at_call 14; refine (rEase_any _ _ _ _ _ _ _).mono ?_; rintro e w' ⟨rfl, hb'⟩))
      go_split_ands
      have hB : Below W.heap.size W w' := by assumption
      have HBn := Lib.hid hB
      clear hB
      go_wp2
      go_roundw
      case rel => exact ⟨i + 1, by omega, by go_num, HBn.out⟩
      case measure => simp [intOf]; omega
    · obtain rfl : i = 11 := by omega
      clear hbl
      go_wp2_with (go_at_call 18; refine (awake_any _).mono ?_; rintro e w9 ⟨rfl, hb9⟩)
      go_ret
      have hx := HBW.out.trans (HBl.out.mono HBW.out.size)
      exact ⟨rfl, hx.trans (hb9.mono hx.size)⟩

theorem walk_AnimationEases (u0 : Value) (c : Int × Int × Int × Int) (u1 : Value) (v1 : Int) (u2 : Value) (v2 : Int) (u3 : Value) (l : List Int) (w : World) (h0 : InCurve u0 c) (h1 : u1 = .int .i64 v1 ∧ (Lit.int .i64 v1).wf = true) (h2 : u2 = .int .i64 v2 ∧ (Lit.int .i64 v2).wf = true) (h3 : InInts w u3 l) :
    Calls Try.prog 3 #[u0, u1, u2, u3] w (True_ w) := by
  rw [InCurve] at h0
  subst h0
  obtain ⟨rfl, -⟩ := h1
  obtain ⟨rfl, -⟩ := h2
  exact eases_core c.1 c.2.1 c.2.2.1 c.2.2.2 v1 v2 u3 l w h3
end Go.Proofs.Ytfcffmjmohkpoaa
