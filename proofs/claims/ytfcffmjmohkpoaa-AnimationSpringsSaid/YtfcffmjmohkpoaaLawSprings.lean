/- The walk of the law AnimationSprings. -/
import Derived.Test.YtfcffmjmohkpoaaAwake36
import Derived.Test.YtfcffmjmohkpoaaSpringR
import Derived.Test.YtfcffmjmohkpoaaSrc
namespace Go.Proofs.Ytfcffmjmohkpoaa
open Go.RowKit
set_option linter.unusedVariables false

set_option maxHeartbeats 2000000 in
set_option maxRecDepth 100000 in
theorem springs_core (x v t k d n : Int) (u : Value) (l : List Int) (w : World) (hl : InInts w u l) :
    Calls Try.prog 4 #[.int .i64 x, .int .i64 v, .int .i64 t, .int .i64 k, .int .i64 d, .int .i64 n, u] w (True_ w) := by
  have HL := Lib.hid hl
  clear hl
  go_enter Try.func4, Try.ntmps4
  go_wp2_with fail
  refine (srcNew_any _ l _ HL.out).mono ?_
  rintro e w1 ⟨g, rfl, hs, hg0, hg1, hb⟩
  have HG := Lib.hid hg0
  have HS1 := Lib.hid hs
  have HB1 := Lib.hid hb
  clear hs hg0 hg1 hb
  go_wp2_with fail
  refine (Spring_any _ _ _ _ _ _ _).mono ?_
  rintro e w' ⟨rfl, rfl⟩
  go_wp2_with fail
  refine (rSpring_any _ _ _ _ _ _ _).mono ?_
  rintro e w' ⟨rfl, rfl⟩
  go_wp2_with fail
  refine (srcRange_any g _ _ _ HS1.out (by omega) (by omega) (by omega)).mono ?_
  rintro e w2 ⟨z1, a1, b1, rfl, hs, hg⟩
  have HS2 := Lib.hid hs
  have HB2 := Lib.hid (HB1.out.trans (grownBy_below hg HG.out HS1.out.lt))
  clear hs hg
  go_wp2_with fail
  refine (srcRange_any g _ _ _ HS2.out (by omega) (by omega) (by omega)).mono ?_
  rintro e w3 ⟨z2, a2, b2, rfl, hs, hg⟩
  have HS3 := Lib.hid hs
  have HB3 := Lib.hid (HB2.out.trans (grownBy_below hg HG.out HS2.out.lt))
  clear hs hg
  go_wp2_with fail
  refine (srcRange_any g _ _ _ HS3.out (by omega) (by omega) (by omega)).mono ?_
  rintro e w4 ⟨z3, a3, b3, rfl, hs, hg⟩
  have HS4 := Lib.hid hs
  have HB4 := Lib.hid (HB3.out.trans (grownBy_below hg HG.out HS3.out.lt))
  clear hs hg
  go_wp2_with fail
  refine (srcRange_any g _ _ _ HS4.out (by omega) (by omega) (by omega)).mono ?_
  rintro e w5 ⟨z4, a4, b4, rfl, hs, hg⟩
  have HS5 := Lib.hid hs
  have HB5 := Lib.hid (HB4.out.trans (grownBy_below hg HG.out HS4.out.lt))
  clear hs hg
  go_wp2_with fail
  refine (srcRange_any g _ _ _ HS5.out (by omega) (by omega) (by omega)).mono ?_
  rintro e w6 ⟨z5, a5, b5, rfl, hs, hg⟩
  have HS6 := Lib.hid hs
  have HB6 := Lib.hid (HB5.out.trans (grownBy_below hg HG.out HS5.out.lt))
  clear hs hg
  go_wp2_with fail
  refine (srcN_any g _ _ HS6.out (by omega) (by omega)).mono ?_
  rintro e w7 ⟨z6, a6, b6, rfl, hs, hg⟩
  have HS7 := Lib.hid hs
  have HB7 := Lib.hid (HB6.out.trans (grownBy_below hg HG.out HS6.out.lt))
  clear hs hg
  go_wp2_with fail
  refine (Spring_any _ _ _ _ _ _ _).mono ?_
  rintro e w' ⟨rfl, rfl⟩
  go_wp2_with fail
  refine (rSpring_any _ _ _ _ _ _ _).mono ?_
  rintro e w' ⟨rfl, rfl⟩
  go_wp2_with (go_at_call 18; refine (awake_any _).mono ?_; rintro e w9 ⟨rfl, hb9⟩)
  go_ret
  exact ⟨rfl, HB7.out.trans (hb9.mono HB7.out.size)⟩

theorem walk_AnimationSprings (u0 : Value) (v0 : Int) (u1 : Value) (v1 : Int) (u2 : Value) (v2 : Int) (u3 : Value) (v3 : Int) (u4 : Value) (v4 : Int) (u5 : Value) (v5 : Int) (u6 : Value) (l : List Int) (w : World)
    (h0 : u0 = .int .i64 v0 ∧ (Lit.int .i64 v0).wf = true) (h1 : u1 = .int .i64 v1 ∧ (Lit.int .i64 v1).wf = true) (h2 : u2 = .int .i64 v2 ∧ (Lit.int .i64 v2).wf = true) (h3 : u3 = .int .i64 v3 ∧ (Lit.int .i64 v3).wf = true) (h4 : u4 = .int .i64 v4 ∧ (Lit.int .i64 v4).wf = true) (h5 : u5 = .int .i64 v5 ∧ (Lit.int .i64 v5).wf = true) (h6 : InInts w u6 l) :
    Calls Try.prog 4 #[u0, u1, u2, u3, u4, u5, u6] w (True_ w) := by
  obtain ⟨rfl, -⟩ := h0
  obtain ⟨rfl, -⟩ := h1
  obtain ⟨rfl, -⟩ := h2
  obtain ⟨rfl, -⟩ := h3
  obtain ⟨rfl, -⟩ := h4
  obtain ⟨rfl, -⟩ := h5
  exact springs_core v0 v1 v2 v3 v4 v5 u6 l w h6
end Go.Proofs.Ytfcffmjmohkpoaa
