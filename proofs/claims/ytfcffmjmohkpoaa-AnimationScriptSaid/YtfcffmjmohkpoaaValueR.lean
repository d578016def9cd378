/- Value of the reference (printed by wip/gen_anim2.py). -/
import Derived.Test.YtfcffmjmohkpoaaValue
import Derived.Test.YtfcffmjmohkpoaaValidR
namespace Go.Proofs.Ytfcffmjmohkpoaa
open Go.RowKit
set_option linter.unusedVariables false
set_option linter.unusedSimpArgs false

set_option maxHeartbeats 4000000 in
set_option maxRecDepth 100000 in
theorem rValue_any (n p k f t s du x1 y1 x2 y2 st da x v nw : Int) (now : Int) (w : World) : Calls Try.prog 25 #[.agg #[.int .i64 n, .int .i64 p, .int .i64 k, .int .i64 f, .int .i64 t, .int .i64 s, .int .i64 du, .int .i64 x1, .int .i64 y1, .int .i64 x2, .int .i64 y2, .int .i64 st, .int .i64 da, .int .i64 x, .int .i64 v, .int .i64 nw], .int .i64 now] w (Gives ((⟨n, p, k, f, t, s, du, x1, y1, x2, y2, st, da, x, v, nw⟩ : Anim).value now) w) := by
  have hbox := animAt_new w n p k f t s du x1 y1 x2 y2 st da x v nw
  have HBX := Lib.hid hbox
  clear hbox
  by_cases hE : (⟨n, p, k, f, t, s, du, x1, y1, x2, y2, st, da, x, v, nw⟩ : Anim).err = 0
  · have HE := Lib.hid hE
    by_cases hN : btw now 0 1099511627776 = true
    · have HN := Lib.hid hN
      obtain ⟨hh, hk⟩ := Anim.ok_cases hE
      obtain ⟨b0, b1, b2, b3, b4, b5, b6, b7, b8, b9⟩ := Anim.head_bd hh
      have hn := btw_iff.1 hN
      simp only at b0 b1 b2 b3 b4 b5 b6 b7 b8 b9
      rcases hk with ⟨hk, hc⟩ | ⟨hk, hc⟩
      · simp only at hk
        subst hk
        have hd : 1 ≤ du ∧ du ≤ 10000 := by
          simp only [Anim.curveB, Bool.and_eq_true, btw_iff] at hc
          exact hc.1
        obtain ⟨E, hEz⟩ : ∃ E, easeZ x1 y1 x2 y2 (now - s) du = E := ⟨_, rfl⟩
        have hEb := easeZ_bd x1 y1 x2 y2 (now - s) du
        rw [hEz] at hEb
        have hpr : -29360128000 ≤ (t - f) * E ∧ (t - f) * E ≤ 29360128000 := by
          by_cases hE0 : 0 ≤ E
          · have := mul_rng (a := t - f) (b := E) (m := 2097152) (k := 14000) (by omega) (by omega) hE0 hEb.2
            omega
          · have := mul_rng (a := t - f) (b := -E) (m := 2097152) (k := 14000) (by omega) (by omega) (by omega) (by omega)
            rw [Int.mul_neg] at this
            omega
        have HR := Lib.hid (rnd_eq (a := (t - f) * E) (b := 1000) (by omega) (by omega) (by omega) (by omega))
        have hRb := rnd_bd (a := (t - f) * E) (b := 1000) (m := 29360128000) (by omega) hpr.1 hpr.2
        have HV : Hid ((⟨n, p, 1, f, t, s, du, x1, y1, x2, y2, st, da, x, v, nw⟩ : Anim).value now = f + rnd ((t - f) * E) 1000) := by
          show _ = _
          unfold Anim.value
          rw [if_pos ⟨hE, hN⟩, if_pos rfl]
          simp only
          rw [hEz]
        have HEz := Lib.hid hEz
        obtain ⟨R, hR⟩ : ∃ R, rnd ((t - f) * E) 1000 = R := ⟨_, rfl⟩
        rw [hR] at HR hRb HV
        clear hE hN hh hc hEz hR
        go_enter Try.func25, Try.ntmps25
        go_wp2_with fail
        refine (rValidate_any _ _ _ _ _ _ _ _ _ _ _ _ _ _ _ _ _).mono ?_
        rw [HE.out]
        rintro e w1 ⟨rfl, hb⟩
        have hA := HBX.out.kept hb (by simp)
        have hlt : w.heap.size < w1.heap.size := by have := hb.size; simp at this; omega
        have HB1 : Hid (Below w.heap.size w w1) := (below_new w _).trans (hb.mono (by simp))
        obtain ⟨c0, c1, c2, c3, c4, c5, c6, c7, c8, c9, c10, c11, c12, c13, c14, c15⟩ := hA
        clear hb HBX
        go_wp2_with (go_at_call 45; refine (rin_any _ _ _ _).mono ?_; rw [HN.out]; rintro e w' ⟨rfl, rfl⟩)
        have hx1 : IntKind.i64.wrap (t - f) = t - f := IntWalk.i64_in _ (by omega)
        have hx2 : IntKind.i64.wrap (now - s) = now - s := IntWalk.i64_in _ (by omega)
        have hx3 : IntKind.i64.wrap ((t - f) * E) = (t - f) * E := IntWalk.i64_in _ (by omega)
        have hx4 : IntKind.i64.wrap (f + R) = f + R := IntWalk.i64_in _ (by omega)
        go_region_held3 (fun w' => w'.cell? ⟨w.heap.size, 3, none⟩ = some (.int .i64 f) ∧ w'.cell? ⟨w.heap.size, 4, none⟩ = some (.int .i64 t) ∧ w'.cell? ⟨w.heap.size, 5, none⟩ = some (.int .i64 s) ∧ w'.cell? ⟨w.heap.size, 6, none⟩ = some (.int .i64 du) ∧ w'.cell? ⟨w.heap.size, 7, none⟩ = some (.int .i64 x1) ∧ w'.cell? ⟨w.heap.size, 8, none⟩ = some (.int .i64 y1) ∧ w'.cell? ⟨w.heap.size, 9, none⟩ = some (.int .i64 x2) ∧ w'.cell? ⟨w.heap.size, 10, none⟩ = some (.int .i64 y2) ∧ Below w1.heap.size w1 w' ∧ w.heap.size < w'.heap.size) (first | (refine ⟨by simpa using c3, by simpa using c4, by simpa using c5, by simpa using c6, by simpa using c7, by simpa using c8, by simpa using c9, by simpa using c10, (Below.refl _ _).drew, by simpa using hlt⟩) | (go_split_ands; exact ⟨(hb'.cell (p := ⟨w.heap.size, 3, none⟩) (by assumption)).trans (by assumption), (hb'.cell (p := ⟨w.heap.size, 4, none⟩) (by assumption)).trans (by assumption), (hb'.cell (p := ⟨w.heap.size, 5, none⟩) (by assumption)).trans (by assumption), (hb'.cell (p := ⟨w.heap.size, 6, none⟩) (by assumption)).trans (by assumption), (hb'.cell (p := ⟨w.heap.size, 7, none⟩) (by assumption)).trans (by assumption), (hb'.cell (p := ⟨w.heap.size, 8, none⟩) (by assumption)).trans (by assumption), (hb'.cell (p := ⟨w.heap.size, 9, none⟩) (by assumption)).trans (by assumption), (hb'.cell (p := ⟨w.heap.size, 10, none⟩) (by assumption)).trans (by assumption), Below.trans (by assumption) (hb'.mono (Below.size (by assumption))), by have := hb'.size; omega⟩) | go_keep) (first | (go_at_call 14; refine (rEase_any _ _ _ _ _ _ _).mono ?_; rw [HEz.out]; rintro e w' ⟨rfl, hb'⟩) | (go_at_call 34; refine (rRound_any _ _ _).mono ?_; rw [HR.out]; rintro e w' ⟨rfl, rfl⟩))
        go_split_ands
        have hB : Below w1.heap.size w1 w' := by assumption
        have HB2 := Lib.hid hB
        clear hB
        go_wp2
        go_ret
        exact ⟨by rw [HV.out]; rfl, HB1.out.trans (HB2.out.mono HB1.out.size)⟩
      · simp only at hk
        subst hk
        obtain ⟨d0, d1, d2, d3, d4, d5, d6, d7, d8, d9⟩ := Anim.spring_bd hc
        simp only at d0 d1 d2 d3 d4 d5 d6 d7 d8 d9
        have hin := Anim.state_in (a := (⟨n, p, 2, f, t, s, du, x1, y1, x2, y2, st, da, x, v, nw⟩ : Anim)) b6 b7 now
        obtain ⟨X, hX⟩ : ∃ X, ((⟨n, p, 2, f, t, s, du, x1, y1, x2, y2, st, da, x, v, nw⟩ : Anim).state now) = X := ⟨_, rfl⟩
        have HX := Lib.hid hX
        rw [hX] at hin
        obtain ⟨i0, i1, i2, i3⟩ := hin
        have HR := Lib.hid (rnd_eq (a := X.1) (b := 65536) (by omega) (by omega) (by omega) (by omega))
        have HV : Hid ((⟨n, p, 2, f, t, s, du, x1, y1, x2, y2, st, da, x, v, nw⟩ : Anim).value now = rnd X.1 65536) := by
          show _ = _
          unfold Anim.value
          rw [if_pos ⟨hE, hN⟩, if_neg (show ¬ (2 : Int) = 1 by omega), hX]
        have e1 : ((2 : Int) == 1) = false := by decide
        clear hE hN hh hc hX
        go_enter Try.func25, Try.ntmps25
        go_wp2_with fail
        refine (rValidate_any _ _ _ _ _ _ _ _ _ _ _ _ _ _ _ _ _).mono ?_
        rw [HE.out]
        rintro e w1 ⟨rfl, hb⟩
        have hA := HBX.out.kept hb (by simp)
        have hlt : w.heap.size < w1.heap.size := by have := hb.size; simp at this; omega
        have HB1 : Hid (Below w.heap.size w w1) := (below_new w _).trans (hb.mono (by simp))
        obtain ⟨c0, c1, c2, c3, c4, c5, c6, c7, c8, c9, c10, c11, c12, c13, c14, c15⟩ := hA
        clear hb HBX
        go_wp2_with (first | (go_at_call 45; refine (rin_any _ _ _ _).mono ?_; rw [HN.out]; rintro e w' ⟨rfl, rfl⟩) | (go_at_call 56; refine (rstate_any _ _ _ _ _ _ _ _ _ _ _ _ _ _ _ _ _ _ (by omega) (by omega) (by omega) (by omega) (by omega) (by omega) (by omega) (by omega)).mono ?_; rw [HX.out]; rintro e w' ⟨rfl, rfl⟩) | (go_at_call 34; refine (rRound_any _ _ _).mono ?_; rw [HR.out]; rintro e w' ⟨rfl, rfl⟩))
        go_ret
        exact ⟨by rw [HV.out]; rfl, HB1.out.trans ((Below.refl _ _).alloc HB1.out.size _)⟩
    · have hN' : btw now 0 1099511627776 = false := by simpa using hN
      have HN := Lib.hid hN'
      have HV : Hid ((⟨n, p, k, f, t, s, du, x1, y1, x2, y2, st, da, x, v, nw⟩ : Anim).value now = 0) := by show _ = _; unfold Anim.value; rw [if_neg (fun h => hN h.2)]
      clear hE hN hN'
      go_enter Try.func25, Try.ntmps25
      go_wp2_with fail
      refine (rValidate_any _ _ _ _ _ _ _ _ _ _ _ _ _ _ _ _ _).mono ?_
      rw [HE.out]
      rintro e w1 ⟨rfl, hb⟩
      have HB1 : Hid (Below w.heap.size w w1) := (below_new w _).trans (hb.mono (by simp))
      clear hb HBX
      go_wp2_with (go_at_call 45; refine (rin_any _ _ _ _).mono ?_; rw [HN.out]; rintro e w' ⟨rfl, rfl⟩)
      go_ret
      exact ⟨by rw [HV.out]; rfl, HB1.out⟩
  · have HV : Hid ((⟨n, p, k, f, t, s, du, x1, y1, x2, y2, st, da, x, v, nw⟩ : Anim).value now = 0) := by show _ = _; unfold Anim.value; rw [if_neg (fun h => hE h.1)]
    obtain ⟨E, hEe⟩ : ∃ E, (⟨n, p, k, f, t, s, du, x1, y1, x2, y2, st, da, x, v, nw⟩ : Anim).err = E := ⟨_, rfl⟩
    rw [hEe] at hE
    have e1 : (E == 0) = false := by simpa using hE
    have e2 : (E != 0) = true := by simpa using hE
    have HE := Lib.hid hEe
    clear hE hEe
    go_enter Try.func25, Try.ntmps25
    go_wp2_with fail
    refine (rValidate_any _ _ _ _ _ _ _ _ _ _ _ _ _ _ _ _ _).mono ?_
    rw [HE.out]
    rintro e w1 ⟨rfl, hb⟩
    have HB1 : Hid (Below w.heap.size w w1) := (below_new w _).trans (hb.mono (by simp))
    clear hb HBX
    go_wp2
    go_ret
    exact ⟨by rw [HV.out]; rfl, HB1.out⟩
end Go.Proofs.Ytfcffmjmohkpoaa
