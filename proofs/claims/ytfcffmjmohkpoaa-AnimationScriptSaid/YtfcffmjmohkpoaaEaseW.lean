/- Ease of package animation and of the reference. -/
import Derived.Test.YtfcffmjmohkpoaaAnimPlain
import Derived.Test.YtfcffmjmohkpoaaQuiet
import Derived.Test.YtfcffmjmohkpoaaFloorP
import Derived.Test.YtfcffmjmohkpoaaFloorR
import Derived.Test.YtfcffmjmohkpoaaNumOk
import Derived.WalkSmall
import Derived.IntWalk
namespace Go.Proofs.Ytfcffmjmohkpoaa
open Go.RowKit
set_option linter.unusedVariables false
set_option linter.unusedSimpArgs false

set_option maxHeartbeats 400000 in
theorem between_any (x lo hi : Int) (w : World) : Calls Try.prog 39 #[.int .i64 x, .int .i64 lo, .int .i64 hi] w fun e w' => e = .returned (.bool (btw x lo hi)) ∧ w = w' := by
  go_enter Try.func39, Try.ntmps39
  go_wp2
  all_goals
    go_ret
    exact ⟨ret_bool (by rw [Bool.eq_iff_iff]; simp [btw]; try omega), rfl⟩
set_option maxHeartbeats 400000 in
theorem rin_any (x lo hi : Int) (w : World) : Calls Try.prog 45 #[.int .i64 x, .int .i64 lo, .int .i64 hi] w fun e w' => e = .returned (.bool (btw x lo hi)) ∧ w = w' := by
  go_enter Try.func45, Try.ntmps45
  go_wp2
  all_goals
    go_ret
    exact ⟨ret_bool (by rw [Bool.eq_iff_iff]; simp [btw]; try omega), rfl⟩

theorem curveOk_eq (x1 y1 x2 y2 : Int) : curveOk x1 y1 x2 y2 = (btw x1 0 1000 && btw x2 0 1000 && btw y1 (-1000) 2000 && btw y2 (-1000) 2000) := by
  rw [Bool.eq_iff_iff]; simp [curveOk, btw]; omega

set_option maxHeartbeats 400000 in
theorem bezier_any (a b u : Int) (w : World) (ha0 : -2000 ≤ a) (ha1 : a ≤ 2000) (hb0 : -2000 ≤ b) (hb1 : b ≤ 2000) (hu0 : 0 ≤ u) (hu1 : u ≤ 4096) :
    Calls Try.prog 42 #[.int .i64 a, .int .i64 b, .int .i64 u] w fun e w' => e = .returned (.int .i64 (bezZ a b u)) ∧ w = w' := by
  obtain ⟨⟨p1, p2⟩, ⟨p3, p4⟩, ⟨p5, p6⟩, ⟨p7, p8⟩, ⟨p9, p10⟩, ⟨p11, p12⟩, ⟨p13, p14⟩, p15, p16⟩ := bez_parts ha0 ha1 hb0 hb1 hu0 hu1
  go_enter Try.func42, Try.ntmps42
  go_wp2
  go_ret
  exact ⟨ret_int (by unfold bezZ; rfl), rfl⟩
set_option maxHeartbeats 400000 in
theorem cubic_any (a b u : Int) (w : World) (ha0 : -2000 ≤ a) (ha1 : a ≤ 2000) (hb0 : -2000 ≤ b) (hb1 : b ≤ 2000) (hu0 : 0 ≤ u) (hu1 : u ≤ 4096) :
    Calls Try.prog 46 #[.int .i64 a, .int .i64 b, .int .i64 u] w fun e w' => e = .returned (.int .i64 (bezZ a b u)) ∧ w = w' := by
  obtain ⟨⟨p1, p2⟩, ⟨p3, p4⟩, ⟨p5, p6⟩, ⟨p7, p8⟩, ⟨p9, p10⟩, ⟨p11, p12⟩, ⟨p13, p14⟩, p15, p16⟩ := bez_parts ha0 ha1 hb0 hb1 hu0 hu1
  go_enter Try.func46, Try.ntmps46
  go_wp2
  go_ret
  exact ⟨ret_int (by unfold bezZ; rfl), rfl⟩

theorem same_symm {P : Program} {f : FuncId} {a : Array Value} {w : World} {r : Ending} (h : Calls P f a w fun e w' => e = r ∧ w = w') : Calls P f a w fun e w' => e = r ∧ w' = w :=
  h.mono fun _ _ ⟨h1, h2⟩ => ⟨h1, h2.symm⟩
/-- The call answers b; it has laid the curve into a block of its own. -/
def SaysC (b : Bool) (o : Obj) (w : World) (e : Ending) (w' : World) : Prop := e = .returned (.bool b) ∧ w.alloc o = w'

set_option maxHeartbeats 800000 in
theorem curve_any (x1 y1 x2 y2 : Int) (w : World) : Calls Try.prog 38 #[.agg #[.int .i64 x1, .int .i64 y1, .int .i64 x2, .int .i64 y2]] w (SaysC (curveOk x1 y1 x2 y2) (.cells #[.int .i64 x1, .int .i64 y1, .int .i64 x2, .int .i64 y2] 23) w) := by
  rw [curveOk_eq]
  go_enter Try.func38, Try.ntmps38
  go_wp2_with (go_at_call 39; refine (between_any _ _ _ _).mono ?_; rintro e w' ⟨rfl, rfl⟩)
  all_goals
    go_ret
    exact ⟨ret_bool (by simp_all), rfl⟩
set_option maxHeartbeats 800000 in
theorem validCurve_any (x1 y1 x2 y2 : Int) (w : World) : Calls Try.prog 44 #[.agg #[.int .i64 x1, .int .i64 y1, .int .i64 x2, .int .i64 y2]] w (SaysC (curveOk x1 y1 x2 y2) (.cells #[.int .i64 x1, .int .i64 y1, .int .i64 x2, .int .i64 y2] 23) w) := by
  rw [curveOk_eq]
  go_enter Try.func44, Try.ntmps44
  go_wp2_with (go_at_call 45; refine (rin_any _ _ _ _).mono ?_; rintro e w' ⟨rfl, rfl⟩)
  all_goals
    go_ret
    exact ⟨ret_bool (by simp_all), rfl⟩

theorem easeP_true {x1 x2 part whole : Int} {u : Nat} (h : 1000 * part * 68719476736 ≤ bezZ x1 x2 u * whole) : easeP x1 x2 part whole u = true := decide_eq_true h
theorem easeP_false {x1 x2 part whole : Int} {u : Nat} (h : ¬ 1000 * part * 68719476736 ≤ bezZ x1 x2 u * whole) : easeP x1 x2 part whole u = false := decide_eq_false h

set_option maxHeartbeats 800000 in
theorem ease1_any (p q r : Nat) (x1 x2 part whole : Int) (u : Nat) (w : World) (hu : u ≤ 4096) (a0 : 0 ≤ x1) (a1 : x1 ≤ 1000) (b0 : 0 ≤ x2) (b1 : x2 ≤ 1000) (c0 : 0 < part) (c1 : part ≤ 10000) (d0 : 1 ≤ whole) (d1 : whole ≤ 10000)
    (h0 : w.cell? ⟨p, 0, none⟩ = some (.int .i64 x1)) (h1 : w.cell? ⟨p, 2, none⟩ = some (.int .i64 x2)) (h2 : w.cell? ⟨q, 0, none⟩ = some (.int .i64 whole)) (h3 : w.cell? ⟨r, 0, none⟩ = some (.int .i64 part)) :
    Calls Try.prog 41 #[.int .i64 u, .pointer (some ⟨p, 0, none⟩), .pointer (some ⟨q, 0, none⟩), .pointer (some ⟨r, 0, none⟩)] w (Quiet (.bool (easeP x1 x2 part whole u)) w) := by
  have hb := bez_bd (a := x1) (b := x2) (u := (u : Int)) (by omega) (by omega) (by omega) (by omega) (by omega) (by omega)
  obtain ⟨m0, m1⟩ := mul_rng (m := 900000000000000) (k := 10000) hb.1 hb.2 (show 0 ≤ whole by omega) d1
  have HE := Lib.hid (show easeP x1 x2 part whole u = decide (1000 * part * 68719476736 ≤ bezZ x1 x2 u * whole) from rfl)
  go_enter Try.func41, Try.ntmps41
  go_wp2_with fail
  go_quiet ((go_at_call 42; exact Calls.quiet_of_same (same_symm (bezier_any _ _ _ _ (by omega) (by omega) (by omega) (by omega) (by omega) (by omega)))))
  go_wp2
  go_ret
  exact ⟨ret_bool HE.out.symm, _, rfl⟩
set_option maxHeartbeats 800000 in
theorem search_any (p q r : Nat) (x1 x2 part whole : Int) (w : World) (a0 : 0 ≤ x1) (a1 : x1 ≤ 1000) (b0 : 0 ≤ x2) (b1 : x2 ≤ 1000) (c0 : 0 < part) (c1 : part ≤ 10000) (d0 : 1 ≤ whole) (d1 : whole ≤ 10000)
    (h0 : w.cell? ⟨p, 0, none⟩ = some (.int .i64 x1)) (h1 : w.cell? ⟨p, 2, none⟩ = some (.int .i64 x2)) (h2 : w.cell? ⟨q, 0, none⟩ = some (.int .i64 whole)) (h3 : w.cell? ⟨r, 0, none⟩ = some (.int .i64 part)) :
    Calls Try.prog 40 #[.int .i64 4096, .func (.func 41) #[] #[.pointer (some ⟨p, 0, none⟩), .pointer (some ⟨q, 0, none⟩), .pointer (some ⟨r, 0, none⟩)]] w (Quiet (.int .i64 (easeU x1 x2 part whole)) w) := by
  have HC : Hid (∀ (u : Nat) (d : Nat), u ≤ 4096 → Calls Try.prog 41 #[.int .i64 u, .pointer (some ⟨p, 0, none⟩), .pointer (some ⟨q, 0, none⟩), .pointer (some ⟨r, 0, none⟩)] (w.drewN d) (Quiet (.bool (easeP x1 x2 part whole u)) (w.drewN d))) :=
    fun u d hu => ease1_any p q r x1 x2 part whole u (w.drewN d) hu a0 a1 b0 b1 c0 c1 d0 d1 h0 h1 h2 h3
  clear h0 h1 h2 h3
  go_enter Try.func40, Try.ntmps40
  go_wp2_with fail
  go_loopw [5, 6] (fun i j wr => ∃ lo hi d : Nat, lo ≤ hi ∧ hi ≤ 4096 ∧ i = .int .i64 lo ∧ j = .int .i64 hi ∧ Hid (easeU x1 x2 part whole = srch (easeP x1 x2 part whole) lo hi) ∧ wr = w.drewN d) (fun i j _ => (intOf j - intOf i).toNat)
  case atStart => exact ⟨0, 4096, 0, by omega, by omega, rfl, rfl, rfl, rfl⟩
  case round =>
    obtain ⟨lo, hi, d, hlh, hh, rfl, rfl, HS, rfl⟩ := hrel
    by_cases hlt : lo < hi
    · have hlt' : (lo : Int) < (hi : Int) := by omega
      obtain ⟨m, hm⟩ : ∃ m, (lo + hi) / 2 = m := ⟨_, rfl⟩
      have hmi : ((lo : Int) + (hi : Int)) / 2 = (m : Int) := by omega
      have hm0 : lo ≤ m := by omega
      have hm1 : m < hi := by omega
      have HM := Lib.hid hm
      have HMI := Lib.hid hmi
      clear hm hmi
      by_cases hp : easeP x1 x2 part whole m = true
      · have HP := Lib.hid hp
        clear hp
        have HS2 : Hid (easeU x1 x2 part whole = srch (easeP x1 x2 part whole) lo m) := by
          show _ = _
          rw [HS.out, srch_lo hlt (by rw [HM.out]; exact HP.out), HM.out]
        go_wp2_with fail
        rw [HMI.out]
        refine (HC.out m d (by omega)).mono ?_
        rw [HP.out]
        rintro e w' ⟨rfl, n, rfl⟩
        go_wp2
        go_roundw
        case rel => exact ⟨lo, m, _, hm0, by omega, rfl, rfl, HS2.out, rfl⟩
        case measure => simp [intOf]; omega
      · have hp' : easeP x1 x2 part whole m = false := by simpa using hp
        have HP := Lib.hid hp'
        clear hp hp'
        have HS2 : Hid (easeU x1 x2 part whole = srch (easeP x1 x2 part whole) (m + 1) hi) := by
          show _ = _
          rw [HS.out, srch_hi hlt (by rw [HM.out]; exact HP.out), HM.out]
        go_wp2_with fail
        rw [HMI.out]
        refine (HC.out m d (by omega)).mono ?_
        rw [HP.out]
        rintro e w' ⟨rfl, n, rfl⟩
        go_wp2
        go_roundw
        case rel => exact ⟨m + 1, hi, _, by omega, hh, by go_num, rfl, HS2.out, rfl⟩
        case measure => simp [intOf]; omega
    · have HR : Hid (easeU x1 x2 part whole = lo) := by show _ = _; rw [HS.out, srch_end (by omega)]
      have hge : (hi : Int) ≤ (lo : Int) := by omega
      go_wp2_with fail
      go_ret
      exact ⟨by rw [HR.out]; rfl, _, rfl⟩

/-- The call answers z; of what was there nothing has turned. -/
def Gives (z : Int) (w : World) (e : Ending) (w' : World) : Prop := e = .returned (.int .i64 z) ∧ Below w.heap.size w w'

theorem curve_parts {x1 y1 x2 y2 : Int} (h : curveOk x1 y1 x2 y2 = true) : 0 ≤ x1 ∧ x1 ≤ 1000 ∧ 0 ≤ x2 ∧ x2 ≤ 1000 ∧ -1000 ≤ y1 ∧ y1 ≤ 2000 ∧ -1000 ≤ y2 ∧ y2 ≤ 2000 := by simpa [curveOk] using h

theorem below_new (w : World) (o : Obj) : Below w.heap.size w (w.alloc o) := (Below.refl _ _).alloc (Nat.le_refl _) _
theorem below2 (w : World) (a b : Obj) : Below w.heap.size w ((w.alloc a).alloc b) := (below_new w a).alloc (by simp) b
theorem below3 (w : World) (a b c : Obj) : Below w.heap.size w (((w.alloc a).alloc b).alloc c) := ((below_new w a).alloc (by simp) b).alloc (by simp; omega) c
theorem below4 (w : World) (a b c d : Obj) : Below w.heap.size w ((((w.alloc a).alloc b).alloc c).alloc d) := (below3 w a b c).alloc (by simp; omega) d
theorem floor_bez {y1 y2 : Int} {u : Nat} (h0 : -1000 ≤ y1) (h1 : y1 ≤ 2000) (h2 : -1000 ≤ y2) (h3 : y2 ≤ 2000) (hu : u ≤ 4096) : floorZ (bezZ y1 y2 u) 68719476736 = bezZ y1 y2 u / 68719476736 := by
  have hb := bez_bd (a := y1) (b := y2) (u := (u : Int)) (by omega) (by omega) (by omega) (by omega) (by omega) (by omega)
  unfold floorZ
  rw [if_pos (numOk_iff.2 ⟨by omega, by omega, by omega, by omega, by omega⟩), if_neg (by omega)]

set_option maxHeartbeats 1600000 in
set_option maxRecDepth 100000 in
theorem Ease_any (x1 y1 x2 y2 part whole : Int) (w : World) : Calls Try.prog 13 #[.agg #[.int .i64 x1, .int .i64 y1, .int .i64 x2, .int .i64 y2], .int .i64 part, .int .i64 whole] w (Gives (easeZ x1 y1 x2 y2 part whole) w) := by
  by_cases hok : curveOk x1 y1 x2 y2 = true ∧ 1 ≤ whole ∧ whole ≤ 10000 ∧ 0 < part
  · obtain ⟨h1, h2, h3, h4⟩ := hok
    have HC := Lib.hid h1
    have HB : Hid (btw whole 1 10000 = true) := by show _ = _; simp [btw]; omega
    by_cases hw : whole ≤ part
    · have HR : Hid (easeZ x1 y1 x2 y2 part whole = 1000) := by show _ = _; rw [easeZ, if_pos ⟨h1, h2, h3, h4⟩, if_pos hw]
      clear h1
      go_enter Try.func13, Try.ntmps13
      go_wp2_with (first | (go_at_call 38; refine (curve_any _ _ _ _ _).mono ?_; rw [HC.out]; rintro e w' ⟨rfl, rfl⟩) | (go_at_call 39; refine (between_any _ _ _ _).mono ?_; rw [HB.out]; rintro e w' ⟨rfl, rfl⟩))
      go_ret
      exact ⟨by rw [HR.out]; rfl, below4 _ _ _ _ _⟩
    · have HR : Hid (easeZ x1 y1 x2 y2 part whole = bezZ y1 y2 (easeU x1 x2 part whole) / 68719476736) := by show _ = _; rw [easeZ, if_pos ⟨h1, h2, h3, h4⟩, if_neg hw]
      obtain ⟨a0, a1, b0, b1, c0, c1, d0, d1⟩ := curve_parts h1
      have hu := easeU_le x1 x2 part whole
      have HF := Lib.hid (floor_bez c0 c1 d0 d1 hu)
      obtain ⟨U, hU⟩ : ∃ U, easeU x1 x2 part whole = U := ⟨_, rfl⟩
      have HU := Lib.hid hU
      rw [hU] at hu HF HR
      clear h1 hU
      go_enter Try.func13, Try.ntmps13
      go_wp2_with (first | (go_at_call 38; refine (curve_any _ _ _ _ _).mono ?_; rw [HC.out]; rintro e w' ⟨rfl, rfl⟩) | (go_at_call 39; refine (between_any _ _ _ _).mono ?_; rw [HB.out]; rintro e w' ⟨rfl, rfl⟩) | (go_at_call 40; refine (search_any _ _ _ x1 x2 part whole _ a0 a1 b0 b1 h4 (by omega) h2 h3 ?_ ?_ ?_ ?_).mono ?_; (go_simp); (go_simp); (go_simp); (go_simp); rw [HU.out]; rintro e w' ⟨rfl, n, rfl⟩) | (go_at_call 42; refine (bezier_any _ _ _ _ (by omega) (by omega) (by omega) (by omega) (by omega) (by omega)).mono ?_; rintro e w' ⟨rfl, rfl⟩) | (go_at_call 43; refine (Floor_any _ _ _).mono ?_; rw [HF.out]; rintro e w' ⟨rfl, rfl⟩))
      go_ret
      exact ⟨by rw [HR.out]; rfl, below_drewN (below4 _ _ _ _ _) _⟩
  · have HR : Hid (easeZ x1 y1 x2 y2 part whole = 0) := by show _ = _; rw [easeZ, if_neg hok]
    by_cases h1 : curveOk x1 y1 x2 y2 = true
    · have HC := Lib.hid h1
      by_cases h2 : btw whole 1 10000 = true
      · have HB := Lib.hid h2
        have h3 := btw_iff.1 h2
        have h4 : part ≤ 0 := by
          apply Int.not_lt.1
          exact fun h => hok ⟨h1, h3.1, h3.2, h⟩
        clear h1 h2 h3 hok
        go_enter Try.func13, Try.ntmps13
        go_wp2_with (first | (go_at_call 38; refine (curve_any _ _ _ _ _).mono ?_; rw [HC.out]; rintro e w' ⟨rfl, rfl⟩) | (go_at_call 39; refine (between_any _ _ _ _).mono ?_; rw [HB.out]; rintro e w' ⟨rfl, rfl⟩))
        go_ret
        exact ⟨by rw [HR.out]; rfl, below4 _ _ _ _ _⟩
      · have h2' : btw whole 1 10000 = false := by simpa using h2
        have HB := Lib.hid h2'
        clear h1 h2 h2' hok
        go_enter Try.func13, Try.ntmps13
        go_wp2_with (first | (go_at_call 38; refine (curve_any _ _ _ _ _).mono ?_; rw [HC.out]; rintro e w' ⟨rfl, rfl⟩) | (go_at_call 39; refine (between_any _ _ _ _).mono ?_; rw [HB.out]; rintro e w' ⟨rfl, rfl⟩))
        go_ret
        exact ⟨by rw [HR.out]; rfl, below4 _ _ _ _ _⟩
    · have h1' : curveOk x1 y1 x2 y2 = false := by simpa using h1
      have HC := Lib.hid h1'
      clear h1 h1' hok
      go_enter Try.func13, Try.ntmps13
      go_wp2_with (first | (go_at_call 38; refine (curve_any _ _ _ _ _).mono ?_; rw [HC.out]; rintro e w' ⟨rfl, rfl⟩))
      go_ret
      exact ⟨by rw [HR.out]; rfl, below4 _ _ _ _ _⟩

set_option maxHeartbeats 1600000 in
set_option maxRecDepth 100000 in
theorem rEase_any (x1 y1 x2 y2 part whole : Int) (w : World) : Calls Try.prog 14 #[.agg #[.int .i64 x1, .int .i64 y1, .int .i64 x2, .int .i64 y2], .int .i64 part, .int .i64 whole] w (Gives (easeZ x1 y1 x2 y2 part whole) w) := by
  by_cases hok : curveOk x1 y1 x2 y2 = true ∧ 1 ≤ whole ∧ whole ≤ 10000 ∧ 0 < part
  · obtain ⟨h1, h2, h3, h4⟩ := hok
    have HC := Lib.hid h1
    have HB : Hid (btw whole 1 10000 = true) := by show _ = _; simp [btw]; omega
    by_cases hw : whole ≤ part
    · have HR : Hid (easeZ x1 y1 x2 y2 part whole = 1000) := by show _ = _; rw [easeZ, if_pos ⟨h1, h2, h3, h4⟩, if_pos hw]
      clear h1
      go_enter Try.func14, Try.ntmps14
      go_wp2_with (first | (go_at_call 44; refine (validCurve_any _ _ _ _ _).mono ?_; rw [HC.out]; rintro e w' ⟨rfl, rfl⟩) | (go_at_call 45; refine (rin_any _ _ _ _).mono ?_; rw [HB.out]; rintro e w' ⟨rfl, rfl⟩))
      go_ret
      exact ⟨by rw [HR.out]; rfl, below2 _ _ _⟩
    · have HR : Hid (easeZ x1 y1 x2 y2 part whole = bezZ y1 y2 (easeU x1 x2 part whole) / 68719476736) := by show _ = _; rw [easeZ, if_pos ⟨h1, h2, h3, h4⟩, if_neg hw]
      obtain ⟨a0, a1, b0, b1, c0, c1, d0, d1⟩ := curve_parts h1
      have hu := easeU_le x1 x2 part whole
      have HF := Lib.hid (floor_bez c0 c1 d0 d1 hu)
      obtain ⟨U, hU⟩ : ∃ U, easeU x1 x2 part whole = U := ⟨_, rfl⟩
      have HU := Lib.hid hU
      rw [hU] at hu HF HR
      clear h1 hU
      go_enter Try.func14, Try.ntmps14
      go_wp2_with (first | (go_at_call 44; refine (validCurve_any _ _ _ _ _).mono ?_; rw [HC.out]; rintro e w' ⟨rfl, rfl⟩) | (go_at_call 45; refine (rin_any _ _ _ _).mono ?_; rw [HB.out]; rintro e w' ⟨rfl, rfl⟩))
      go_loop [8, 9] (fun i j => ∃ lo hi : Nat, lo ≤ hi ∧ hi ≤ 4096 ∧ i = .int .i64 lo ∧ j = .int .i64 hi ∧ Hid (U = srch (easeP x1 x2 part whole) lo hi)) (fun i j => (intOf j - intOf i).toNat)
      case atStart => exact ⟨0, 4096, by omega, by omega, rfl, rfl, by show _ = _; rw [← HU.out]; rfl⟩
      case round =>
        obtain ⟨lo, hi, hlh, hh, rfl, rfl, HS⟩ := hrel
        by_cases hlt : lo < hi
        · have hlt' : (lo : Int) < (hi : Int) := by omega
          obtain ⟨m, hm⟩ : ∃ m, (lo + hi) / 2 = m := ⟨_, rfl⟩
          have hmi : ((lo : Int) + (hi : Int)) / 2 = (m : Int) := by omega
          have hm0 : lo ≤ m := by omega
          have hm1 : m < hi := by omega
          have HM := Lib.hid hm
          clear hm
          have hb := bez_bd (a := x1) (b := x2) (u := (m : Int)) (by omega) (by omega) (by omega) (by omega) (by omega) (by omega)
          obtain ⟨m0, m1⟩ := mul_rng (m := 900000000000000) (k := 10000) hb.1 hb.2 (show 0 ≤ whole by omega) h3
          by_cases hp : 1000 * part * 68719476736 ≤ bezZ x1 x2 m * whole
          · have HS2 : Hid (U = srch (easeP x1 x2 part whole) lo m) := by
              show _ = _
              rw [HS.out, srch_lo hlt (by rw [HM.out]; exact easeP_true hp), HM.out]
            go_wp2_with (go_at_call 46; refine (cubic_any _ _ _ _ (by omega) (by omega) (by omega) (by omega) (by omega) (by omega)).mono ?_; rintro e w' ⟨rfl, rfl⟩)
            go_round
            case rel => exact ⟨lo, m, hm0, by omega, rfl, rfl, HS2.out⟩
            case measure => simp [intOf]; omega
          · have HS2 : Hid (U = srch (easeP x1 x2 part whole) (m + 1) hi) := by
              show _ = _
              rw [HS.out, srch_hi hlt (by rw [HM.out]; exact easeP_false hp), HM.out]
            have hp' : bezZ x1 x2 m * whole < 1000 * part * 68719476736 := by omega
            clear hp
            go_wp2_with (go_at_call 46; refine (cubic_any _ _ _ _ (by omega) (by omega) (by omega) (by omega) (by omega) (by omega)).mono ?_; rintro e w' ⟨rfl, rfl⟩)
            go_round
            case rel => exact ⟨m + 1, hi, by omega, hh, by go_num, rfl, HS2.out⟩
            case measure => simp [intOf]; omega
        · have hU : U = lo := by rw [HS.out, srch_end (by omega)]
          have hge : (hi : Int) ≤ (lo : Int) := by omega
          subst hU
          go_wp2_with (first | (go_at_call 46; refine (cubic_any _ _ _ _ (by omega) (by omega) (by omega) (by omega) (by omega) (by omega)).mono ?_; rintro e w' ⟨rfl, rfl⟩) | (go_at_call 47; refine (rFloor_any _ _ _).mono ?_; rw [HF.out]; rintro e w' ⟨rfl, rfl⟩))
          go_ret
          exact ⟨by rw [HR.out]; rfl, below2 _ _ _⟩
  · have HR : Hid (easeZ x1 y1 x2 y2 part whole = 0) := by show _ = _; rw [easeZ, if_neg hok]
    by_cases h1 : curveOk x1 y1 x2 y2 = true
    · have HC := Lib.hid h1
      by_cases h2 : btw whole 1 10000 = true
      · have HB := Lib.hid h2
        have h3 := btw_iff.1 h2
        have h4 : part ≤ 0 := by
          apply Int.not_lt.1
          exact fun h => hok ⟨h1, h3.1, h3.2, h⟩
        clear h1 h2 h3 hok
        go_enter Try.func14, Try.ntmps14
        go_wp2_with (first | (go_at_call 44; refine (validCurve_any _ _ _ _ _).mono ?_; rw [HC.out]; rintro e w' ⟨rfl, rfl⟩) | (go_at_call 45; refine (rin_any _ _ _ _).mono ?_; rw [HB.out]; rintro e w' ⟨rfl, rfl⟩))
        go_ret
        exact ⟨by rw [HR.out]; rfl, below2 _ _ _⟩
      · have h2' : btw whole 1 10000 = false := by simpa using h2
        have HB := Lib.hid h2'
        clear h1 h2 h2' hok
        go_enter Try.func14, Try.ntmps14
        go_wp2_with (first | (go_at_call 44; refine (validCurve_any _ _ _ _ _).mono ?_; rw [HC.out]; rintro e w' ⟨rfl, rfl⟩) | (go_at_call 45; refine (rin_any _ _ _ _).mono ?_; rw [HB.out]; rintro e w' ⟨rfl, rfl⟩))
        go_ret
        exact ⟨by rw [HR.out]; rfl, below2 _ _ _⟩
    · have h1' : curveOk x1 y1 x2 y2 = false := by simpa using h1
      have HC := Lib.hid h1'
      clear h1 h1' hok
      go_enter Try.func14, Try.ntmps14
      go_wp2_with (first | (go_at_call 44; refine (validCurve_any _ _ _ _ _).mono ?_; rw [HC.out]; rintro e w' ⟨rfl, rfl⟩))
      go_ret
      exact ⟨by rw [HR.out]; rfl, below2 _ _ _⟩
end Go.Proofs.Ytfcffmjmohkpoaa
