/- The walk of the law ScrollRaw. -/
import Derived.Test.YtchlnelpgjjmgaaLawRows
import Derived.Test.YtchlnelpgjjmgaaRefPinned
import Derived.Test.YtchlnelpgjjmgaaLawPins
namespace Go.Proofs.Ytchlnelpgjjmgaa
set_option linter.unusedVariables false
set_option linter.unusedSimpArgs false
open Go.RowKit

theorem below_drewN {B : Nat} {a w : World} (h : Below B a w) (n : Nat) : Below B a (w.drewN n) := ⟨h.os, h.tape, h.output, h.size, h.block⟩

set_option maxHeartbeats 400000 in
theorem raw_long (v0 v1 v2 : Value) (l0 l1 : List Strip) (l2 : List Rec) (o h a x : Int) (w : World) (h0 : IsStrips w v0 l0) (h1 : IsStrips w v1 l1) (h2 : IsRecs 3 w v2 l2) (hl : 200 < l0.length ∨ 200 < l1.length ∨ 200 < l2.length) :
    Calls Try.prog 9 #[v0, v1, v2, .int .i64 o, .int .i64 h, .int .i64 a, .int .i64 x] w (True_ w) := by
  obtain ⟨a0, c0, rfl, p0, q0, -⟩ := h0
  obtain ⟨a1, c1, rfl, p1, q1, -⟩ := h1
  obtain ⟨a2, c2, rfl, p2, q2, -⟩ := h2
  unfold maxLen at q0 q1 q2
  by_cases g0 : 200 < l0.length
  · have g0' : (200 : Int) < (l0.length : Int) := by omega
    clear hl
    go_enter Try.func9, Try.ntmps9
    go_wp2
    go_ret
    exact ⟨rfl, Below.refl _ _⟩
  · have g0' : (l0.length : Int) ≤ 200 := by omega
    by_cases g1 : 200 < l1.length
    · have g1' : (200 : Int) < (l1.length : Int) := by omega
      clear hl
      go_enter Try.func9, Try.ntmps9
      go_wp2
      go_ret
      exact ⟨rfl, Below.refl _ _⟩
    · have g1' : (l1.length : Int) ≤ 200 := by omega
      have g2' : (200 : Int) < (l2.length : Int) := by omega
      clear hl
      go_enter Try.func9, Try.ntmps9
      go_wp2
      go_ret
      exact ⟨rfl, Below.refl _ _⟩

set_option maxHeartbeats 4000000 in
set_option maxRecDepth 100000 in
theorem raw_in (v0 v1 v2 : Value) (l0 l1 : List Strip) (l2 : List Rec) (o h a x : Int) (w : World) (h0 : IsStrips w v0 l0) (h1 : IsStrips w v1 l1) (h2 : IsRecs 3 w v2 l2) (k0 : keysOk l0) (k1 : keysOk l1) (g0 : l0.length ≤ 200) (g1 : l1.length ≤ 200) (g2 : l2.length ≤ 200) :
    Calls Try.prog 9 #[v0, v1, v2, .int .i64 o, .int .i64 h, .int .i64 a, .int .i64 x] w (True_ w) := by
  obtain ⟨p, hp⟩ : ∃ p, (visP l0 o h).1 = p := ⟨_, rfl⟩
  obtain ⟨q, hq⟩ : ∃ q, (visP l0 o h).2 = q := ⟨_, rfl⟩
  have HP := Lib.hid hp
  have HQ := Lib.hid hq
  obtain ⟨P, hP⟩ : ∃ P, pinned l2 o = P := ⟨_, rfl⟩
  have HPP := Lib.hid hP
  have hPl : P.length ≤ 200 := by
    rw [← hP, pinned]
    split
    · rw [pinsTo_len]; exact g2
    · simp
  obtain ⟨z, hz⟩ : ∃ z, keepA l0 l1 o = z := ⟨_, rfl⟩
  have HZ := Lib.hid hz
  obtain ⟨z1, hz1⟩ : ∃ z, sClamp o a h = z := ⟨_, rfl⟩
  have HZ1 := Lib.hid hz1
  obtain ⟨z2, hz2⟩ : ∃ z, sReveal o h a x = z := ⟨_, rfl⟩
  have HZ2 := Lib.hid hz2
  have H0 := Lib.hid h0
  have H1 := Lib.hid h1
  have H2 := Lib.hid h2
  have K0 := Lib.hid k0
  have K1 := Lib.hid k1
  obtain ⟨a0, c0, rfl, -, -, -⟩ := h0
  obtain ⟨a1, c1, rfl, -, -, -⟩ := h1
  obtain ⟨a2, c2, rfl, -, -, -⟩ := h2
  have g0' : (l0.length : Int) ≤ 200 := by omega
  have g1' : (l1.length : Int) ≤ 200 := by omega
  have g2' : (l2.length : Int) ≤ 200 := by omega
  clear k0 k1 hp hq hP hz hz1 hz2
  go_enter Try.func9, Try.ntmps9
  go_wp2_with fail
  refine (visible_all _ l0 _ _ _ H0.out).mono ?_
  rw [HP.out, HQ.out]
  rintro e w1 ⟨rfl, hb⟩
  have HB1 := Lib.hid hb
  clear hb
  go_wp2_with fail
  refine (rvisible_all _ l0 _ _ _ (H0.out.of_below HB1.out)).mono ?_
  rw [HP.out, HQ.out]
  rintro e w2 ⟨rfl, hb⟩
  have HB2 := Lib.hid (HB1.out.trans (hb.mono HB1.out.size))
  clear hb HB1
  go_wp2_with fail
  refine (pinned_any _ l2 _ _ (H2.out.of_below HB2.out)).mono ?_
  rintro e w3 ⟨r, rfl, hr, hb⟩
  rw [HPP.out] at hr
  have HB3 := Lib.hid (HB2.out.trans (hb.mono HB2.out.size))
  have HR := Lib.hid hr
  clear hr hb HB2
  go_wp2_with fail
  refine (rpinned_any _ l2 _ _ (H2.out.of_below HB3.out)).mono ?_
  rintro e w4 ⟨s, rfl, hs, hb⟩
  rw [HPP.out] at hs
  have hr := HR.out.of_below hb
  have HB4 := Lib.hid (HB3.out.trans (hb.mono HB3.out.size))
  obtain ⟨ra, rc, rfl, r1, r2, r3⟩ := hr
  obtain ⟨sa, sc, rfl, s1, s2, s3⟩ := hs
  obtain ⟨n, hn⟩ : ∃ n, P.length = n := ⟨_, rfl⟩
  rw [hn] at hPl r1 r3 s1 s3 ⊢
  have R3 := Lib.hid r3
  have S3 := Lib.hid s3
  clear r2 s2 r3 s3 hn hb HB3 HR
  go_wp2_with fail
  go_loopw [21] (fun i wr => ∃ k d : Nat, k ≤ n ∧ i = .int .i64 k ∧ wr = w4.drewN d) (fun i _ => n - (intOf i).toNat)
  case atStart => exact ⟨0, 0, Nat.zero_le _, rfl, rfl⟩
  case round =>
    obtain ⟨k, d, hk, rfl, rfl⟩ := hrel
    by_cases hkn : k < n
    · obtain ⟨rb, ro, rfl, _, rcell⟩ := R3.out (by omega)
      obtain ⟨sb, so, rfl, _, scell⟩ := S3.out (by omega)
      have hr := rcell k hkn
      have hs := scell k hkn
      have hkn' : (k : Int) < (n : Int) := by omega
      clear rcell scell
      go_wp2_with fail
      go_quiet (fail)
      go_wp2
      go_roundw
      case rel => exact ⟨k + 1, _, by omega, by go_num, rfl⟩
      case measure => simp [intOf]; omega
    · obtain rfl : k = n := by omega
      go_wp2_with fail
      refine (sClamp_any _ _ _ _).mono ?_
      rw [HZ1.out]
      rintro e w5 ⟨rfl, hb⟩
      have HB5 : Hid (Below w.heap.size w w5) := (below_drewN HB4.out d).trans (Below.mono hb HB4.out.size)
      clear hb
      go_wp2_with fail
      refine (rsClamp_any _ _ _ _).mono ?_
      rw [HZ1.out]
      rintro e w' ⟨rfl, rfl⟩
      go_wp2_with fail
      refine (sReveal_any _ _ _ _ _).mono ?_
      rw [HZ2.out]
      rintro e w6 ⟨rfl, hb⟩
      have HB6 := Lib.hid (HB5.out.trans (hb.mono HB5.out.size))
      clear hb HB5
      go_wp2_with fail
      refine (rsReveal_any _ _ _ _ _).mono ?_
      rw [HZ2.out]
      rintro e w' ⟨rfl, rfl⟩
      go_wp2_with fail
      refine (keep_any _ _ l0 l1 _ _ (H0.out.of_below HB6.out) (H1.out.of_below HB6.out) K0.out K1.out).mono ?_
      rw [HZ.out]
      rintro e w7 ⟨rfl, hb⟩
      have HB7 := Lib.hid (HB6.out.trans (hb.mono HB6.out.size))
      clear hb HB6
      go_wp2_with fail
      refine (rkeep_all _ _ l0 l1 _ _ (H0.out.of_below HB7.out) (H1.out.of_below HB7.out)).mono ?_
      rw [HZ.out]
      rintro e w8 ⟨rfl, hb⟩
      have HB8 := Lib.hid (HB7.out.trans (hb.mono HB7.out.size))
      clear hb HB7
      go_wp2_with (go_at_call 11; refine (awake_any _).mono ?_; rintro e w9 ⟨rfl, hb9⟩)
      go_ret
      exact ⟨rfl, HB8.out.trans (hb9.mono HB8.out.size)⟩

theorem walk_ScrollRaw (v0 : Value) (l0 : List Strip) (v1 : Value) (l1 : List Strip) (v2 : Value) (l2 : List Rec) (u3 : Value) (o : Int) (u4 : Value) (h : Int) (u5 : Value) (a : Int) (u6 : Value) (x : Int) (w : World) (h0 : InStrips w v0 l0) (h1 : InStrips w v1 l1) (h2 : InRecs 3 w v2 l2)
    (h3 : u3 = .int .i64 o ∧ (Lit.int .i64 o).wf = true) (h4 : u4 = .int .i64 h ∧ (Lit.int .i64 h).wf = true) (h5 : u5 = .int .i64 a ∧ (Lit.int .i64 a).wf = true) (h6 : u6 = .int .i64 x ∧ (Lit.int .i64 x).wf = true) :
    Calls Try.prog 9 #[v0, v1, v2, u3, u4, u5, u6] w (True_ w) := by
  obtain ⟨rfl, -⟩ := h3
  obtain ⟨rfl, -⟩ := h4
  obtain ⟨rfl, -⟩ := h5
  obtain ⟨rfl, -⟩ := h6
  by_cases c : l0.length ≤ 200 ∧ l1.length ≤ 200 ∧ l2.length ≤ 200
  · exact raw_in v0 v1 v2 l0 l1 l2 o h a x w h0.1 h1.1 h2.1 (keysOk_in h0) (keysOk_in h1) c.1 c.2.1 c.2.2
  · exact raw_long v0 v1 v2 l0 l1 l2 o h a x w h0.1 h1.1 h2.1 (by omega)
end Go.Proofs.Ytchlnelpgjjmgaa
