/- The walk of the law GridPlaces. -/
import Derived.Test.YtadkkkdecejkeaaAwake19
import Derived.Test.YtadkkkdecejkeaaBits
import Derived.Test.YtadkkkdecejkeaaOpen
import Derived.Deep.QuietTactic
import Derived.BigQuiet
namespace Go.Proofs.Ytadkkkdecejkeaa
open Go.RowKit
set_option linter.unusedVariables false
set_option linter.unusedSimpArgs false

set_option maxHeartbeats 8000000 in
set_option maxRecDepth 100000 in
theorem walk_GridPlaces (v0 : Value) (cn : Int) (v1 : Value) (xs : List Int) (w : World)
    (h0 : v0 = .int .i64 cn ∧ (Lit.int .i64 cn).wf = true) (h1 : InInts w v1 xs) :
    Calls Try.prog 5 #[v0, v1] w (True_ w) := by
  obtain ⟨rfl, -⟩ := h0
  have HV := Lib.hid h1.1
  obtain ⟨⟨a, cap, rfl, m1, m2, m3⟩, -⟩ := h1
  unfold maxLen at m2
  obtain ⟨n, hn⟩ : ∃ n, xs.length = n := ⟨_, rfl⟩
  rw [hn] at m1 HV ⊢
  clear m3 hn
  by_cases hl : 120 < n
  · have hl' : (120 : Int) < (n : Int) := by omega
    go_enter Try.func5, Try.ntmps5
    go_wp2
    go_ret
    exact ⟨rfl, Below.refl _ _⟩
  have hl1 : (n : Int) ≤ 120 := by omega
  have h7 := and_7 cn
  have hm7 : 0 ≤ cn % 8 ∧ cn % 8 ≤ 7 := by omega
  obtain ⟨m7, hm⟩ : ∃ m, cn % 8 = m := ⟨_, rfl⟩
  rw [hm] at h7 hm7
  have hw7 : IntKind.i64.wrap (1 + m7) = 1 + m7 := IntWalk.i64_in _ (by omega)
  have H7 := Lib.hid h7
  have HW7 := Lib.hid hw7
  clear hm hm7 h7 hw7
  go_enter Try.func5, Try.ntmps5
  go_wp2_with fail
  go_loopw [0, 5] (fun co i wr => ∃ c : Int, co = .int .i64 c ∧ Below w.heap.size w wr ∧ ((i = .int .i64 0 ∧ c = cn) ∨ i = .int .i64 1 ∧ c = cn ∨ i = .int .i64 2)) (fun _ i _ => 2 - (intOf i).toNat)
  case atStart => exact ⟨cn, rfl, Below.refl _ _, .inl ⟨rfl, rfl⟩⟩
  case round =>
    obtain ⟨c, rfl, hbl, hrest⟩ := hrel
    have HB := Lib.hid hbl
    clear hbl
    obtain ⟨rfl, rfl⟩ | ⟨rfl, rfl⟩ | rfl := hrest
    · as_aux_lemma =>
      have h7 := H7.out
      have hw7 := HW7.out
      go_wp2_with fail
      refine (place_any _ _ xs _ (HV.out.of_below HB.out)).mono ?_
      rintro e w2 ⟨v, rfl, hv, hb2⟩
      have HV2 := Lib.hid hv
      have HB2 : Hid (Below w.heap.size w w2) := HB.out.trans (hb2.mono HB.out.size)
      clear hv hb2
      go_wp2_with fail
      refine (rplace_any _ _ xs _ (HV.out.of_below HB2.out)).mono ?_
      rintro e w3 ⟨u, rfl, hu, hb3⟩
      have hv3 := HV2.out.of_below hb3
      have HB3 : Hid (Below w.heap.size w w3) := HB2.out.trans (hb3.mono HB2.out.size)
      obtain ⟨va, vc, rfl, v1, v2, v3⟩ := hv3
      obtain ⟨ua, uc, rfl, u1, u2, u3⟩ := hu
      obtain ⟨l, hl⟩ : ∃ l, plL c xs = l := ⟨_, rfl⟩
      rw [hl] at v1 v3 u1 u3 ⊢
      obtain ⟨q, hq⟩ : ∃ q, l.length = q := ⟨_, rfl⟩
      rw [hq] at v1 v3 u1 u3 ⊢
      have hq100 : q ≤ 120 := by
        rw [← hq, ← hl]
        unfold plL
        split
        · rename_i h; rw [plTo_len]; simp [plOk] at h; omega
        · simp
      have V3 := Lib.hid v3
      have U3 := Lib.hid u3
      have hq' : (q : Int) ≤ 120 := by omega
      clear hb3 v3 u3 hl hq HV2 HB2 h7 hw7
      go_wp2_with fail
      obtain ⟨w3', rfl⟩ : ∃ x : World, x = w3 := ⟨_, rfl⟩
      go_loopw [8] (fun i wr => ∃ k d : Nat, k ≤ q ∧ i = .int .i64 k ∧ wr = w3'.drewN d) (fun i _ => q - (intOf i).toNat)
      case atStart => exact ⟨0, 0, Nat.zero_le _, rfl, rfl⟩
      case round =>
        obtain ⟨k, d, hk, rfl, rfl⟩ := hrel
        by_cases hkq : k < q
        · obtain ⟨b1, o1, rfl, -, c1⟩ := V3.out (by omega)
          obtain ⟨b2, o2, rfl, -, c2⟩ := U3.out (by omega)
          have x0 := c1 k hkq 0 (by omega)
          have x1 := c1 k hkq 1 (by omega)
          have x2 := c1 k hkq 2 (by omega)
          have y0 := c2 k hkq 0 (by omega)
          have y1 := c2 k hkq 1 (by omega)
          have y2 := c2 k hkq 2 (by omega)
          rw [Nat.add_zero] at x0 y0
          have hkq' : (k : Int) < (q : Int) := by omega
          clear c1 c2
          go_wp2_with fail
          go_quiet (fail)
          go_wp2
          go_roundw
          case rel => exact ⟨k + 1, _, by omega, by go_num, rfl⟩
          case measure => simp [intOf]; omega
        · obtain rfl : k = q := by omega
          go_wp2
          go_roundw
          case rel => exact ⟨_, rfl, Below_drewN HB3.out d, .inr (.inl (And.intro (by go_num) rfl))⟩
          case measure => simp [intOf]
    · as_aux_lemma =>
      have h7 := H7.out
      have hw7 := HW7.out
      go_wp2_with fail
      refine (place_any _ _ xs _ (HV.out.of_below HB.out)).mono ?_
      rintro e w2 ⟨v, rfl, hv, hb2⟩
      have HV2 := Lib.hid hv
      have HB2 : Hid (Below w.heap.size w w2) := HB.out.trans (hb2.mono HB.out.size)
      clear hv hb2
      go_wp2_with fail
      refine (rplace_any _ _ xs _ (HV.out.of_below HB2.out)).mono ?_
      rintro e w3 ⟨u, rfl, hu, hb3⟩
      have hv3 := HV2.out.of_below hb3
      have HB3 : Hid (Below w.heap.size w w3) := HB2.out.trans (hb3.mono HB2.out.size)
      obtain ⟨va, vc, rfl, v1, v2, v3⟩ := hv3
      obtain ⟨ua, uc, rfl, u1, u2, u3⟩ := hu
      obtain ⟨l, hl⟩ : ∃ l, plL (1 + m7) xs = l := ⟨_, rfl⟩
      rw [hl] at v1 v3 u1 u3 ⊢
      obtain ⟨q, hq⟩ : ∃ q, l.length = q := ⟨_, rfl⟩
      rw [hq] at v1 v3 u1 u3 ⊢
      have hq100 : q ≤ 120 := by
        rw [← hq, ← hl]
        unfold plL
        split
        · rename_i h; rw [plTo_len]; simp [plOk] at h; omega
        · simp
      have V3 := Lib.hid v3
      have U3 := Lib.hid u3
      have hq' : (q : Int) ≤ 120 := by omega
      clear hb3 v3 u3 hl hq HV2 HB2 h7 hw7
      go_wp2_with fail
      obtain ⟨w3', rfl⟩ : ∃ x : World, x = w3 := ⟨_, rfl⟩
      go_loopw [8] (fun i wr => ∃ k d : Nat, k ≤ q ∧ i = .int .i64 k ∧ wr = w3'.drewN d) (fun i _ => q - (intOf i).toNat)
      case atStart => exact ⟨0, 0, Nat.zero_le _, rfl, rfl⟩
      case round =>
        obtain ⟨k, d, hk, rfl, rfl⟩ := hrel
        by_cases hkq : k < q
        · obtain ⟨b1, o1, rfl, -, c1⟩ := V3.out (by omega)
          obtain ⟨b2, o2, rfl, -, c2⟩ := U3.out (by omega)
          have x0 := c1 k hkq 0 (by omega)
          have x1 := c1 k hkq 1 (by omega)
          have x2 := c1 k hkq 2 (by omega)
          have y0 := c2 k hkq 0 (by omega)
          have y1 := c2 k hkq 1 (by omega)
          have y2 := c2 k hkq 2 (by omega)
          rw [Nat.add_zero] at x0 y0
          have hkq' : (k : Int) < (q : Int) := by omega
          clear c1 c2
          go_wp2_with fail
          go_quiet (fail)
          go_wp2
          go_roundw
          case rel => exact ⟨k + 1, _, by omega, by go_num, rfl⟩
          case measure => simp [intOf]; omega
        · obtain rfl : k = q := by omega
          go_wp2
          go_roundw
          case rel => exact ⟨_, rfl, Below_drewN HB3.out d, .inr (.inr (by go_num))⟩
          case measure => simp [intOf]
    · go_wp2_with (go_at_call 10; refine (awake_any _).mono ?_; rintro e w10 ⟨rfl, hb10⟩)
      go_ret
      exact ⟨rfl, HB.out.trans (hb10.mono HB.out.size)⟩
end Go.Proofs.Ytadkkkdecejkeaa

