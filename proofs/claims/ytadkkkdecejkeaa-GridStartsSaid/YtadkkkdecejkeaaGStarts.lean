/- The walk of the law GridStarts. -/
import Derived.Test.YtadkkkdecejkeaaAwake19
import Derived.Test.YtadkkkdecejkeaaBits
import Derived.Test.YtadkkkdecejkeaaFillTo
import Derived.Test.YtadkkkdecejkeaaOpen
import Derived.Deep.QuietTactic
import Derived.BigQuiet
namespace Go.Proofs.Ytadkkkdecejkeaa
open Go.RowKit
set_option linter.unusedVariables false
set_option linter.unusedSimpArgs false

def smg (xs : List Int) (i : Nat) : Int := gz xs i % 1024
set_option maxHeartbeats 20000000 in
set_option maxRecDepth 100000 in
theorem walk_GridStarts (v0 : Value) (gp : Int) (v1 : Value) (xs : List Int) (w : World)
    (h0 : v0 = .int .i64 gp ∧ (Lit.int .i64 gp).wf = true) (h1 : InInts w v1 xs) :
    Calls Try.prog 8 #[v0, v1] w (True_ w) := by
  obtain ⟨rfl, -⟩ := h0
  obtain ⟨⟨a, cap, rfl, m1, m2, m3⟩, -⟩ := h1
  unfold maxLen at m2
  obtain ⟨n, hn⟩ : ∃ n, xs.length = n := ⟨_, rfl⟩
  rw [hn] at m1 m3 ⊢
  have H3 := Lib.hid m3
  clear m3 hn
  by_cases hl : 50 < n
  · have hl' : (50 : Int) < (n : Int) := by omega
    go_enter Try.func8, Try.ntmps8
    go_wp2
    go_ret
    exact ⟨rfl, Below.refl _ _⟩
  have hl1 : (n : Int) ≤ 50 := by omega
  have h63 := and_63 gp
  have hm63 : 0 ≤ gp % 64 ∧ gp % 64 ≤ 63 := by omega
  obtain ⟨g, hg⟩ : ∃ m, gp % 64 = m := ⟨_, rfl⟩
  rw [hg] at h63 hm63
  have H63 := Lib.hid h63
  have HG := Lib.hid hm63
  clear hg h63 hm63
  have hmk := make_ints n (by omega) w
  have HMD : Hid (OwnI (w.alloc (.cells (madeCells #[.int .i64 0] n) 3)) w.heap.size (fillTo (smg xs) n 0)) := by
    show OwnI _ _ _
    rw [fillTo_zero]; exact OwnI.made w n
  have HBM : Hid (Below w.heap.size w (w.alloc (.cells (madeCells #[.int .i64 0] n) 3))) := (Below.refl _ _).alloc (Nat.le_refl _) _
  obtain ⟨W1, hW1⟩ : ∃ W1, (w.alloc (.cells (madeCells #[.int .i64 0] n) 3)) = W1 := ⟨_, rfl⟩
  obtain ⟨B, hB⟩ : ∃ B, w.heap.size = B := ⟨_, rfl⟩
  have HBZ := Lib.hid hB
  rw [hW1, hB] at HMD HBM hmk
  clear hW1 hB
  go_enter Try.func8, Try.ntmps8
  go_wp2_with fail
  clear hmk
  go_loopw [6] (fun i wr => ∃ k : Nat, k ≤ n ∧ i = .int .i64 k ∧ OwnI wr B (fillTo (smg xs) n k) ∧ Below B w wr) (fun i _ => n - (intOf i).toNat)
  case atStart => exact ⟨0, Nat.zero_le _, rfl, HMD.out, HBM.out⟩
  case round =>
    obtain ⟨k, hk, rfl, hO, hB⟩ := hrel
    have HO := Lib.hid hO
    have HB := Lib.hid hB
    clear hO hB
    by_cases hkn : k < n
    · obtain ⟨b, off, rfl, hlt, hcell⟩ := H3.out (by omega)
      rw [HBZ.out] at hlt
      have hc := (HB.out.cell (p := ⟨b, off + k, none⟩) hlt).trans (hcell k hkn)
      have hof := HO.out.cell (i := k) (by rw [fillTo_len]; exact hkn)
      have hfr := HO.out.free k
      have hkn' : (k : Int) < (n : Int) := by omega
      have hk0 : (0 : Int) ≤ (k : Int) := by omega
      have bx : bits .and .i64 (gz xs k) 1023 = smg xs k := and_1023 _
      have HO5 : Hid (OwnI (wr.setCell ⟨B, k, none⟩ (.int .i64 (smg xs k))) B (fillTo (smg xs) n (k + 1))) := by
        show OwnI _ _ _
        rw [← fillTo_set _ hkn]
        exact HO.out.set k _
      have HB5 : Hid (Below B w (wr.setCell ⟨B, k, none⟩ (.int .i64 (smg xs k)))) := HB.out.setCell (p := ⟨B, k, none⟩) (Nat.le_refl _) _
      clear hcell
      go_wp2
      go_roundw
      case rel => exact ⟨k + 1, by omega, by go_num, HO5.out, HB5.out⟩
      case measure => simp [intOf]; omega
    · obtain rfl : n = k := by omega
      obtain ⟨l, hl⟩ : ∃ l, fillTo (smg xs) n n = l := ⟨_, rfl⟩
      have HLL : Hid (l.length = n) := by show _ = _; rw [← hl]; exact fillTo_len _ _ _
      have HLX : Hid (∀ i, i < n → 0 ≤ gz l i ∧ gz l i ≤ 1023) := fun i hi => by
        rw [← hl, fillTo_at _ hi hi]
        unfold smg; omega
      rw [hl] at HO
      have hI : IsInts wr (.slice (some ⟨B, 0, none⟩) n n) l := by
        have h := HO.out.isInts (by rw [HLL.out]; unfold maxLen; omega)
        rw [HLL.out] at h
        exact h
      have HI := Lib.hid hI
      have h63 := H63.out
      clear hI hl
      go_wp2_with fail
      refine (starts_any _ g l _ HI.out (by rw [HLL.out]; omega) HG.out (by rw [HLL.out]; exact HLX.out)).mono ?_
      rintro e w2 ⟨v, rfl, hv, hb2⟩
      rw [HLL.out] at hv
      obtain ⟨va, vc, rfl, v1, v2, v3⟩ := hv
      rw [stTo_len] at v1 v3 ⊢
      have V3 := Lib.hid v3
      have HO2 := Lib.hid (HO.out.of_below hb2 HO.out.lt)
      have HB2 : Hid (Below B w w2) := HB.out.trans (hb2.mono (by have := HB.out.size; rw [HBZ.out] at this; exact this))
      have HSB : Hid (∀ k, k ≤ n → 0 ≤ stAt g l k ∧ stAt g l k ≤ 1086 * (k : Int)) := stAt_bd HG.out HLX.out
      have HSZ : Hid (B ≤ w2.heap.size) := by have := HB2.out.size; rw [HBZ.out] at this; exact this
      clear hb2 v3 h63 HI HO
      by_cases hn0 : n = 0
      · subst hn0
        go_wp2_with fail
        obtain ⟨w3, rfl⟩ : ∃ x : World, x = w2 := ⟨_, rfl⟩
        go_loopw [8] (fun i wr => i = .int .i64 1 ∧ wr = w3) (fun _ _ => 0)
        case atStart => exact ⟨rfl, rfl⟩
        case round =>
          obtain ⟨rfl, hwx⟩ := hrel
          subst hwx
          go_wp2_with (go_at_call 10; refine (awake_any _).mono ?_; rintro e w10 ⟨rfl, hb10⟩)
          go_ret
          refine ⟨rfl, ?_⟩
          rw [HBZ.out]
          exact HB2.out.trans (hb10.mono HSZ.out)
      · obtain ⟨b, o, rfl, -, c1⟩ := V3.out (by omega)
        have z0 := c1 0 (by omega)
        rw [stTo_at (by omega), Nat.add_zero] at z0
        rw [show stAt g l 0 = 0 from rfl] at z0
        have hnp : (0 : Int) < (n : Int) := by omega
        have hnp0 : 0 < n := by omega
        have HC1 : Hid (∀ i, i < n → w2.cell? ⟨b, o + i, none⟩ = some (.int .i64 (stAt g l i))) := fun i hi => by rw [c1 i hi, stTo_at hi]
        clear c1
        go_wp2_with fail
        obtain ⟨w3, rfl⟩ : ∃ x : World, x = w2 := ⟨_, rfl⟩
        go_loopw [8] (fun i wr => ∃ k d : Nat, 1 ≤ k ∧ k ≤ n ∧ i = .int .i64 k ∧ wr = w3.drewN d) (fun i _ => n - (intOf i).toNat)
        case atStart => exact ⟨1, 0, Nat.le_refl _, by omega, rfl, rfl⟩
        case round =>
          obtain ⟨k, d, hk1, hk, rfl, rfl⟩ := hrel
          by_cases hkn : k < n
          · as_aux_lemma =>
            obtain ⟨p, hp⟩ : ∃ p, p + 1 = k := ⟨k - 1, by omega⟩
            have x0 := HC1.out k hkn
            have y0 := HC1.out p (by omega)
            have s0 := HO2.out.cell (i := p) (by rw [HLL.out]; omega)
            have hsk : stAt g l k = stAt g l p + (gz l p + g) := by rw [← hp]; rfl
            have hsb := HSB.out p (by omega)
            have hxb := HLX.out p (by omega)
            have hgb := HG.out
            rw [hsk] at x0
            obtain ⟨S, hS⟩ : ∃ s, stAt g l p = s := ⟨_, rfl⟩
            obtain ⟨x, hx⟩ : ∃ s, gz l p = s := ⟨_, rfl⟩
            rw [hS] at x0 y0 hsb
            rw [hx] at x0 s0 hxb
            have hwp : IntKind.i64.wrap ((k : Int) - 1) = (p : Int) := by rw [← hp]; rw [IntWalk.i64_in _ (by omega)]; omega
            have hkn' : (k : Int) < (n : Int) := by omega
            have hk0 : (0 : Int) ≤ (k : Int) := by omega
            have hpn : (p : Int) < (n : Int) := by omega
            have hp0 : (0 : Int) ≤ (p : Int) := by omega
            have hpn' : p < n := by omega
            have h63 := H63.out
            have hw1 : IntKind.i64.wrap (S + x) = S + x := IntWalk.i64_in _ (by omega)
            have hw2 : IntKind.i64.wrap (S + x + g) = S + (x + g) := by rw [IntWalk.i64_in _ (by omega)]; omega
            clear hS hx hsk hsb hxb hgb z0
            go_wp2_with fail
            go_quiet (fail)
            go_wp2
            go_roundw
            case rel => exact ⟨k + 1, _, by omega, by omega, by go_num, rfl⟩
            case measure => simp [intOf]; omega
          · obtain rfl : n = k := by omega
            go_wp2_with (go_at_call 10; refine (awake_any _).mono ?_; rintro e w10 ⟨rfl, hb10⟩)
            go_ret
            refine ⟨rfl, ?_⟩
            rw [HBZ.out]
            exact (Below_drewN HB2.out d).trans (hb10.mono HSZ.out)
end Go.Proofs.Ytadkkkdecejkeaa

