/- The walk of the law BoxFills. -/
import Derived.Test.YthmdagffhanagaaElems
import Derived.Test.YthmdagffhanagaaAwake18
import Derived.Test.YthmdagffhanagaaBoxBnd
import Derived.Test.YthmdagffhanagaaSumR
import Derived.Test.YthmdagffhanagaaCapTo
import Derived.Test.YthmdagffhanagaaOpen
import Derived.Deep.QuietTactic
import Derived.BigQuiet
namespace Go.Proofs.Ythmdagffhanagaa
open Go.RowKit
set_option linter.unusedVariables false
set_option linter.unusedSimpArgs false

theorem recs_row {w : World} {a : Option Addr} {n cap : Nat} {l : List Rec} (h : IsRecs 5 w (.slice a n cap) l) (hn : 0 < n) : ∃ b off, a = some ⟨b, off, none⟩ ∧ b < w.heap.size ∧ ∀ i, i < n → ∀ j, j < 5 → w.cell? ⟨b, off + i * 5 + j, none⟩ = some (.int .i64 (gf l i j)) := by
  obtain ⟨a', cap', hv, k1, k2, k3⟩ := h
  simp at hv
  obtain ⟨rfl, rfl, rfl⟩ := hv
  exact k3 hn
theorem own_thaw {w : World} {base e sz n cap k b off : Nat} {xs : List Value} (h : w.ownsRow base e sz (.slice (some ⟨b, off, none⟩) n cap) k xs) : ∀ i, w.frozen? ⟨b, i, none⟩ = false := fun i => by
  rcases h.2 with h | ⟨g, c, cur, hv, _, hg, _⟩
  · have := h.1; simp at this
  · simp at hv
    obtain ⟨⟨rfl, rfl⟩, -⟩ := hv
    simp [World.frozen?, hg]
theorem sumF_upto {F : Nat → Int} {M : Int} : ∀ n, (∀ i, i < n → 0 ≤ F i ∧ F i ≤ M) → 0 ≤ sumF F n ∧ sumF F n ≤ M * (n : Int)
  | 0, _ => by simp [sumF]
  | n + 1, h => by
    have h1 := sumF_upto n (fun i hi => h i (by omega))
    have h2 := h n (by omega)
    have e : M * ((n + 1 : Nat) : Int) = M * (n : Int) + M := by rw [Int.natCast_add, Int.mul_add]; simp
    rw [e]
    simp only [sumF]
    omega
theorem el_turn0 {g B k : Nat} {w1 w2 : World} {v : Value} {xs : List Value} (h : w1.ownsRow B 36 5 v k xs) (hg : w1.grownBy w2 (some g)) (hB : g < B) : w2.ownsRow B 36 5 v k xs :=
  h.kept hg (.inr fun e => by have := (h.lt g e).1; omega)
set_option maxHeartbeats 8000000 in
set_option maxRecDepth 100000 in
theorem walk_BoxFills (v0 : Value) (xs : List Int) (v1 : Value) (av : Int) (w : World) (h0 : InInts w v0 xs) (h1 : v1 = .int .i64 av ∧ (Lit.int .i64 av).wf = true) : Calls Try.prog 6 #[v0, v1] w (True_ w) := by
  obtain ⟨rfl, -⟩ := h1
  have HU := Lib.hid h0
  clear h0
  by_cases ha0 : av < 0
  · go_enter Try.func6, Try.ntmps6
    go_wp2
    go_ret
    exact ⟨rfl, Below.refl _ _⟩
  by_cases ha1 : 1048576 < av
  · go_enter Try.func6, Try.ntmps6
    go_wp2
    go_ret
    exact ⟨rfl, Below.refl _ _⟩
  go_enter Try.func6, Try.ntmps6
  go_wp2_with fail
  refine (srcNew_any _ xs _ HU.out).mono ?_
  rintro e w1 ⟨g, rfl, hs, hg0, hg1, hb⟩
  have HG : Hid (w.heap.size ≤ g) := hg0
  have HS1 := Lib.hid hs
  have HB1 := Lib.hid hb
  clear hs hg0 hg1 hb
  go_wp2_with fail
  refine (elems_any g _ HS1.out).mono ?_
  rintro e w2 ⟨v, l, rfl, hl5, hok, hown, hs2, hg2⟩
  have HB2 := Lib.hid (HB1.out.trans (grownBy_below hg2 HG.out HS1.out.lt))
  have HS2 := Lib.hid hs2
  have HT : Hid (IsRecs 5 w2 v l) := ownsRow_isRecs hown rfl hok.1
  have HOW := Lib.hid hown
  have HW5 : Hid (wide 5 l) := hok.1
  have HFX : Hid (flexTo l l.length) := hok.2
  clear hs2 hg2 hown hok
  go_wp2_with fail
  refine (srcN_any g _ _ HS2.out (by omega) (by omega)).mono ?_
  rintro e w3 ⟨q, q0, q1, rfl, hs3, hg3⟩
  have HB3 := Lib.hid (HB2.out.trans (grownBy_below hg3 HG.out HS2.out.lt))
  have HO3 : Hid (w3.ownsRow w1.heap.size 36 5 v l.length (recCells l)) := el_turn0 HOW.out hg3 HS1.out.lt
  clear hs3 hg3
  have HR3 : Hid (IsRecs 5 w3 v l) := ownsRow_isRecs HO3.out rfl HW5.out
  obtain ⟨a, cap, rfl, k1, k2, k3⟩ := HR3.out
  obtain ⟨n, hn⟩ : ∃ n, l.length = n := ⟨_, rfl⟩
  have HN := Lib.hid hn
  rw [hn] at hl5 k1 k3 HR3 HO3 ⊢
  clear hn k1 k2 k3
  go_wp2_with fail
  go_loopw [8, 9, 10] (fun s gr i wr => ∃ k : Nat, k ≤ n ∧ s = .int .i64 (sumF (wantF l) k + q * ((k - 1 : Nat) : Int)) ∧ gr = .int .i64 (sumF (fun i => gf l i 3) k) ∧ i = .int .i64 k ∧ IsRecs 5 wr (.slice a n cap) (capTo l k) ∧ Below w.heap.size w wr ∧ ∀ b off, a = some ⟨b, off, none⟩ → ∀ i, wr.frozen? ⟨b, i, none⟩ = false) (fun _ _ i _ => n - (intOf i).toNat)
  case atStart => exact ⟨0, Nat.zero_le _, by simp [sumF], rfl, rfl, by rw [capTo_zero]; exact HR3.out, HB3.out, fun b off e => own_thaw (by rw [← e]; exact HO3.out)⟩
  case round =>
    obtain ⟨k, hk, rfl, rfl, rfl, hR, hB, hF⟩ := hrel
    have HF := Lib.hid hF
    have HR := Lib.hid hR
    have HB := Lib.hid hB
    clear hR hB hF
    by_cases hkn : k < n
    · obtain ⟨b, off, rfl, hlt, hc⟩ := recs_row HR.out (by omega)
      have HQB : Hid (w1.heap.size ≤ b) := (HO3.out.lt b rfl).1
      have hkn' : (k : Int) < (n : Int) := by omega
      have c2 := hc k hkn 2 (by omega)
      have f2 := HF.out b off rfl (off + k * 5 + 2)
      have HR5 : Hid (IsRecs 5 (wr.setCell ⟨b, off + k * 5 + 2, none⟩ (.int .i64 1048576)) (.slice (some ⟨b, off, none⟩) n cap) (capTo l (k + 1))) := HR.out.lift HW5.out HN.out hkn
      have HB5 : Hid (Below w.heap.size w (wr.setCell ⟨b, off + k * 5 + 2, none⟩ (.int .i64 1048576))) := HB.out.setCell (p := ⟨b, off + k * 5 + 2, none⟩) (Nat.le_trans HB1.out.size HQB.out) _
      clear hc
      go_wp2_with fail
      clear c2 f2
      obtain ⟨W5, hW5⟩ : ∃ W5, (wr.setCell ⟨b, off + k * 5 + 2, none⟩ (.int .i64 1048576)) = W5 := ⟨_, rfl⟩
      have HF5 : Hid (∀ i, W5.frozen? ⟨b, i, none⟩ = false) := by
        intro i
        rw [← hW5, World.frozen?_setCell]
        exact HF.out b off rfl i
      rw [hW5] at HR5 HB5 ⊢
      clear hW5
      obtain ⟨b', off', e', hlt5, hc5⟩ := recs_row HR5.out (by omega)
      simp at e'
      obtain ⟨rfl, rfl⟩ := e'
      have eg : ∀ j, j ≠ 2 → gf (capTo l (k + 1)) k j = gf l k j := fun j hj => by rw [capTo_gf (by omega) _ HW5.out k (by rw [HN.out]; exact hkn), if_neg (fun x => hj x.2)]
      have kf := flexB_iff.1 (HFX.out k (by rw [HN.out]; exact hkn))
      have c0 := hc5 k hkn 0 (by omega)
      have c1 := hc5 k hkn 1 (by omega)
      have c3 := hc5 k hkn 3 (by omega)
      rw [eg 0 (by omega), Nat.add_zero] at c0
      rw [eg 1 (by omega)] at c1
      rw [eg 3 (by omega)] at c3
      clear hc5 eg
      obtain ⟨S, hS⟩ : ∃ S, sumF (wantF l) k + q * ((k - 1 : Nat) : Int) = S := ⟨_, rfl⟩
      obtain ⟨b0, e0⟩ : ∃ x, gf l k 0 = x := ⟨_, rfl⟩
      obtain ⟨b1, e1⟩ : ∃ x, gf l k 1 = x := ⟨_, rfl⟩
      obtain ⟨b3, e3⟩ : ∃ x, gf l k 3 = x := ⟨_, rfl⟩
      rw [e0] at c0 kf
      rw [e1] at c1 kf
      rw [e3] at c3 kf
      obtain ⟨G, hG⟩ : ∃ G, sumF (fun i => gf l i 3) k = G := ⟨_, rfl⟩
      have hSb : 0 ≤ S ∧ S ≤ 10000000 := by
        have h1 := sumF_upto (F := wantF l) (M := 1048576) k (fun i hi => by have := flexB_iff.1 (HFX.out i (by rw [HN.out]; omega)); unfold wantF; omega)
        have h2 : 0 ≤ q * ((k - 1 : Nat) : Int) := Int.mul_nonneg q0 (by omega)
        have h3 : q * ((k - 1 : Nat) : Int) ≤ 9 * 5 := Int.mul_le_mul (by omega) (by omega) (by omega) (by omega)
        omega
      have hGb : 0 ≤ G ∧ G ≤ 10000 := by
        have h1 := sumF_upto (F := fun i => gf l i 3) (M := 1000) k (fun i hi => by have := flexB_iff.1 (HFX.out i (by rw [HN.out]; omega)); omega)
        omega
      rw [hS, hG]
      have w0 : IntKind.i64.wrap (S + b0) = S + b0 := IntWalk.i64_in _ (by omega)
      have w1' : IntKind.i64.wrap (S + b1) = S + b1 := IntWalk.i64_in _ (by omega)
      have w2' : IntKind.i64.wrap (G + b3) = G + b3 := IntWalk.i64_in _ (by omega)
      have w3' : IntKind.i64.wrap (S + b0 + q) = S + b0 + q := IntWalk.i64_in _ (by omega)
      have w4' : IntKind.i64.wrap (S + b1 + q) = S + b1 + q := IntWalk.i64_in _ (by omega)
      have HSS := Lib.hid hS
      have HGG := Lib.hid hG
      have HE0 := Lib.hid e0
      have HE1 := Lib.hid e1
      have HE3 := Lib.hid e3
      clear hS hG e0 e1 e3
      by_cases hm : b0 < b1
      all_goals
        by_cases hk0 : 0 < k
        all_goals
          go_quiet (fail)
          go_wp2
          go_roundw
          case measure => simp [intOf]; omega
          case rel =>
            have hwk : wantF l k = max b0 b1 := by unfold wantF; rw [HE0.out, HE1.out]
            have hst : sumF (wantF l) (k + 1) = sumF (wantF l) k + wantF l k := rfl
            have hgt : sumF (fun i => gf l i 3) (k + 1) = G + b3 := by rw [← HGG.out, ← HE3.out]; rfl
            have hSS := HSS.out
            have hq1 : q * ((k + 1 - 1 : Nat) : Int) = q * ((k - 1 : Nat) : Int) + (if 0 < k then q else 0) := by
              cases k with
              | zero => simp
              | succ k => simp [Int.mul_add]
            refine ⟨k + 1, by omega, ?_, ?_, by go_num, HR5.out.of_below (Below_drewN (Below.refl _ _) _), Below_drewN HB5.out _, fun b' off' e i => ?_⟩
            · rw [hst, hwk, hq1]
              first | rw [if_pos hk0] | rw [if_neg hk0]
              congr 1; omega
            · rw [hgt]
            · simp at e
              obtain ⟨rfl, rfl⟩ := e
              exact HF5.out i
    · obtain rfl : k = n := by omega
      have hlow : lowOnly (capTo l l.length) := capTo_low HW5.out
      have hfx := capTo_flex HW5.out HFX.out l.length
      have hgf : ∀ i, i < l.length → ∀ j, j ≠ 2 → gf (capTo l l.length) i j = gf l i j := fun i hi j hj => by rw [capTo_gf (by omega) _ HW5.out i hi, if_neg (fun x => hj x.2)]
      have hll := capTo_len l l.length
      rw [HN.out] at hlow hfx hgf hll
      obtain ⟨L, hL⟩ : ∃ L, capTo l k = L := ⟨_, rfl⟩
      rw [hL] at hlow hfx hgf hll HR
      have HER : Hid (flexErr av q L = 0) := flexErr_ok (by omega) (by simp [lenB]; omega) hfx
      have HRS : Hid (resL av q L = resOk av q L) := by show _ = _; unfold resL; rw [if_pos HER.out]
      have HRN : Hid ((resOk av q L).length = k) := (resOk_bounds (av := av) (gp := q) hfx).1.trans hll
      have HBD := Lib.hid (resOk_bd (av := av) (gp := q) hfx)
      have HFI := Lib.hid (resOk_fills (av := av) (gp := q) hfx (by omega) hlow ⟨by omega, by omega⟩ ⟨q0, by omega⟩)
      have HWF : Hid (sumF (wantF L) k = sumF (wantF l) k) := sumF_congr k (fun i hi => by unfold wantF; rw [hgf i hi 0 (by omega), hgf i hi 1 (by omega)])
      have HGF := Lib.hid hgf
      have HLL := Lib.hid hll
      obtain ⟨R, hR⟩ : ∃ R, resOk av q L = R := ⟨_, rfl⟩
      rw [hR] at HRS HRN HBD HFI
      clear hR hL hlow hfx hgf hll
      go_wp2_with fail
      refine (bres_any _ _ _ L _ HR.out).mono ?_
      rintro e w4 ⟨v3, he, hv, hb4⟩
      rw [HER.out] at he
      rw [show resL av q L = R from HRS.out] at hv
      subst he
      have HV4 := Lib.hid hv
      obtain ⟨ra, rcap, rfl, r1, r2, r3⟩ := hv
      rw [HRN.out] at r1 r3 HV4 ⊢
      have HB4 := Lib.hid (HB.out.trans (hb4.mono HB.out.size))
      clear r1 r2 r3 hb4
      obtain ⟨S, hS⟩ : ∃ S, sumF (wantF l) k + q * ((k - 1 : Nat) : Int) = S := ⟨_, rfl⟩
      obtain ⟨G, hG⟩ : ∃ G, sumF (fun i => gf l i 3) k = G := ⟨_, rfl⟩
      have HSS := Lib.hid hS
      have HGG := Lib.hid hG
      rw [hS, hG]
      clear hS hG
      by_cases hsa : av < S
      · go_wp2_with (go_at_call 14; refine (awake_any _).mono ?_; rintro e w5 ⟨rfl, hb5⟩)
        go_ret
        exact ⟨rfl, HB4.out.trans (hb5.mono HB4.out.size)⟩
      by_cases hg0 : G = 0
      · go_wp2_with (go_at_call 14; refine (awake_any _).mono ?_; rintro e w5 ⟨rfl, hb5⟩)
        go_ret
        exact ⟨rfl, HB4.out.trans (hb5.mono HB4.out.size)⟩
      have hex : ∃ i, i < L.length ∧ 0 < gf L i 3 := by
        apply Classical.byContradiction
        intro hno
        have hz : ∀ i, i < k → gf l i 3 = 0 := fun i hi => by
          have h1 := flexB_iff.1 (HFX.out i (by rw [HN.out]; exact hi))
          have h2 : ¬ 0 < gf L i 3 := fun x => hno ⟨i, by rw [HLL.out]; exact hi, x⟩
          rw [HGF.out i hi 3 (by omega)] at h2
          omega
        exact hg0 (by rw [← HGG.out, sumF_congr (G := fun _ => 0) k hz, sumF_zero])
      have hk0 : 0 < k := by obtain ⟨i, hi, -⟩ := hex; rw [HLL.out] at hi; omega
      have hsum : sumTo R k = av - q * ((k - 1 : Nat) : Int) := by
        have := HFI.out (by rw [HLL.out, HWF.out]; have := HSS.out; unfold spTo; omega) hex
        rw [HLL.out] at this
        exact this
      have hRb : ∀ j, j ≤ R.length → -4611686018427387904 ≤ sumTo R j ∧ sumTo R j ≤ 4611686018427387904 := fun j hj => by
        rw [HRN.out] at hj
        have h1 := sumF_upto (F := gz R) (M := 1048576) j (fun i hi => HBD.out i (by rw [HLL.out]; omega))
        rw [← sumTo_sumF] at h1
        omega
      have h2 : 0 ≤ q * ((k - 1 : Nat) : Int) := Int.mul_nonneg q0 (by omega)
      have h3 : q * ((k - 1 : Nat) : Int) ≤ 9 * 5 := Int.mul_le_mul (by omega) (by omega) (by omega) (by omega)
      have e1 : ((k - 1 : Nat) : Int) = (k : Int) - 1 := by omega
      rw [e1] at h2 h3 hsum
      obtain ⟨T, hT⟩ : ∃ T, sumTo R k = T := ⟨_, rfl⟩
      have HT := Lib.hid hT
      have HRB := Lib.hid hRb
      rw [hT] at hsum
      have x1 : IntKind.i64.wrap ((k : Int) - 1) = (k : Int) - 1 := IntWalk.i64_in _ (by omega)
      have x2 : IntKind.i64.wrap (q * ((k : Int) - 1)) = q * ((k : Int) - 1) := IntWalk.i64_in _ (by omega)
      have x3 : IntKind.i64.wrap (T + q * ((k : Int) - 1)) = av := by rw [IntWalk.i64_in _ (by omega)]; omega
      clear hT hRb hex
      go_wp2_with (go_at_call 19; refine (rsum_any _ R _ HV4.out HRB.out).mono ?_; rw [HRN.out, HT.out]; rintro e w5 ⟨rfl, rfl⟩)
      go_wp2_with (go_at_call 14; refine (awake_any _).mono ?_; rintro e w6 ⟨rfl, hb5⟩)
      all_goals
        go_ret
        exact ⟨rfl, HB4.out.trans (hb5.mono HB4.out.size)⟩

end Go.Proofs.Ythmdagffhanagaa

