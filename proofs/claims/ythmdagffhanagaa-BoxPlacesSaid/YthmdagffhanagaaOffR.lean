/- Offsets and Align of the reference. -/
import Derived.Test.YthmdagffhanagaaOffFacts
import Derived.Test.YthmdagffhanagaaRefShare
import Derived.Test.YthmdagffhanagaaFloorR
import Derived.Deep.CutBlock
namespace Go.Proofs.Ythmdagffhanagaa
open Go.RowKit
set_option linter.unusedVariables false
set_option linter.unusedSimpArgs false

set_option maxHeartbeats 2000000 in
theorem ralign_any (al av sz : Int) (right : Bool) (w : World) :
    Calls Try.prog 25 #[.int .i64 al, .int .i64 av, .int .i64 sz, .bool right] w fun e w' => e = .returned (alV al av sz right) ∧ w = w' := by
  cases hok : alOk al av sz with
  | false =>
    have HR : Hid (alV al av sz right = .tuple #[.int .i64 0, .int .i64 0]) := by
      show _ = _
      unfold alV
      rw [hok]; rfl
    cases h1 : lenB av with
    | false =>
      have H1 := Lib.hid h1
      clear h1 hok
      go_enter Try.func25, Try.ntmps25
      go_wp2_with fail
      refine (rlen_any _ _).mono ?_
      rw [H1.out]
      rintro e w' ⟨rfl, rfl⟩
      go_wp2
      go_ret2
      exact ⟨by rw [HR.out]; rfl, rfl⟩
    | true =>
      cases h2 : lenB sz with
      | false =>
        have H1 := Lib.hid h1
        have H2 := Lib.hid h2
        clear h1 h2 hok
        go_enter Try.func25, Try.ntmps25
        go_wp2_with fail
        refine (rlen_any _ _).mono ?_
        rw [H1.out]
        rintro e w' ⟨rfl, rfl⟩
        go_wp2_with fail
        refine (rlen_any _ _).mono ?_
        rw [H2.out]
        rintro e w' ⟨rfl, rfl⟩
        go_wp2
        go_ret2
        exact ⟨by rw [HR.out]; rfl, rfl⟩
      | true =>
        have H1 := Lib.hid h1
        have H2 := Lib.hid h2
        have hj : al < 0 ∨ 4 < al := by
          unfold alOk at hok
          rw [h1, h2] at hok
          simp at hok
          omega
        clear h1 h2 hok
        by_cases hj0 : al < 0
        · clear hj
          go_enter Try.func25, Try.ntmps25
          go_wp2_with fail
          refine (rlen_any _ _).mono ?_
          rw [H1.out]
          rintro e w' ⟨rfl, rfl⟩
          go_wp2_with fail
          refine (rlen_any _ _).mono ?_
          rw [H2.out]
          rintro e w' ⟨rfl, rfl⟩
          go_wp2
          go_ret2
          exact ⟨by rw [HR.out]; rfl, rfl⟩
        · have hj4 : 4 < al := by omega
          clear hj
          go_enter Try.func25, Try.ntmps25
          go_wp2_with fail
          refine (rlen_any _ _).mono ?_
          rw [H1.out]
          rintro e w' ⟨rfl, rfl⟩
          go_wp2_with fail
          refine (rlen_any _ _).mono ?_
          rw [H2.out]
          rintro e w' ⟨rfl, rfl⟩
          go_wp2
          go_ret2
          exact ⟨by rw [HR.out]; rfl, rfl⟩
  | true =>
    have hbd := (al_bd hok).2
    have HR : Hid (alV al av sz right = .tuple #[.int .i64 (alAt al av sz right), .int .i64 (alExt al av sz)]) := by
      show _ = _
      unfold alV
      rw [if_pos hok]
    obtain ⟨⟨a0, a1⟩, ⟨s0, s1⟩, hj⟩ := alOk_iff.1 hok
    have H1 : Hid (lenB av = true) := lenB_iff.2 ⟨a0, a1⟩
    have H2 : Hid (lenB sz = true) := lenB_iff.2 ⟨s0, s1⟩
    have hk : al = 0 ∨ al = 1 ∨ al = 2 ∨ al = 3 ∨ al = 4 := by omega
    clear hok hj
    rcases hk with rfl | rfl | rfl | rfl | rfl
    all_goals
      cases right
      all_goals
        simp [alAt, alAt0, alExt] at hbd HR
        go_enter Try.func25, Try.ntmps25
        go_wp2_with fail
        refine (rlen_any _ _).mono ?_
        rw [H1.out]
        rintro e w' ⟨rfl, rfl⟩
        go_wp2_with fail
        refine (rlen_any _ _).mono ?_
        rw [H2.out]
        rintro e w' ⟨rfl, rfl⟩
        go_wp2_with (go_at_call 36; refine (rFloor_any _ _ _).mono ?_; rintro e w' ⟨rfl, rfl⟩)
        go_ret2
        exact ⟨by rw [HR.out]; first | rfl | simp, rfl⟩

/-! ### Offsets -/
theorem sumLen {s : List Int} : ∀ k, (∀ i, i < k → 0 ≤ gz s i ∧ gz s i ≤ 1048576) → 0 ≤ sumTo s k ∧ sumTo s k ≤ 1048576 * (k : Int)
  | 0, _ => by simp [sumTo]
  | k + 1, h => by
    have h1 := sumLen k (fun i hi => h i (by omega))
    have h2 := h k (by omega)
    simp only [sumTo]
    omega
def exL (ju fr : Int) (n : Nat) : List Int := if betw ju fr n then 0 :: shareParts fr (List.replicate (n - 1) 1) else List.replicate n 0
theorem exL_next {ju fr : Int} {n k : Nat} (hf : betw ju fr n = true → (shareParts fr (List.replicate (n - 1) 1)).length = n - 1) (hk : k + 1 < n) : gz (exL ju fr n) (k + 1) = gz (moreL ju fr n) k := by
  unfold exL moreL
  by_cases hb : betw ju fr n = true
  · rw [if_pos hb, if_pos hb, gz_snoc, if_pos (by rw [hf hb]; omega)]
    simp [gz]
  · rw [if_neg hb, if_neg hb, gz_replicate, gz_replicate]
theorem copy_cons {n p : Nat} {P : List Int} (hp : p + 1 = n) (hP : P.length = p) : cpI (List.replicate n 0) 1 P p = 0 :: P := by
  apply ext_gz (by simp [cpI_len]; omega)
  intro i hi
  simp [cpI_len] at hi
  rw [cpI_at (by simpa using hi)]
  by_cases h : 1 ≤ i
  · rw [if_pos ⟨by omega, by omega⟩]
    obtain ⟨j, rfl⟩ : ∃ j, i = j + 1 := ⟨i - 1, by omega⟩
    simp [gz]
  · obtain rfl : i = 0 := by omega
    rw [if_neg (by omega), gz_replicate]
    rfl
/-- Where the reference stands ahead of element k. -/
def rAt (gp : Int) (s M : List Int) (a : Int) : Nat → Int
  | 0 => a
  | k + 1 => posTo gp s M a k + gz s k

set_option maxHeartbeats 8000000 in
set_option maxRecDepth 100000 in
theorem roffs_any (av gp ju : Int) (s : List Int) (right : Bool) (v : Value) (w : World) (hv : IsInts w v s) :
    Calls Try.prog 23 #[.int .i64 av, .int .i64 gp, .int .i64 ju, v, .bool right] w (GivesI (offL av gp ju s right) w) := by
  have HV := Lib.hid hv
  obtain ⟨a, cap, rfl, h1, h2, h3⟩ := hv
  obtain ⟨n, hn⟩ : ∃ n, s.length = n := ⟨_, rfl⟩
  have HN := Lib.hid hn
  rw [hn] at h1 h3 HV ⊢
  have H3 := Lib.hid h3
  unfold maxLen at h2
  clear h3 hn
  have HNO : Hid (offOk av gp ju s = false → GivesI (offL av gp ju s right) w (.returned (.slice none 0 0)) w) := fun h => GivesI.no h (Below.refl _ _)
  have HYE : Hid (offOk av gp ju s = true ↔ s.length ≤ 100 ∧ (0 ≤ av ∧ av ≤ 1048576) ∧ (0 ≤ gp ∧ gp ≤ 1048576) ∧ lensB s = true ∧ 0 ≤ ju ∧ ju ≤ 3) := offOk_iff
  by_cases hl : 100 < n
  · have hl' : (100 : Int) < (n : Int) := by omega
    have HX := Lib.hid (HNO.out (by cases e : offOk av gp ju s with | false => rfl | true => have := (HYE.out.1 e).1; rw [HN.out] at this; omega))
    go_enter Try.func23, Try.ntmps23
    go_wp2
    go_ret
    exact HX.out
  have hl' : (n : Int) ≤ 100 := by omega
  cases h1 : lenB av with
  | false =>
    have H1 := Lib.hid h1
    have HX := Lib.hid (HNO.out (by cases e : offOk av gp ju s with | false => rfl | true => have := lenB_iff.2 (HYE.out.1 e).2.1; rw [h1] at this; cases this))
    clear h1
    go_enter Try.func23, Try.ntmps23
    go_wp2_with fail
    refine (rlen_any _ _).mono ?_
    rw [H1.out]
    rintro e w' ⟨rfl, rfl⟩
    go_wp2
    go_ret
    exact HX.out
  | true =>
  have H1 := Lib.hid h1
  have a01 := lenB_iff.1 h1
  clear h1
  cases h1 : lenB gp with
  | false =>
    have H2 := Lib.hid h1
    have HX := Lib.hid (HNO.out (by cases e : offOk av gp ju s with | false => rfl | true => have := lenB_iff.2 (HYE.out.1 e).2.2.1; rw [h1] at this; cases this))
    clear h1
    go_enter Try.func23, Try.ntmps23
    go_wp2_with fail
    refine (rlen_any _ _).mono ?_
    rw [H1.out]
    rintro e w' ⟨rfl, rfl⟩
    go_wp2_with fail
    refine (rlen_any _ _).mono ?_
    rw [H2.out]
    rintro e w' ⟨rfl, rfl⟩
    go_wp2
    go_ret
    exact HX.out
  | true =>
  have H2 := Lib.hid h1
  have g01 := lenB_iff.1 h1
  clear h1
  by_cases hj0 : ju < 0
  · have HX := Lib.hid (HNO.out (by cases e : offOk av gp ju s with | false => rfl | true => have := (HYE.out.1 e).2.2.2.2.1; omega))
    go_enter Try.func23, Try.ntmps23
    go_wp2_with fail
    refine (rlen_any _ _).mono ?_
    rw [H1.out]
    rintro e w' ⟨rfl, rfl⟩
    go_wp2_with fail
    refine (rlen_any _ _).mono ?_
    rw [H2.out]
    rintro e w' ⟨rfl, rfl⟩
    go_wp2
    go_ret
    exact HX.out
  by_cases hj3 : 3 < ju
  · have HX := Lib.hid (HNO.out (by cases e : offOk av gp ju s with | false => rfl | true => have := (HYE.out.1 e).2.2.2.2.2; omega))
    go_enter Try.func23, Try.ntmps23
    go_wp2_with fail
    refine (rlen_any _ _).mono ?_
    rw [H1.out]
    rintro e w' ⟨rfl, rfl⟩
    go_wp2_with fail
    refine (rlen_any _ _).mono ?_
    rw [H2.out]
    rintro e w' ⟨rfl, rfl⟩
    go_wp2
    go_ret
    exact HX.out
  have hj3' : ju ≤ 3 := by omega
  have hj0' : 0 ≤ ju := by omega
  clear hj3 hj0
  obtain ⟨a0, a1⟩ := a01
  obtain ⟨g0, g1⟩ := g01
  go_enter Try.func23, Try.ntmps23
  go_wp2_with fail
  refine (rlen_any _ _).mono ?_
  rw [H1.out]
  rintro e w' ⟨rfl, rfl⟩
  go_wp2_with fail
  refine (rlen_any _ _).mono ?_
  rw [H2.out]
  rintro e w' ⟨rfl, rfl⟩
  go_wp2_with fail
  go_loop [11, 12] (fun f i => ∃ k : Nat, k ≤ n ∧ i = .int .i64 k ∧ f = .int .i64 (spTo av gp k - sumTo s k) ∧ Hid (∀ i, i < k → lenB (gz s i) = true)) (fun _ i => n - (intOf i).toNat)
  case atStart => exact ⟨0, Nat.zero_le _, rfl, by simp [spTo, sumTo], fun i hi => absurd hi (Nat.not_lt_zero _)⟩
  case round =>
    obtain ⟨k, hk, rfl, rfl, HOK⟩ := hrel
    have sp := spTo_bd (av := av) (gp := gp) (n := k) a0 a1 g0 g1 (by omega)
    have sb : 0 ≤ sumTo s k ∧ sumTo s k ≤ 1048576 * (k : Int) := by
      exact sumLen k (fun i hi => lenB_iff.1 (HOK.out i hi))
    by_cases hkn : k < n
    · obtain ⟨b, off, rfl, -, hcell⟩ := H3.out (by omega)
      have hc := hcell k hkn
      have hkn' : (k : Int) < (n : Int) := by omega
      have hk0 : (0 : Int) ≤ (k : Int) := by omega
      cases hb : lenB (gz s k) with
      | false =>
        have HB := Lib.hid hb
        have HX := Lib.hid (HNO.out (by cases e : offOk av gp ju s with | false => rfl | true => have := (HYE.out.1 e).2.2.2.1; rw [lensB_no (by rw [HN.out]; exact hkn) hb] at this; cases this))
        clear hb hcell
        go_wp2_with fail
        refine (rlen_any _ _).mono ?_
        rw [HB.out]
        rintro e w' ⟨rfl, rfl⟩
        go_wp2
        go_ret
        exact HX.out
      | true =>
        have HB := Lib.hid hb
        have zb := lenB_iff.1 hb
        have HO2 : Hid (∀ i, i < k + 1 → lenB (gz s i) = true) := by
          intro i hi
          by_cases e : i = k
          · subst e; exact hb
          · exact HOK.out i (by omega)
        have HS : Hid (spTo av gp (k + 1) - sumTo s (k + 1) = spTo av gp k - sumTo s k - gz s k - (if 0 < k then gp else 0)) := by
          show _ = _
          have : spTo av gp (k + 1) = spTo av gp k - (if 0 < k then gp else 0) := by
            cases k with
            | zero => simp [spTo]
            | succ k => simp [spTo, Int.mul_add]; omega
          simp only [sumTo]; omega
        obtain ⟨z, hz⟩ : ∃ z, gz s k = z := ⟨_, rfl⟩
        obtain ⟨f, hf⟩ : ∃ f, spTo av gp k - sumTo s k = f := ⟨_, rfl⟩
        rw [hz] at hc HB zb HS
        rw [hf] at HS ⊢
        have fb : -1000000000 ≤ f ∧ f ≤ 1048576 := by omega
        clear hb hcell hz hf
        by_cases hk0 : 0 < k
        all_goals
          go_wp2_with fail
          refine (rlen_any _ _).mono ?_
          rw [HB.out]
          rintro e w' ⟨rfl, rfl⟩
          go_wp2
          go_round
          case rel => exact ⟨k + 1, by omega, by go_num, by rw [HS.out]; first | rw [if_pos hk0] | rw [if_neg hk0, Int.sub_zero], HO2⟩
          case measure => simp [intOf]; omega
    · obtain rfl : n = k := by omega
      have HS : Hid (lensB s = true) := lensB_yes fun k hk => HOK.out k (by rw [← HN.out]; exact hk)
      have hok : offOk av gp ju s = true := offOk_iff.2 ⟨by rw [HN.out]; omega, ⟨a0, a1⟩, ⟨g0, g1⟩, HS.out, hj0', hj3'⟩
      have HR : Hid (offL av gp ju s right = offTo av gp s (moreL ju (offFree av gp s) n) (at0 ju (offFree av gp s)) right n) := by show _ = _; unfold offL; rw [if_pos hok, HN.out]
      have hmb := more_bd hok
      have hab := at0_bd hok
      rw [HN.out] at hmb
      have hfe : spTo av gp n - sumTo s n = offFree av gp s := by unfold offFree; rw [HN.out]
      rw [hfe]
      obtain ⟨fr, hfr⟩ : ∃ fr, offFree av gp s = fr := ⟨_, rfl⟩
      rw [hfr] at HR hmb hab hfe ⊢
      have fb : -1000000000 ≤ fr ∧ fr ≤ 1048576 := by omega
      have HMB := Lib.hid hmb
      clear hfr hfe hok hmb sp sb
      have hmk := make_ints n (by omega) w
      have HMD : Hid (OwnI (w.alloc (.cells (madeCells #[.int .i64 0] n) 3)) w.heap.size (List.replicate n 0)) := OwnI.made w n
      have HBM : Hid (Below w.heap.size w (w.alloc (.cells (madeCells #[.int .i64 0] n) 3))) := (Below.refl _ _).alloc (Nat.le_refl _) _
      obtain ⟨W1, hW1⟩ : ∃ W1, (w.alloc (.cells (madeCells #[.int .i64 0] n) 3)) = W1 := ⟨_, rfl⟩
      obtain ⟨B, hB⟩ : ∃ B, w.heap.size = B := ⟨_, rfl⟩
      have HBZ := Lib.hid hB
      rw [hW1, hB] at HMD HBM hmk
      clear hW1 hB
      have HAB := Lib.hid hab
      clear hab
      go_upto_region 13 with fail
      go_cut [79] (fun s79 wx => s79 = .bool (betw ju fr n) ∧ wx = W1)
      case first =>
        by_cases j3 : ju = 3
        · by_cases jf : 0 < fr
          · by_cases jn : 1 < n
            · have HBT : Hid (betw ju fr n = true) := betw_iff.2 ⟨j3, jf, jn⟩
              have jn' : (1 : Int) < (n : Int) := by omega
              have e3 : (ju == 3) = true := by simp [j3]
              clear j3
              go_wp2
              go_meet
              exact ⟨by rw [HBT.out] <;> first | rfl | (simp; omega), rfl⟩
            · have HBT : Hid (betw ju fr n = false) := by show _ = _; simp [betw]; omega
              have jn' : (n : Int) ≤ 1 := by omega
              have e3 : (ju == 3) = true := by simp [j3]
              clear j3
              go_wp2
              go_meet
              exact ⟨by rw [HBT.out] <;> first | rfl | (simp; omega), rfl⟩
          · have HBT : Hid (betw ju fr n = false) := by show _ = _; simp [betw]; omega
            have jf' : decide (0 < fr) = false := by simpa using jf
            have e3 : (ju == 3) = true := by simp [j3]
            clear j3 jf
            go_wp2
            go_meet
            exact ⟨by rw [HBT.out] <;> first | rfl | (simp; omega), rfl⟩
        · have HBT : Hid (betw ju fr n = false) := by show _ = _; simp [betw, j3]
          have e3 : (ju == 3) = false := by simpa using j3
          clear j3
          go_wp2
          go_meet
          exact ⟨by rw [HBT.out] <;> first | rfl | (simp; omega), rfl⟩
      case rest =>
      obtain ⟨rfl, rfl⟩ := hcut
      go_upto_if 79 with fail
      go_cut [13] (fun s13 wx => s13 = .slice (some ⟨B, 0, none⟩) n n ∧ OwnI wx B (exL ju fr n) ∧ Below B w wx)
      case first =>
        cases hbt : betw ju fr n with
        | false =>
          have HX : Hid (exL ju fr n = List.replicate n 0) := by show _ = _; unfold exL; rw [if_neg (by rw [hbt]; simp)]
          clear hbt
          go_wp2
          go_meet
          exact ⟨rfl, by rw [HX.out]; exact HMD.out, HBM.out⟩
        | true =>
          have HX : Hid (exL ju fr n = 0 :: shareParts fr (List.replicate (n - 1) 1)) := by show _ = _; unfold exL; rw [if_pos hbt]
          obtain ⟨hju, hf0, hn1⟩ := betw_iff.1 hbt
          clear hbt
          obtain ⟨p, hp⟩ : ∃ p, p + 1 = n := ⟨n - 1, by omega⟩
          have hnp : (n : Int) - 1 = (p : Int) := by omega
          have hn1' : (1 : Int) < (n : Int) := by omega
          have hpp : n - 1 = p := by omega
          obtain ⟨hP1, hP2, hP3⟩ := ones_parts (fr := fr) (m := n - 1) (by omega) (by omega) (by omega)
          rw [hpp] at hP1 hP2 hP3 HX
          obtain ⟨P, hPe⟩ : ∃ P, shareParts fr (List.replicate p 1) = P := ⟨_, rfl⟩
          have HPE := Lib.hid hPe
          rw [hPe] at hP1 hP2 HX
          have HP3 := Lib.hid hP3
          have HPL := Lib.hid hP1
          have HPN := Lib.hid hp
          have p1 : (1 : Int) ≤ (p : Int) := by omega
          have pn : (p : Int) ≤ 100 := by omega
          obtain ⟨W, rfl⟩ : ∃ x : World, x = wc := ⟨_, rfl⟩
          have hmp := make_ints p (by omega) W
          have HO1 : Hid (OwnI (W.alloc (.cells (madeCells #[.int .i64 0] p) 3)) W.heap.size (ones p 0)) := by
            show OwnI _ _ _
            unfold ones
            rw [fillTo_zero]; exact OwnI.made W p
          have HB1 : Hid (Below W.heap.size W (W.alloc (.cells (madeCells #[.int .i64 0] p) 3))) := (Below.refl _ _).alloc (Nat.le_refl _) _
          have HLT : Hid (B < W.heap.size) := HMD.out.lt
          obtain ⟨W2, hW2⟩ : ∃ W2, (W.alloc (.cells (madeCells #[.int .i64 0] p) 3)) = W2 := ⟨_, rfl⟩
          obtain ⟨B2, hB2⟩ : ∃ B, W.heap.size = B := ⟨_, rfl⟩
          have HB2Z := Lib.hid hB2
          rw [hW2, hB2] at HO1 HB1 hmp
          clear hW2 hB2 hPe hP1 hP2 hP3 hp hpp hju hmk
          go_wp2_with fail
          go_loopw [15] (fun i wr => ∃ k : Nat, k ≤ p ∧ i = .int .i64 k ∧ OwnI wr B2 (ones p k) ∧ Below B2 W wr) (fun i _ => p - (intOf i).toNat)
          case atStart => exact ⟨0, Nat.zero_le _, rfl, HO1.out, HB1.out⟩
          case round =>
            obtain ⟨k, hk2, rfl, hO, hB⟩ := hrel
            have HO := Lib.hid hO
            have HB := Lib.hid hB
            clear hO hB
            by_cases hkp : k < p
            · have hof := HO.out.cell (i := k) (by rw [ones_len]; exact hkp)
              have hfr := HO.out.free k
              have hkn' : (k : Int) < (p : Int) := by omega
              have hk0 : (0 : Int) ≤ (k : Int) := by omega
              have HO5 : Hid (OwnI (wr.setCell ⟨B2, k, none⟩ (.int .i64 1)) B2 (ones p (k + 1))) := by
                show OwnI _ _ _
                have e : (ones p k).set k 1 = ones p (k + 1) := fillTo_set (fun _ => (1 : Int)) hkp
                rw [← e]
                exact HO.out.set k _
              have HB5 : Hid (Below B2 W (wr.setCell ⟨B2, k, none⟩ (.int .i64 1))) := HB.out.setCell (p := ⟨B2, k, none⟩) (Nat.le_refl _) _
              go_wp2
              go_roundw
              case rel => exact ⟨k + 1, by omega, by go_num, HO5.out, HB5.out⟩
              case measure => simp [intOf]; omega
            · obtain rfl : p = k := by omega
              have hi : IsInts wr (.slice (some ⟨B2, 0, none⟩) p p) (List.replicate p 1) := by
                have h := HO.out
                rw [ones_all] at h
                have := h.isInts (by simp [maxLen]; omega)
                simp only [List.length_replicate] at this
                exact this
              have HI := Lib.hid hi
              have hne : ¬ n = 1 := by omega
              clear hi
              go_wp2_with fail
              refine (rshare_any _ _ (List.replicate p 1) _ HI.out).mono ?_
              rintro e w3 ⟨v3, rfl, hv3, hb3⟩
              rw [HPE.out] at hv3
              rw [HP3.out]
              obtain ⟨pa, pc, rfl, q1, q2, q3⟩ := hv3
              rw [HPL.out] at q1 q3 ⊢
              obtain ⟨pb, po, rfl, plt, pcell⟩ := q3 (by omega)
              have HB3 : Hid (Below B2 W w3) := HB.out.trans (hb3.mono (by have := HB.out.size; rw [HB2Z.out] at this; exact this))
              have HO3 : Hid (OwnI w3 B (List.replicate n 0)) := HMD.out.of_below HB3.out (by have := HLT.out; rw [HB2Z.out] at this; exact this)
              have HCF : Hid (CopyFit w3 B 1 (n - 1) pb po p (List.replicate n 0) P p) := ⟨HO3.out, pcell, by rw [HPL.out]; exact Nat.le_refl _, by simp [Nat.min_def]; have := HPN.out; omega, by simp; have := HPN.out; omega⟩
              have HBW : Hid (Below B w w3) := HBM.out.trans (HB3.out.mono (by have := HLT.out; rw [HB2Z.out] at this; omega))
              clear q3 pcell hb3
              go_wp2_with ((refine wpList_copy_ints (o := ⟨some 102, _, _, _, _, _⟩) rfl (.tmp 100) (.tmp 101) rfl B 1 (n - 1) (n - 1) pb po p pc (by rfl) (by rfl) (List.replicate n 0) P p HCF B w HBW.out (Nat.le_refl _) ?_; intro w4 HO4 HB4))
              have HO5 : Hid (OwnI w4 B (exL ju fr n)) := by
                have h := HO4.out
                rw [copy_cons HPN.out HPL.out] at h
                rw [HX.out]
                exact h
              go_meet
              exact ⟨rfl, HO5.out, HB4.out⟩
      case rest =>
        obtain ⟨rfl, hX, hbx⟩ := hcut
        obtain ⟨W3, rfl⟩ : ∃ x : World, x = wc := ⟨_, rfl⟩
        have HX3 := Lib.hid hX
        have HB3 := Lib.hid hbx
        clear hX hbx hmk HBM HMD
        go_upto_block 4 with fail
        go_cut [18] (fun s18 wx => s18 = .int .i64 (at0 ju fr) ∧ wx = W3)
        case first =>
          by_cases j1 : ju = 1
          · have e1 : (ju == 1) = true := by simp [j1]
            have HA0 : Hid (at0 ju fr = fr) := by show _ = _; simp [at0, j1]
            clear j1
            go_wp2
            go_meet
            exact ⟨by rw [HA0.out], rfl⟩
          · have e1 : (ju == 1) = false := by simpa using j1
            by_cases j2 : ju = 2
            · have e2 : (ju == 2) = true := by simp [j2]
              have HA0 : Hid (at0 ju fr = floorZ fr 2) := by show _ = _; simp [at0, j2]
              clear j1 j2
              go_wp2_with (go_at_call 36; refine (rFloor_any _ _ _).mono ?_; rintro e w' ⟨rfl, rfl⟩)
              go_meet
              exact ⟨by rw [HA0.out], rfl⟩
            · have e2 : (ju == 2) = false := by simpa using j2
              have HA0 : Hid (at0 ju fr = 0) := by show _ = _; simp [at0, j1, j2]
              clear j1 j2
              go_wp2
              go_meet
              exact ⟨by rw [HA0.out], rfl⟩
        case rest =>
          obtain ⟨rfl, rfl⟩ := hcut
          obtain ⟨W4, rfl⟩ : ∃ x : World, x = wc := ⟨_, rfl⟩
          have HXN : Hid (∀ k, k + 1 < n → gz (exL ju fr n) (k + 1) = gz (moreL ju fr n) k) := fun k hk => exL_next (fun hb => (ones_parts (fr := fr) (m := n - 1) (betw_iff.1 hb).2.1 (by omega) (by omega)).1) hk
          have HXL : Hid ((exL ju fr n).length = n) := by
            show _ = _
            unfold exL
            split
            · rename_i hb
              have := (ones_parts (fr := fr) (m := n - 1) (betw_iff.1 hb).2.1 (by omega) (by omega)).1
              have := (betw_iff.1 hb).2.2
              simp; omega
            · simp
          obtain ⟨X, hXe⟩ : ∃ X, exL ju fr n = X := ⟨_, rfl⟩
          obtain ⟨M, hMe⟩ : ∃ M, moreL ju fr n = M := ⟨_, rfl⟩
          obtain ⟨A0, hAe⟩ : ∃ A, at0 ju fr = A := ⟨_, rfl⟩
          rw [hXe] at HX3 HXN HXL
          rw [hMe] at HXN HMB HR
          rw [hAe] at HAB HR ⊢
          have HPB : Hid (∀ k, k ≤ n → -1073741824 ≤ posTo gp s M A0 k ∧ posTo gp s M A0 k ≤ 1073741824 + 2147483648 * (k : Int)) := fun k hk => posTo_bd HS.out ⟨g0, g1⟩ (fun k hk => HMB.out.2 k (by rw [← HN.out]; exact hk)) HAB.out k (by rw [HN.out]; exact hk)
          clear hXe hMe hAe
          have hmk := make_ints n (by omega) W4
          have HOL : Hid (OwnI (W4.alloc (.cells (madeCells #[.int .i64 0] n) 3)) W4.heap.size (fillTo (offAt av gp s M A0 right) n 0)) := by
            show OwnI _ _ _
            rw [fillTo_zero]; exact OwnI.made W4 n
          have HBL : Hid (Below W4.heap.size W4 (W4.alloc (.cells (madeCells #[.int .i64 0] n) 3))) := (Below.refl _ _).alloc (Nat.le_refl _) _
          have HLT : Hid (B < W4.heap.size) := HX3.out.lt
          obtain ⟨W5, hW5⟩ : ∃ W5, (W4.alloc (.cells (madeCells #[.int .i64 0] n) 3)) = W5 := ⟨_, rfl⟩
          obtain ⟨B5, hB5⟩ : ∃ B, W4.heap.size = B := ⟨_, rfl⟩
          have HB5Z := Lib.hid hB5
          rw [hW5, hB5] at HOL HBL hmk
          rw [hB5] at HLT
          clear hW5 hB5
          go_wp2_with fail
          clear hmk
          go_loopw [18, 20] (fun p i wr => ∃ k : Nat, k ≤ n ∧ i = .int .i64 k ∧ p = .int .i64 (rAt gp s M A0 k) ∧ OwnI wr B5 (fillTo (offAt av gp s M A0 right) n k) ∧ Below B5 W4 wr) (fun _ i _ => n - (intOf i).toNat)
          case atStart => exact ⟨0, Nat.zero_le _, rfl, rfl, HOL.out, HBL.out⟩
          case round =>
            obtain ⟨k, hk2, rfl, rfl, hO, hbl⟩ := hrel
            have HO := Lib.hid hO
            have HB := Lib.hid hbl
            clear hO hbl
            by_cases hkn2 : k < n
            · obtain ⟨b, off, rfl, hlt, hcell⟩ := H3.out (by omega)
              have HBW := Lib.hid (HB3.out.trans (HB.out.mono (Nat.le_of_lt HLT.out)))
              have hc := (HBW.out.cell (p := ⟨b, off + k, none⟩) (by rw [← HBZ.out]; exact hlt)).trans (hcell k hkn2)
              have hx := (HX3.out.of_below HB.out HLT.out).cell (i := k) (by rw [HXL.out]; exact hkn2)
              have hof := HO.out.cell (i := k) (by rw [fillTo_len]; exact hkn2)
              have hfr := HO.out.free k
              have hkn' : (k : Int) < (n : Int) := by omega
              have hk0 : (0 : Int) ≤ (k : Int) := by omega
              have zs := lensB_at HS.out (k := k) (by rw [HN.out]; exact hkn2)
              have pb := HPB.out k hk2
              have HRN : Hid (rAt gp s M A0 (k + 1) = posTo gp s M A0 k + gz s k) := Lib.hid rfl
              have HOF : Hid (offAt av gp s M A0 right k = if right then av - gz s k - posTo gp s M A0 k else posTo gp s M A0 k) := Lib.hid rfl
              obtain ⟨z, hz⟩ : ∃ z, gz s k = z := ⟨_, rfl⟩
              obtain ⟨P, hP⟩ : ∃ P, posTo gp s M A0 k = P := ⟨_, rfl⟩
              have HC : Hid (wr.cell? ⟨b, off + k, none⟩ = some (.int .i64 z)) := by show _ = _; rw [← hz]; exact hc
              have HZ := Lib.hid hz
              have HP := Lib.hid hP
              rw [hz, hP] at HRN HOF
              rw [hz] at hc zs
              rw [hP] at pb
              have HCX := Lib.hid hcell
              have HO5 : Hid (OwnI (wr.setCell ⟨B5, k, none⟩ (.int .i64 P)) B5 ((fillTo (offAt av gp s M A0 right) n k).set k P)) := HO.out.set k _
              have HB5 : Hid (Below B5 W4 (wr.setCell ⟨B5, k, none⟩ (.int .i64 P))) := HB.out.setCell (p := ⟨B5, k, none⟩) (Nat.le_refl _) _
              have HOFE : Hid (right = false → (fillTo (offAt av gp s M A0 right) n k).set k P = fillTo (offAt av gp s M A0 right) n (k + 1)) := by
                intro e
                rw [← fillTo_set _ hkn2, HOF.out, e]; rfl
              have HOTE : Hid (right = true → ((fillTo (offAt av gp s M A0 right) n k).set k P).set k (av - z - P) = fillTo (offAt av gp s M A0 right) n (k + 1)) := by
                intro e
                rw [← fillTo_set _ hkn2, HOF.out, e, List.set_set]; rfl
              obtain ⟨x, hxe⟩ : ∃ x, gz X k = x := ⟨_, rfl⟩
              have HXE := Lib.hid hxe
              rw [hxe] at hx
              clear hcell hz hP hxe
              have key : ∃ r, rAt gp s M A0 k = r ∧ (0 < k → r + (gp + x) = P ∧ (-10000000000 ≤ r ∧ r ≤ 1000000000000) ∧ (0 ≤ x ∧ x ≤ 1073741824)) ∧ (k = 0 → P = r) := by
                refine ⟨_, rfl, fun h0 => ?_, fun h0 => ?_⟩
                · obtain ⟨q, hq⟩ : ∃ q, q + 1 = k := ⟨k - 1, by omega⟩
                  have h1 := HXN.out q (by omega)
                  rw [hq, HXE.out] at h1
                  have xb : 0 ≤ x ∧ x ≤ 1073741824 := by
                    rw [h1]
                    exact HMB.out.2 q (by omega)
                  have hrP : rAt gp s M A0 k + (gp + x) = P := by
                    rw [← HP.out, h1, ← hq]
                    simp only [rAt, posTo]
                    omega
                  exact ⟨hrP, by omega, xb⟩
                · rw [← HP.out]; subst h0; rfl
              obtain ⟨r, hr, hr1, hr2⟩ := key
              have HR1 := Lib.hid hr1
              have HR2 := Lib.hid hr2
              rw [hr]
              clear hr hr1 hr2
              by_cases hk0' : 0 < k
              · obtain ⟨hrP, rb, xb⟩ := HR1.out hk0'
                have ew : IntKind.i64.wrap (r + (gp + x)) = P := by rw [IntWalk.i64_in _ (by omega)]; exact hrP
                cases hri : right with
                | false =>
                  go_upto_region 34 with fail
                  obtain ⟨W6, hW6⟩ : ∃ W6, (wr.setCell ⟨B5, k, none⟩ (.int .i64 P)) = W6 := ⟨_, rfl⟩
                  rw [hW6] at HO5 HB5 ⊢
                  rw [HOFE.out hri] at HO5
                  clear hW6 hc hx hof hfr
                  try clear hrP ew
                  have hc := (HB3.out.trans (HB5.out.mono (Nat.le_of_lt HLT.out))).cell (p := ⟨b, off + k, none⟩) (by rw [← HBZ.out]; exact hlt)
                  rw [HCX.out k hkn2, HZ.out] at hc
                  go_wp2
                  go_roundw
                  case rel => exact ⟨k + 1, by omega, by go_num, by rw [HRN.out], hri ▸ HO5.out, HB5.out⟩
                  case measure => simp [intOf]; omega
                | true =>
                  go_upto_region 34 with fail
                  obtain ⟨W6, hW6⟩ : ∃ W6, (wr.setCell ⟨B5, k, none⟩ (.int .i64 P)) = W6 := ⟨_, rfl⟩
                  rw [hW6] at HO5 HB5 ⊢
                  clear hW6 hc hx hof hfr
                  try clear hrP ew
                  have hc := (HB3.out.trans (HB5.out.mono (Nat.le_of_lt HLT.out))).cell (p := ⟨b, off + k, none⟩) (by rw [← HBZ.out]; exact hlt)
                  rw [HCX.out k hkn2, HZ.out] at hc
                  have hof := HO5.out.cell (i := k) (by rw [List.length_set, fillTo_len]; exact hkn2)
                  have hfr := HO5.out.free k
                  have HO7 : Hid (OwnI (W6.setCell ⟨B5, k, none⟩ (.int .i64 (av - z - P))) B5 (fillTo (offAt av gp s M A0 right) n (k + 1))) := by
                    have h := HO5.out.set k (av - z - P)
                    rw [HOTE.out hri] at h
                    exact h
                  have HB7 : Hid (Below B5 W4 (W6.setCell ⟨B5, k, none⟩ (.int .i64 (av - z - P)))) := HB5.out.setCell (p := ⟨B5, k, none⟩) (Nat.le_refl _) _
                  go_upto_region 36 with fail
                  obtain ⟨W7, hW7⟩ : ∃ W7, (W6.setCell ⟨B5, k, none⟩ (.int .i64 (av - z - P))) = W7 := ⟨_, rfl⟩
                  rw [hW7] at HO7 HB7 ⊢
                  clear hW7 hc hof hfr
                  have hc := (HB3.out.trans (HB7.out.mono (Nat.le_of_lt HLT.out))).cell (p := ⟨b, off + k, none⟩) (by rw [← HBZ.out]; exact hlt)
                  rw [HCX.out k hkn2, HZ.out] at hc
                  go_wp2
                  go_roundw
                  case rel => exact ⟨k + 1, by omega, by go_num, by rw [HRN.out], hri ▸ HO7.out, HB7.out⟩
                  case measure => simp [intOf]; omega
              · obtain rfl : P = r := HR2.out (by omega)
                cases hri : right with
                | false =>
                  go_upto_region 34 with fail
                  obtain ⟨W6, hW6⟩ : ∃ W6, (wr.setCell ⟨B5, k, none⟩ (.int .i64 P)) = W6 := ⟨_, rfl⟩
                  rw [hW6] at HO5 HB5 ⊢
                  rw [HOFE.out hri] at HO5
                  clear hW6 hc hx hof hfr
                  have hc := (HB3.out.trans (HB5.out.mono (Nat.le_of_lt HLT.out))).cell (p := ⟨b, off + k, none⟩) (by rw [← HBZ.out]; exact hlt)
                  rw [HCX.out k hkn2, HZ.out] at hc
                  go_wp2
                  go_roundw
                  case rel => exact ⟨k + 1, by omega, by go_num, by rw [HRN.out], hri ▸ HO5.out, HB5.out⟩
                  case measure => simp [intOf]; omega
                | true =>
                  go_upto_region 34 with fail
                  obtain ⟨W6, hW6⟩ : ∃ W6, (wr.setCell ⟨B5, k, none⟩ (.int .i64 P)) = W6 := ⟨_, rfl⟩
                  rw [hW6] at HO5 HB5 ⊢
                  clear hW6 hc hx hof hfr
                  have hc := (HB3.out.trans (HB5.out.mono (Nat.le_of_lt HLT.out))).cell (p := ⟨b, off + k, none⟩) (by rw [← HBZ.out]; exact hlt)
                  rw [HCX.out k hkn2, HZ.out] at hc
                  have hof := HO5.out.cell (i := k) (by rw [List.length_set, fillTo_len]; exact hkn2)
                  have hfr := HO5.out.free k
                  have HO7 : Hid (OwnI (W6.setCell ⟨B5, k, none⟩ (.int .i64 (av - z - P))) B5 (fillTo (offAt av gp s M A0 right) n (k + 1))) := by
                    have h := HO5.out.set k (av - z - P)
                    rw [HOTE.out hri] at h
                    exact h
                  have HB7 : Hid (Below B5 W4 (W6.setCell ⟨B5, k, none⟩ (.int .i64 (av - z - P)))) := HB5.out.setCell (p := ⟨B5, k, none⟩) (Nat.le_refl _) _
                  go_upto_region 36 with fail
                  obtain ⟨W7, hW7⟩ : ∃ W7, (W6.setCell ⟨B5, k, none⟩ (.int .i64 (av - z - P))) = W7 := ⟨_, rfl⟩
                  rw [hW7] at HO7 HB7 ⊢
                  clear hW7 hc hof hfr
                  have hc := (HB3.out.trans (HB7.out.mono (Nat.le_of_lt HLT.out))).cell (p := ⟨b, off + k, none⟩) (by rw [← HBZ.out]; exact hlt)
                  rw [HCX.out k hkn2, HZ.out] at hc
                  go_wp2
                  go_roundw
                  case rel => exact ⟨k + 1, by omega, by go_num, by rw [HRN.out], hri ▸ HO7.out, HB7.out⟩
                  case measure => simp [intOf]; omega
            · obtain rfl : n = k := by omega
              have hf : IsInts wr (.slice (some ⟨B5, 0, none⟩) n n) (offTo av gp s M A0 right n) := by
                have h := HO.out
                rw [fillTo_all] at h
                have := h.isInts (by simp [maxLen]; omega)
                simpa [offTo] using this
              have HF := Lib.hid hf
              clear hf
              go_wp2
              go_ret
              exact ⟨_, rfl, by rw [HR.out]; exact HF.out, by rw [HBZ.out]; exact HB3.out.trans (HB.out.mono (Nat.le_of_lt HLT.out))⟩
end Go.Proofs.Ythmdagffhanagaa

