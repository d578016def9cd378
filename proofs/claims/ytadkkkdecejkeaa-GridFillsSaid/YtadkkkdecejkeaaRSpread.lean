/- spread of the reference of package grid: the demand of an item that spans several tracks. Conditions: valid tracks and items, sizes below 2^27. -/
import Derived.Test.YtadkkkdecejkeaaSpread
import Derived.Test.YtadkkkdecejkeaaRefShare
namespace Go.Proofs.Ytadkkkdecejkeaa
open Go.RowKit
attribute [local go_sem ↓] Go.wp_at_zero Go.wp_at_succ
set_option linter.unusedVariables false
set_option linter.unusedSimpArgs false

/-- What is lacking when the first j tracks have been looked at. -/
def lkTo (gp : Int) (a : Nat) (want : Int) (s : List Int) (j : Nat) : Int := want - gp * ((j - 1 : Nat) : Int) - sumFrom s a j
theorem lkTo_zero (gp : Int) (a : Nat) (want : Int) (s : List Int) : lkTo gp a want s 0 = want := by simp [lkTo, sumFrom]
theorem lkTo_one (gp : Int) (a : Nat) (want : Int) (s : List Int) : lkTo gp a want s 1 = want - gz s a := by simp [lkTo, sumFrom]
theorem lkTo_succ (gp : Int) (a : Nat) (want : Int) (s : List Int) {j : Nat} (h : 0 < j) : lkTo gp a want s (j + 1) = lkTo gp a want s j - gz s (a + j) - gp := by
  obtain ⟨i, rfl⟩ : ∃ i, j = i + 1 := ⟨j - 1, by omega⟩
  unfold lkTo
  rw [show i + 1 + 1 - 1 = i + 1 from rfl, show i + 1 - 1 = i from rfl]
  have e : gp * ((i + 1 : Nat) : Int) = gp * (i : Int) + gp := by rw [Int.natCast_add, Int.mul_add]; simp
  rw [e]
  have : sumFrom s a (i + 1 + 1) = sumFrom s a (i + 1) + gz s (a + (i + 1)) := rfl
  omega
theorem lkTo_all {gp : Int} {a m : Nat} {want : Int} {s : List Int} (h : 1 ≤ m) : lkTo gp a want s m = lack gp a m want s := by
  unfold lkTo lack
  rw [show ((m - 1 : Nat) : Int) = (m : Int) - 1 by omega]
theorem lkTo_bd {gp : Int} {a m : Nat} {want : Int} {s : List Int} (hg : 0 ≤ gp ∧ gp ≤ 1048576) (hw : 0 ≤ want ∧ want ≤ 1048576) (hz : szTo s 134217728) (hm : m ≤ 24) (ham : a + m ≤ s.length) {j : Nat} (hj : j ≤ m) :
    -4294967296 ≤ lkTo gp a want s j ∧ lkTo gp a want s j ≤ want := by
  have h1 := sumFrom_bd hz (a := a) (m := j) (by omega)
  have h2 := mul_bd (a := gp) (b := ((j - 1 : Nat) : Int)) (m := 1048576) (k := 24) hg.1 (by omega) hg.2 (by omega)
  unfold lkTo
  omega
/-- The kind that grows, as far as seen. -/
def kdTo (l : List Rec) (a E k : Nat) : Int := if (opensTo (msk l 2 a E) k).length = 0 then (if (opensTo (msk l 1 a E) k).length = 0 then -1 else 1) else 2
section
variable {l : List Rec} {a E k : Nat}
theorem kdTo_start (h : a ≤ E) : kdTo l a E a = -1 := by
  unfold kdTo
  rw [msk_start l 2 h, msk_start l 1 h]; rfl
theorem open_hit {kd : Int} (ha : a ≤ k) (hk : k < E) (h : gf l k 0 = kd) : opensTo (msk l kd a E) (k + 1) = opensTo (msk l kd a E) k ++ [k] := opensTo_no (by rw [msk_in hk ha]; simpa using h)
theorem open_miss {kd : Int} (ha : a ≤ k) (hk : k < E) (h : gf l k 0 ≠ kd) : opensTo (msk l kd a E) (k + 1) = opensTo (msk l kd a E) k := opensTo_yes (by rw [msk_in hk ha]; simpa using h)
theorem kdTo_two (ha : a ≤ k) (hk : k < E) (h : gf l k 0 = 2) : kdTo l a E (k + 1) = 2 := by
  unfold kdTo
  rw [open_hit ha hk h, if_neg (by simp)]
theorem kdTo_one (ha : a ≤ k) (hk : k < E) (h : gf l k 0 = 1) : kdTo l a E (k + 1) = if kdTo l a E k < 0 then 1 else kdTo l a E k := by
  unfold kdTo
  rw [open_miss (kd := 2) ha hk (by omega), open_hit ha hk h]
  by_cases c : (opensTo (msk l 2 a E) k).length = 0
  · rw [if_pos c, if_neg (by simp), if_pos c]
    by_cases d : (opensTo (msk l 1 a E) k).length = 0
    · rw [if_pos d]; rfl
    · rw [if_neg d]; rfl
  · rw [if_neg c, if_neg c]; rfl
theorem kdTo_no (ha : a ≤ k) (hk : k < E) (h2 : gf l k 0 ≠ 2) (h1 : gf l k 0 ≠ 1) : kdTo l a E (k + 1) = kdTo l a E k := by
  unfold kdTo
  rw [open_miss ha hk h2, open_miss ha hk h1]
theorem kdTo_bd : kdTo l a E k = -1 ∨ kdTo l a E k = 1 ∨ kdTo l a E k = 2 := by
  unfold kdTo
  split
  · split <;> simp
  · simp
end
theorem kdTo_none {l : List Rec} {a m : Nat} (h : kdTo l a (a + m) (a + m) < 0) : (growSel l a m).length = 0 := by
  unfold kdTo at h
  split at h
  · split at h
    · rename_i h2 h1
      unfold growSel growK
      rw [if_pos (by rw [sel_eq]; exact h2), sel_eq]; exact h1
    · omega
  · omega
theorem kdTo_some {l : List Rec} {a m : Nat} (h : ¬ kdTo l a (a + m) (a + m) < 0) : kdTo l a (a + m) (a + m) = growK l a m := by
  unfold kdTo at h ⊢
  unfold growK
  rw [sel_eq]
  split
  · rename_i h2
    rw [if_pos h2] at h
    split
    · rename_i h1; rw [if_pos h1] at h; omega
    · rfl
  · rfl
theorem growSel_eq (l : List Rec) (a m : Nat) : growSel l a m = opensTo (msk l (growK l a m) a (a + m)) (a + m) := by unfold growSel; rw [sel_eq]
theorem uni_snoc (c : Nat) : uni (c + 1) = uni c ++ [1] := by unfold uni; rw [List.replicate_succ']

set_option maxHeartbeats 20000000 in
set_option maxRecDepth 100000 in
theorem rspread_any (b off cap n L a m : Nat) (gp q2 q3 want : Int) (l : List Rec) (s : List Int) (w : World)
    (hn : n ≤ 24) (hbL : b ≠ L) (hb : b < w.heap.size) (hO : OwnI w L s) (hs : s.length = n) (hz : szTo s 134217728) (hg : 0 ≤ gp ∧ gp ≤ 1048576) (hm : 1 ≤ m) (ham : a + m ≤ n) (hw : 0 ≤ want ∧ want ≤ 1048576)
    (hc : ∀ i, i < n → ∀ j, j < 2 → w.cell? ⟨b, off + i * 2 + j, none⟩ = some (.int .i64 (gf l i j))) :
    Calls Try.prog 49 #[.int .i64 gp, .slice (some ⟨b, off, none⟩) n cap, .agg #[.int .i64 a, .int .i64 m, .int .i64 q2, .int .i64 q3], .int .i64 want, .slice (some ⟨L, 0, none⟩) n n] w
      fun e w' => e = .returned (.tuple #[]) ∧ OwnI w' L (spr l gp a m want s) ∧ Turn L L w w' := by
  obtain ⟨i0, hi0, hz0, hz1, hz2⟩ := info_parts info_int1
  have HLB : Hid (∀ j, j ≤ m → -4294967296 ≤ lkTo gp a want s j ∧ lkTo gp a want s j ≤ want) := fun j hj => lkTo_bd hg hw hz (by omega) (by rw [hs]; exact ham) hj
  obtain ⟨X, hX⟩ : ∃ X, w.heap.size = X := ⟨_, rfl⟩
  have HX := Lib.hid hX
  have HLX : Hid (L < X) := by rw [← hX]; exact hO.lt
  have HBX : Hid (b < X) := by rw [← hX]; exact hb
  obtain ⟨D, hD⟩ : ∃ D, lack gp a m want s = D := ⟨_, rfl⟩
  have HD := Lib.hid hD
  have HDE : Hid (lkTo gp a want s m = D) := by show _ = _; rw [lkTo_all hm, hD]
  have HO := Lib.hid hO
  have HS := Lib.hid hs
  have HZ := Lib.hid hz
  have HC := Lib.hid hc
  obtain ⟨E, hE⟩ : ∃ E, a + m = E := ⟨_, rfl⟩
  have HE := Lib.hid hE
  have hw4 : IntKind.i64.wrap ((a : Int) + (m : Int)) = (E : Int) := by rw [IntWalk.i64_in _ (by omega), ← hE]; omega
  have hmn : (m : Int) ≤ 24 := by omega
  have ha0 : (0 : Int) ≤ (a : Int) := by omega
  have hEn : E ≤ n := by omega
  have ha1 : a ≤ E := by omega
  have hEa : E ≤ a + 24 := by omega
  have HEM : Hid (E - a = m) := by show _ = _; omega
  have HAM := Lib.hid ham
  clear hO hs hz hc hD hb hE ham
  go_enter Try.func49, Try.ntmps49
  go_wp2_with fail
  have HB0 : Hid (Below w.heap.size w (w.alloc (.cells #[.int .i64 a, .int .i64 m, .int .i64 q2, .int .i64 q3] 44))) := (Below.refl _ _).alloc (Nat.le_refl _) _
  have HX0 : Hid ((w.alloc (.cells #[.int .i64 a, .int .i64 m, .int .i64 q2, .int .i64 q3] 44)).cell? ⟨X, 0, none⟩ = some (.int .i64 a)) := by show _ = _; rw [← HX.out]; go_simp
  have HX1 : Hid ((w.alloc (.cells #[.int .i64 a, .int .i64 m, .int .i64 q2, .int .i64 q3] 44)).cell? ⟨X, 1, none⟩ = some (.int .i64 m)) := by show _ = _; rw [← HX.out]; go_simp
  have HH0 : Hid ((w.alloc (.cells #[.int .i64 a, .int .i64 m, .int .i64 q2, .int .i64 q3] 44)).heap.size = X + 1) := by show _ = _; rw [World.size_alloc, HX.out]
  have HO1 : Hid (OwnI (w.alloc (.cells #[.int .i64 a, .int .i64 m, .int .i64 q2, .int .i64 q3] 44)) L s) := HO.out.alloc _
  try rw [hX]
  obtain ⟨W1, hW1⟩ : ∃ W, w.alloc (.cells #[.int .i64 a, .int .i64 m, .int .i64 q2, .int .i64 q3] 44) = W := ⟨_, rfl⟩
  rw [hW1] at HB0 HX0 HX1 HH0 HO1 ⊢
  obtain ⟨H, hH⟩ : ∃ H, X + 1 = H := ⟨_, rfl⟩
  have HHX := Lib.hid hH
  have HH : Hid (W1.heap.size = H) := by show _ = _; rw [HH0.out, hH]
  have HCW : Hid (∀ i, i < n → ∀ j, j < 2 → W1.cell? ⟨b, off + i * 2 + j, none⟩ = some (.int .i64 (gf l i j))) := fun i hi j hj => (HB0.out.cell (p := ⟨b, off + i * 2 + j, none⟩) (by rw [HX.out]; exact HBX.out)).trans (HC.out i hi j hj)
  clear hW1 hX hH
  go_loopw [10, 11, 12] (fun dd kk ii wr => ∃ k : Nat, a ≤ k ∧ k ≤ E ∧ ii = .int .i64 k ∧ dd = .int .i64 (lkTo gp a want s (k - a)) ∧ kk = .int .i64 (kdTo l a E k) ∧ wr = W1) (fun _ _ ii _ => E - (intOf ii).toNat)
  case atStart => exact ⟨a, Nat.le_refl _, ha1, rfl, by rw [Nat.sub_self, lkTo_zero], by rw [kdTo_start ha1], rfl⟩
  case round =>
    obtain ⟨k, hak, hk, rfl, rfl, rfl, rfl⟩ := hrel
    obtain ⟨W1, rfl⟩ : ∃ x : World, x = wr := ⟨_, rfl⟩
    have hx0 := HX0.out
    have hx1 := HX1.out
    have hlb := HLB.out (k - a) (by have := HEM.out; omega)
    obtain ⟨K, hK⟩ : ∃ K, kdTo l a E k = K := ⟨_, rfl⟩
    have HK := Lib.hid hK
    obtain ⟨V, hV⟩ : ∃ V, lkTo gp a want s (k - a) = V := ⟨_, rfl⟩
    have HV := Lib.hid hV
    rw [hV] at hlb ⊢
    rw [hK]
    clear hV hK
    by_cases hkE : k < E
    ·
      as_aux_lemma =>
        have ck := HCW.out k (by omega) 0 (by omega)
        rw [Nat.add_zero] at ck
        have cs := HO1.out.cell (i := k) (by rw [HS.out]; omega)
        have hsz := HZ.out k (by rw [HS.out]; omega)
        have hkE' : (k : Int) < (E : Int) := by omega
        have hk0' : (0 : Int) ≤ (k : Int) := by omega
        have hkn : (k : Int) < (n : Int) := by omega
        have hkn2 : k < n := by omega
        have hlb1 := HLB.out (k + 1 - a) (by have := HEM.out; omega)
        obtain ⟨x, hx⟩ : ∃ x, gz s k = x := ⟨_, rfl⟩
        have HXX := Lib.hid hx
        rw [hx] at cs hsz
        obtain ⟨q, hq⟩ : ∃ q, gf l k 0 = q := ⟨_, rfl⟩
        have HQ := Lib.hid hq
        rw [hq] at ck
        have hw6 : IntKind.i64.wrap (V - x) = V - x := IntWalk.i64_in _ (by omega)
        clear hx hq
        obtain ⟨VN, hVN⟩ : ∃ VN, lkTo gp a want s (k + 1 - a) = VN := ⟨_, rfl⟩
        have HVN := Lib.hid hVN
        rw [hVN] at hlb1
        clear hVN
        by_cases hka : k = a
        · have HVE : Hid (VN = V - x) := by show _ = _; rw [← HVN.out, ← HV.out, ← HXX.out, hka, Nat.sub_self, lkTo_zero, show a + 1 - a = 1 by omega, lkTo_one]
          have e1 : ¬ (a : Int) < (k : Int) := by omega
          have e2 : ¬ a < k := by omega
          have e3 : decide ((a : Int) < (k : Int)) = false := by simpa using e1
          have e4 : decide (a < k) = false := by simpa using e2
          clear hka
          by_cases h2 : q = 2
          · obtain rfl := h2
            have HKN : Hid (kdTo l a E (k + 1) = 2) := kdTo_two hak hkE HQ.out
            go_wp2_with fail
            go_roundw
            case rel => exact ⟨k + 1, by omega, by omega, by go_num, by rw [HVN.out, HVE.out], by rw [HKN.out], by first | rfl | trivial⟩
            case measure => simp [intOf]; omega
          · by_cases h1 : q = 1
            · obtain rfl := h1
              by_cases hK0 : K < 0
              · have HKN : Hid (kdTo l a E (k + 1) = 1) := by show _ = _; rw [kdTo_one hak hkE HQ.out, HK.out, if_pos hK0]
                have d0 : decide (K < 0) = true := by simpa using hK0
                go_wp2_with fail
                go_roundw
                case rel => exact ⟨k + 1, by omega, by omega, by go_num, by rw [HVN.out, HVE.out], by rw [HKN.out], by first | rfl | trivial⟩
                case measure => simp [intOf]; omega
              · have HKN : Hid (kdTo l a E (k + 1) = K) := by show _ = _; rw [kdTo_one hak hkE HQ.out, HK.out, if_neg hK0]
                have d0 : decide (K < 0) = false := by simpa using hK0
                go_wp2_with fail
                go_roundw
                case rel => exact ⟨k + 1, by omega, by omega, by go_num, by rw [HVN.out, HVE.out], by rw [HKN.out], by first | rfl | trivial⟩
                case measure => simp [intOf]; omega
            · have HKN : Hid (kdTo l a E (k + 1) = K) := by show _ = _; rw [kdTo_no hak hkE (by rw [HQ.out]; exact h2) (by rw [HQ.out]; exact h1), HK.out]
              have d2 : (q == 2) = false := by simpa using h2
              have d1 : (q == 1) = false := by simpa using h1
              go_wp2_with fail
              go_roundw
              case rel => exact ⟨k + 1, by omega, by omega, by go_num, by rw [HVN.out, HVE.out], by rw [HKN.out], by first | rfl | trivial⟩
              case measure => simp [intOf]; omega
        · have HVE : Hid (VN = V - x - gp) := by show _ = _; rw [← HVN.out, ← HV.out, ← HXX.out, show k + 1 - a = (k - a) + 1 by omega, lkTo_succ _ _ _ _ (by omega), show a + (k - a) = k by omega]
          have hw7 : IntKind.i64.wrap (V - x - gp) = V - x - gp := IntWalk.i64_in _ (by have := HVE.out; omega)
          have e1 : (a : Int) < (k : Int) := by omega
          have e2 : a < k := by omega
          have e3 : decide ((a : Int) < (k : Int)) = true := by simpa using e1
          have e4 : decide (a < k) = true := by simpa using e2
          clear hka
          by_cases h2 : q = 2
          · obtain rfl := h2
            have HKN : Hid (kdTo l a E (k + 1) = 2) := kdTo_two hak hkE HQ.out
            go_wp2_with fail
            go_roundw
            case rel => exact ⟨k + 1, by omega, by omega, by go_num, by rw [HVN.out, HVE.out], by rw [HKN.out], by first | rfl | trivial⟩
            case measure => simp [intOf]; omega
          · by_cases h1 : q = 1
            · obtain rfl := h1
              by_cases hK0 : K < 0
              · have HKN : Hid (kdTo l a E (k + 1) = 1) := by show _ = _; rw [kdTo_one hak hkE HQ.out, HK.out, if_pos hK0]
                have d0 : decide (K < 0) = true := by simpa using hK0
                go_wp2_with fail
                go_roundw
                case rel => exact ⟨k + 1, by omega, by omega, by go_num, by rw [HVN.out, HVE.out], by rw [HKN.out], by first | rfl | trivial⟩
                case measure => simp [intOf]; omega
              · have HKN : Hid (kdTo l a E (k + 1) = K) := by show _ = _; rw [kdTo_one hak hkE HQ.out, HK.out, if_neg hK0]
                have d0 : decide (K < 0) = false := by simpa using hK0
                go_wp2_with fail
                go_roundw
                case rel => exact ⟨k + 1, by omega, by omega, by go_num, by rw [HVN.out, HVE.out], by rw [HKN.out], by first | rfl | trivial⟩
                case measure => simp [intOf]; omega
            · have HKN : Hid (kdTo l a E (k + 1) = K) := by show _ = _; rw [kdTo_no hak hkE (by rw [HQ.out]; exact h2) (by rw [HQ.out]; exact h1), HK.out]
              have d2 : (q == 2) = false := by simpa using h2
              have d1 : (q == 1) = false := by simpa using h1
              go_wp2_with fail
              go_roundw
              case rel => exact ⟨k + 1, by omega, by omega, by go_num, by rw [HVN.out, HVE.out], by rw [HKN.out], by first | rfl | trivial⟩
              case measure => simp [intOf]; omega
    · obtain rfl : k = E := by omega
      have HVD : Hid (V = D) := by show _ = _; rw [← HV.out, HEM.out]; exact HDE.out
      obtain rfl := HVD.out
      have HT1 : Hid (Turn L L w W1) := Turn.of_below HB0.out
      by_cases hd : V ≤ 0
      · have HSP : Hid (spr l gp a m want s = s) := by show _ = _; unfold spr; rw [HD.out, if_pos hd]
        have d0 : decide (V ≤ 0) = true := by simpa using hd
        go_wp2
        ((try simp only [Exit.inBlock, Exit.then]); refine bodyPost_ret (results_none rfl _ _ _) rfl ?_)
        exact ⟨rfl, by rw [HSP.out]; exact HO1.out, HT1.out⟩
      have d0 : decide (V ≤ 0) = false := by simpa using hd
      by_cases hK0 : K < 0
      · have HSP : Hid (spr l gp a m want s = s) := by
          show _ = _
          unfold spr
          rw [HD.out, if_neg hd, kdTo_none (by rw [HE.out, HK.out]; exact hK0)]
          rfl
        have d1 : decide (K < 0) = true := by simpa using hK0
        go_wp2
        ((try simp only [Exit.inBlock, Exit.then]); refine bodyPost_ret (results_none rfl _ _ _) rfl ?_)
        exact ⟨rfl, by rw [HSP.out]; exact HO1.out, HT1.out⟩
      have d1 : decide (K < 0) = false := by simpa using hK0
      have HKG : Hid (growK l a m = K) := by
        show _ = _
        rw [← kdTo_some (l := l) (a := a) (m := m) (by rw [HE.out, HK.out]; exact hK0), HE.out, HK.out]
      obtain ⟨f, hf⟩ : ∃ f, msk l K a k = f := ⟨_, rfl⟩
      have HF := Lib.hid hf
      have HGS : Hid (growSel l a m = opensTo f k) := by show _ = _; rw [growSel_eq, HKG.out, HE.out, hf]
      have HST : Hid (opensTo f a = []) := by show _ = _; rw [← hf]; exact msk_start l _ ha1
      have HMK : Hid (∀ i, a ≤ i → i < k → gb f i = decide (gf l i 0 ≠ K)) := fun i hi h2 => by rw [← hf]; exact msk_in h2 hi
      have HLE : Hid (∀ i, a ≤ i → i ≤ k → (opensTo f i).length ≤ 24) := fun i hi h2 => by
        rw [← hf]
        have h := sel_le2 l K ha1 (i - a) (by omega)
        rw [show a + (i - a) = i by omega] at h
        omega
      have HSP : Hid (spr l gp a m want s = addAt s (growSel l a m) (shareParts V (uni (growSel l a m).length)) (growSel l a m).length) := by show _ = _; unfold spr; rw [HD.out, if_neg hd]
      have hd0 : 0 < V := by omega
      clear hf
      go_wp2_with fail
      clear hx0 hx1
      go_loopw [13, 14] (fun op ii wx => ∃ i : Nat, a ≤ i ∧ i ≤ k ∧ ii = .int .i64 i ∧ wx.ownsRow H 3 1 op (opensTo f i).length ((uni (opensTo f i).length).map (Value.int .i64)) ∧ Below H W1 wx) (fun _ ii _ => k - (intOf ii).toNat)
      case atStart => exact ⟨a, Nat.le_refl _, ha1, rfl, by rw [HST.out]; exact World.ownsRow_nil _ _ _ _, Below.refl _ _⟩
      case round =>
        obtain ⟨i, hai, hik, rfl, hop, hbx⟩ := hrel
        have HBx := Lib.hid hbx
        have c0 := (hbx.cell (p := ⟨X, 0, none⟩) (by have := HHX.out; show X < H; omega)).trans HX0.out
        have c1 := (hbx.cell (p := ⟨X, 1, none⟩) (by have := HHX.out; show X < H; omega)).trans HX1.out
        obtain ⟨wx, rfl⟩ : ∃ x : World, x = wr := ⟨_, rfl⟩
        obtain ⟨c, hcl⟩ : ∃ c, (opensTo f i).length = c := ⟨_, rfl⟩
        obtain ⟨OM, hOM⟩ : ∃ O, (uni c).map (Value.int .i64) = O := ⟨_, rfl⟩
        have hci := HLE.out i hai hik
        rw [hcl] at hci hop
        rw [hOM] at hop
        have HO0 := Lib.hid hop
        have HCL := Lib.hid hcl
        have HOM := Lib.hid hOM
        clear hop hbx hcl hOM
        by_cases hiE : i < k
        ·
          as_aux_lemma =>
            have ck := (HBx.out.cell (p := ⟨b, off + i * 2 + 0, none⟩) (by have := HHX.out; have := HBX.out; show b < H; omega)).trans (HCW.out i (by omega) 0 (by omega))
            rw [Nat.add_zero] at ck
            have hgk := HMK.out i hai hiE
            obtain ⟨k0, hk0⟩ : ∃ q, gf l i 0 = q := ⟨_, rfl⟩
            rw [hk0] at ck hgk
            have hkE' : (i : Int) < (k : Int) := by omega
            have hk0' : (0 : Int) ≤ (i : Int) := by omega
            have hkn : (i : Int) < (n : Int) := by omega
            have hkn2 : i < n := by omega
            clear hk0
            by_cases hkd : k0 = K
            · obtain rfl := hkd
              have HON : Hid (opensTo f (i + 1) = opensTo f i ++ [i]) := opensTo_no (by rw [hgk]; simp)
              clear hgk
              go_wp2_with (at_builtin; refine wpList_append_lies _ rfl _ _ 26 rfl H 3 i0 _ 1 8 Try.underlying26 hi0 hz0 hz1 hz2 rfl (by omega) _ c OM rfl (HO0.out.alloc _) ⟨wx.heap.size, 0, none⟩ 1 1 [.int .i64 1] rfl rfl (World.news_of_block (cs := #[.int .i64 1]) (t := 3) (fr := (0, 0)) (heap_alloc_new wx _)) (by simp [Value.oneCell']) (by omega) (by unfold maxLen; omega) (by omega) (by have := HBx.out.size; have := HH.out; simp; omega) _ rfl ?_; intro gg cap' w6 hown6 hgrow6 hat6 hlt6; have HOW6 := Lib.hid hown6; have HB6 : Hid (Below H W1 w6) := (HBx.out.alloc (by have := HBx.out.size; have := HH.out; omega) _).grown hgrow6 (by have := HBx.out.size; have := HH.out; simp; omega) (fun q hq => (HO0.out.lt q hq).1); clear hown6 hgrow6 hat6 hlt6)
              go_roundw
              case rel => exact ⟨i + 1, by omega, by omega, by go_num, by rw [HON.out, List.length_append, HCL.out, List.length_singleton, uni_snoc, List.map_append, HOM.out]; exact HOW6.out, HB6.out⟩
              case measure => simp [intOf]; omega
            · have HON : Hid (opensTo f (i + 1) = opensTo f i) := opensTo_yes (by rw [hgk]; simp [hkd])
              have e0 : (k0 == K) = false := by simp [hkd]
              clear hgk hkd
              go_wp2_with fail
              go_roundw
              case rel => exact ⟨i + 1, by omega, by omega, by go_num, by rw [HON.out, HCL.out, HOM.out]; exact HO0.out, HBx.out⟩
              case measure => simp [intOf]; omega
        · obtain rfl : i = k := by omega
          as_aux_lemma =>
            have hc24 : c ≤ 24 := by omega
            obtain ⟨oa, oc, hoe⟩ := own_form HO0.out
            subst hoe
            have HI3 : Hid (IsInts wx (.slice oa c oc) (uni c)) := by
              have h := HO0.out
              rw [← HOM.out] at h
              have hl : (uni c).length = c := uni_len c
              have h2 : wx.ownsRow H 3 1 (.slice oa c oc) (uni c).length ((uni c).map (Value.int .i64)) := by rw [hl]; exact h
              exact ownsRow_isInts h2
            go_wp2_with fail
            refine (rshare_new _ V (uni c) _ HI3.out).mono ?_
            rintro e w4 ⟨v4, rfl, hv4, hb4, hf4⟩
            have HF4 := Lib.hid hf4
            have HB4 : Hid (Below H W1 w4) := HBx.out.trans (hb4.mono (by have := HBx.out.size; have := HH.out; omega))
            obtain ⟨hpe, hpl, hpb⟩ := uni_parts (d := V) (m := c) (by omega) (by omega) (by omega)
            obtain ⟨P, hP⟩ : ∃ P, shareParts V (uni c) = P := ⟨_, rfl⟩
            rw [hP] at hv4 hpl hpb
            rw [hpe]
            obtain ⟨pa, pc, rfl, p1, p2, p3⟩ := hv4
            rw [hpl] at p1 p3 ⊢
            have P3 := Lib.hid p3
            have HPB := Lib.hid hpb
            have HP := Lib.hid hP
            have HO4 : Hid (OwnI w4 L s) := HO1.out.of_below HB4.out (by have := HHX.out; have := HLX.out; omega)
            have HT4 : Hid (Turn L L w w4) := HT1.out.trans (Turn.of_below (by rw [HH.out]; exact HB4.out))
            have HGL : Hid ((growSel l a m).length = c) := by show _ = _; rw [HGS.out, HCL.out]
            have HAB : Hid (∀ k, k ≤ c → szTo (addAt s (growSel l a m) P k) (134217728 + V)) := fun k hk => addAt_bd HZ.out (by rw [HS.out]; exact HAM.out) (by omega) (by rw [HGL.out]; exact HPB.out) k (by rw [HGL.out]; exact hk)
            have HFIN : Hid (addAt s (growSel l a m) P c = spr l gp a m want s) := by show _ = _; rw [HSP.out, HGL.out, HP.out]
            have HWX : Hid (H ≤ wx.heap.size) := by have := HBx.out.size; have := HH.out; show _ ≤ _; omega
            have HRK : Hid (∀ i2, i2 < i → gb f i2 = false → (opensTo f i2).length < c ∧ gn (growSel l a m) (opensTo f i2).length = i2) := fun i2 h2 hg2 => by
              have := opensTo_rank (f := f) (m := i) h2 hg2
              rw [HCL.out] at this
              rw [HGS.out]; exact this
            have x0 := (HB4.out.cell (p := ⟨X, 0, none⟩) (by have := HHX.out; show X < H; omega)).trans HX0.out
            clear hpe hpl hpb hP p1 p2 p3 HI3 HO0 HBx hb4 hf4 c0 c1
            go_wp2_with fail
            clear x0
            obtain ⟨w5, rfl⟩ : ∃ x : World, x = w4 := ⟨_, rfl⟩
            go_loopw [17, 18] (fun nn ii wr => ∃ j : Nat, a ≤ j ∧ j ≤ i ∧ ii = .int .i64 j ∧ nn = .int .i64 ((opensTo f j).length : Nat) ∧ OwnI wr L (addAt s (growSel l a m) P (opensTo f j).length) ∧ Turn L L w5 wr) (fun _ ii _ => i - (intOf ii).toNat)
            case atStart => exact ⟨a, Nat.le_refl _, ha1, rfl, by rw [HST.out]; rfl, by rw [HST.out]; exact HO4.out, Turn.of_below (Below.refl _ _)⟩
            case round =>
              obtain ⟨j, haj, hj, rfl, rfl, hoj, htj⟩ := hrel
              have HOJ := Lib.hid hoj
              have HTJ := Lib.hid htj
              clear hoj htj
              have HXB : Hid (X < w5.heap.size ∧ b < w5.heap.size ∧ X ≠ L) := by have := HB4.out.size; have := HH.out; have := HHX.out; have := HBX.out; have := HLX.out; exact ⟨by omega, by omega, by omega⟩
              have x0 := (HTJ.out.cell (p := ⟨X, 0, none⟩) HXB.out.1 HXB.out.2.2 HXB.out.2.2).trans ((HB4.out.cell (p := ⟨X, 0, none⟩) (by have := HHX.out; show X < H; omega)).trans HX0.out)
              have x1 := (HTJ.out.cell (p := ⟨X, 1, none⟩) HXB.out.1 HXB.out.2.2 HXB.out.2.2).trans ((HB4.out.cell (p := ⟨X, 1, none⟩) (by have := HHX.out; show X < H; omega)).trans HX1.out)
              obtain ⟨r, hr⟩ : ∃ r, (opensTo f j).length = r := ⟨_, rfl⟩
              have HR := Lib.hid hr
              rw [hr] at HOJ ⊢
              clear hr
              by_cases hjc : j < i
              ·
                as_aux_lemma =>
                  have ck := (HTJ.out.cell (p := ⟨b, off + j * 2 + 0, none⟩) HXB.out.2.1 hbL hbL).trans ((HB4.out.cell (p := ⟨b, off + j * 2 + 0, none⟩) (by have := HHX.out; have := HBX.out; show b < H; omega)).trans (HCW.out j (by omega) 0 (by omega)))
                  rw [Nat.add_zero] at ck
                  have hgk := HMK.out j haj hjc
                  obtain ⟨k0, hk0⟩ : ∃ q, gf l j 0 = q := ⟨_, rfl⟩
                  rw [hk0] at ck hgk
                  have hkE' : (j : Int) < (i : Int) := by omega
                  have hk0' : (0 : Int) ≤ (j : Int) := by omega
                  have hkn : (j : Int) < (n : Int) := by omega
                  have hkn2 : j < n := by omega
                  clear hk0
                  by_cases hkd : k0 = K
                  · obtain rfl := hkd
                    have hgf : gb f j = false := by rw [hgk]; simp
                    obtain ⟨hrc, hgn⟩ := HRK.out j hjc hgf
                    rw [HR.out] at hrc hgn
                    have HON : Hid ((opensTo f (j + 1)).length = r + 1) := by show _ = _; rw [opensTo_no hgf, List.length_append, HR.out]; rfl
                    clear hgk hgf
                    obtain ⟨pb, po, hpa, hplt, hpcell⟩ := P3.out (by omega)
                    subst hpa
                    have HPL : Hid (pb ≠ L) := by have h1 : wx.heap.size ≤ pb := HF4.out _ _ _ rfl; have h2 := HWX.out; have h4 := HHX.out; have h5 := HLX.out; show pb ≠ L; omega
                    have cp := (HTJ.out.cell (p := ⟨pb, po + r, none⟩) hplt HPL.out HPL.out).trans (hpcell r hrc)
                    have hpj := HPB.out r hrc
                    have HAN : Hid (addAt s (growSel l a m) P (r + 1) = (addAt s (growSel l a m) P r).set j (gz (addAt s (growSel l a m) P r) j + gz P r)) := by
                      show _ = _
                      have e : addAt s (growSel l a m) P (r + 1) = (addAt s (growSel l a m) P r).set (gn (growSel l a m) r) (gz (addAt s (growSel l a m) P r) (gn (growSel l a m) r) + gz P r) := rfl
                      rw [e, hgn]
                    have hlen : (addAt s (growSel l a m) P r).length = n := by rw [addAt_len, HS.out]
                    have cs := HOJ.out.cell (i := j) (by rw [hlen]; exact hkn2)
                    have fs := HOJ.out.free j
                    have hsb := HAB.out r (by omega) j (by rw [hlen]; exact hkn2)
                    obtain ⟨x, hx⟩ : ∃ x, gz (addAt s (growSel l a m) P r) j = x := ⟨_, rfl⟩
                    obtain ⟨p, hp⟩ : ∃ p, gz P r = p := ⟨_, rfl⟩
                    rw [hx] at cs hsb HAN
                    rw [hp] at cp hpj HAN
                    have hr0 : (0 : Int) ≤ (r : Int) := by omega
                    have hrc' : (r : Int) < (c : Int) := by omega
                    have hwx : IntKind.i64.wrap (x + p) = x + p := IntWalk.i64_in _ (by omega)
                    have HO5 : Hid (OwnI (wr.setCell ⟨L, j, none⟩ (.int .i64 (x + p))) L (addAt s (growSel l a m) P (r + 1))) := by
                      show OwnI _ _ _
                      rw [HAN.out]; exact HOJ.out.set j _
                    have HT5 : Hid (Turn L L w5 (wr.setCell ⟨L, j, none⟩ (.int .i64 (x + p)))) := HTJ.out.trans (Turn.set wr (.inl rfl) j _)
                    clear hx hp hpj hsb hlen hgn hpcell hplt
                    go_wp2_with fail
                    go_region
                    all_goals
                      have zx0 : (wr.setCell ⟨L, j, none⟩ (.int .i64 (x + p))).cell? ⟨X, 0, none⟩ = some (.int .i64 a) := (HT5.out.cell (p := ⟨X, 0, none⟩) HXB.out.1 HXB.out.2.2 HXB.out.2.2).trans ((HB4.out.cell (p := ⟨X, 0, none⟩) (by have := HHX.out; show X < H; omega)).trans HX0.out)
                      go_wp2
                      go_roundw
                      case rel => exact ⟨j + 1, by omega, by omega, by go_num, by rw [HON.out]; go_num, by rw [HON.out]; exact HO5.out, HT5.out.drew⟩
                      case measure => simp [intOf]; omega
                  · have HON : Hid ((opensTo f (j + 1)).length = r) := by show _ = _; rw [opensTo_yes (by rw [hgk]; simp [hkd])]; exact HR.out
                    have e0 : (k0 == K) = false := by simp [hkd]
                    clear hgk hkd
                    go_wp2_with fail
                    go_roundw
                    case rel => exact ⟨j + 1, by omega, by omega, by go_num, by rw [HON.out], by rw [HON.out]; exact HOJ.out, HTJ.out⟩
                    case measure => simp [intOf]; omega
              · obtain rfl : j = i := by omega
                have HRC : Hid (r = c) := by show _ = _; rw [← HR.out, HCL.out]
                go_wp2
                go_end0
                exact ⟨rfl, by rw [← HFIN.out, ← HRC.out]; exact HOJ.out, HT4.out.trans HTJ.out⟩
end Go.Proofs.Ytadkkkdecejkeaa

