/- spread of package grid: the demand of an item that spans several tracks. Conditions: valid tracks and items, sizes below 2^27. -/
import Derived.Test.YtadkkkdecejkeaaTrkPlain
import Derived.Test.YtadkkkdecejkeaaDem
import Derived.Test.YtadkkkdecejkeaaBoxStep
import Derived.Test.YtadkkkdecejkeaaRepeat
namespace Go.Proofs.Ytadkkkdecejkeaa
open Go.RowKit
attribute [local go_sem ↓] Go.wp_at_zero Go.wp_at_succ
set_option linter.unusedVariables false
set_option linter.unusedSimpArgs false

theorem sub_sum {s : List Int} {a : Nat} : ∀ {m : Nat} (M : Nat), m ≤ M → sumTo ((s.drop a).take M) m = sumFrom s a m
  | 0, _, _ => rfl
  | m + 1, M, h => by
    have e : gz ((s.drop a).take M) m = gz s (a + m) := by
      have hm : m < M := by omega
      simp [gz, List.getElem?_take, hm]
    simp only [sumTo, sumFrom, sub_sum (m := m) M (by omega), e]
theorem OwnI.sub {w : World} {L : Nat} {s : List Int} (h : OwnI w L s) {a m c : Nat} (hm : a + m ≤ s.length) (hc : m ≤ c) (hcm : c ≤ maxLen) : IsInts w (.slice (some ⟨L, a, none⟩) m c) ((s.drop a).take m) := by
  have e : ((s.drop a).take m).length = m := by simp; omega
  refine ⟨some ⟨L, a, none⟩, c, by rw [e], by omega, hcm, fun _ => ⟨L, a, rfl, h.lt, fun i hi => ?_⟩⟩
  rw [e] at hi
  rw [h.cell (by omega)]
  simp [gz, List.getElem?_take, hi]
theorem one_ints {w : World} {g : Nat} (h : w.heap[g]? = some (.cells #[.int .i64 1] 3 (0, 0))) : IsInts w (.slice (some ⟨g, 0, none⟩) 1 1) [1] := by
  have : OwnI w g [1] := h
  exact this.isInts (by unfold maxLen; simp)

set_option maxHeartbeats 20000000 in
set_option maxRecDepth 100000 in
theorem spread_any (b off cap n L a m : Nat) (gp q2 q3 want : Int) (l : List Rec) (s : List Int) (w : World)
    (hn : n ≤ 24) (hbL : b ≠ L) (hb : b < w.heap.size) (hO : OwnI w L s) (hs : s.length = n) (hz : szTo s 134217728) (hg : 0 ≤ gp ∧ gp ≤ 1048576) (hm : 1 ≤ m) (ham : a + m ≤ n) (hw : 0 ≤ want ∧ want ≤ 1048576)
    (hc : ∀ i, i < n → ∀ j, j < 2 → w.cell? ⟨b, off + i * 2 + j, none⟩ = some (.int .i64 (gf l i j))) :
    Calls Try.prog 43 #[.int .i64 gp, .slice (some ⟨b, off, none⟩) n cap, .slice (some ⟨L, 0, none⟩) n n, .agg #[.int .i64 a, .int .i64 m, .int .i64 q2, .int .i64 q3], .int .i64 want] w
      fun e w' => e = .returned (.tuple #[]) ∧ OwnI w' L (spr l gp a m want s) ∧ Turn L L w w' := by
  obtain ⟨i0, hi0, hz0, hz1, hz2⟩ := info_parts info_int1
  have hgb := gap_bd (gp := gp) (m := m) hg hm (by omega)
  have hlb := lack_bd hg hm (by omega) hw hz (by omega) (by rw [hs]; exact ham)
  have HSB : Hid (∀ k, k ≤ m → 0 ≤ sumFrom s a k ∧ sumFrom s a k ≤ 134217728 * (k : Int)) := fun k hk => sumFrom_bd hz (by rw [hs]; omega)
  have hsb := HSB.out m (Nat.le_refl _)
  obtain ⟨X, hX⟩ : ∃ X, w.heap.size = X := ⟨_, rfl⟩
  have HX := Lib.hid hX
  have HLX : Hid (L < X) := by rw [← hX]; exact hO.lt
  have HBX : Hid (b < X) := by rw [← hX]; exact hb
  obtain ⟨D, hD⟩ : ∃ D, lack gp a m want s = D := ⟨_, rfl⟩
  obtain ⟨sm, hsm⟩ : ∃ x, sumFrom s a m = x := ⟨_, rfl⟩
  obtain ⟨gm, hgm⟩ : ∃ x, gp * ((m : Int) - 1) = x := ⟨_, rfl⟩
  have hDe : want - gm - sm = D := by rw [← hD, ← hsm, ← hgm]; rfl
  rw [hD] at hlb
  rw [hsm] at hsb
  rw [hgm] at hgb
  have HD := Lib.hid hD
  have HO := Lib.hid hO
  have HS := Lib.hid hs
  have HZ := Lib.hid hz
  have HC := Lib.hid hc
  have HSUM : Hid (∀ W, OwnI W L s → Calls Try.prog 30 #[.slice (some ⟨L, a, none⟩) m (n - a)] W fun e w' => e = .returned (.int .i64 sm) ∧ W = w') := fun W hW => by
    have e : ((s.drop a).take m).length = m := by simp; omega
    have h := gsum_any (.slice (some ⟨L, a, none⟩) m (n - a)) ((s.drop a).take m) W (hW.sub (by omega) (by omega) (by unfold maxLen; omega)) (fun k hk => by
      rw [e] at hk
      rw [sub_sum m hk]
      have := HSB.out k hk
      omega)
    rw [e, sub_sum m (Nat.le_refl _), hsm] at h
    exact h
  have hw1 : IntKind.i64.wrap ((m : Int) - 1) = (m : Int) - 1 := IntWalk.i64_in _ (by omega)
  have hw2 : IntKind.i64.wrap (gp * ((m : Int) - 1)) = gm := by rw [hgm]; exact IntWalk.i64_in _ (by omega)
  have hw3 : IntKind.i64.wrap (want - gm) = want - gm := IntWalk.i64_in _ (by omega)
  obtain ⟨E, hE⟩ : ∃ E, a + m = E := ⟨_, rfl⟩
  have HE := Lib.hid hE
  have hw4 : IntKind.i64.wrap ((a : Int) + (m : Int)) = ((a + m : Nat) : Int) := by rw [IntWalk.i64_in _ (by omega)]; omega
  have HW4 : Hid (IntKind.i64.wrap ((a : Int) + (m : Int)) = (E : Int)) := by show _ = _; rw [hw4, hE]
  have han : a + m ≤ n := ham
  have hw5 : IntKind.i64.wrap (want - gm - sm) = D := by rw [hDe]; exact IntWalk.i64_in _ (by omega)
  have hmn : (m : Int) ≤ 24 := by omega
  have ha0 : (0 : Int) ≤ (a : Int) := by omega
  have hEn : E ≤ n := by omega
  have ha1 : a ≤ E := by omega
  have hEa : E ≤ a + 24 := by omega
  have HAM := Lib.hid ham
  clear hO hs hz hc hD hsm hgm hDe hb hE ham
  go_enter Try.func43, Try.ntmps43
  go_upto_region 1 with fail
  have hX0 : (w.alloc (.cells #[.int .i64 a, .int .i64 m, .int .i64 q2, .int .i64 q3] 44)).cell? ⟨X, 0, none⟩ = some (.int .i64 a) := by rw [← HX.out]; go_simp
  have hX1 : (w.alloc (.cells #[.int .i64 a, .int .i64 m, .int .i64 q2, .int .i64 q3] 44)).cell? ⟨X, 1, none⟩ = some (.int .i64 m) := by rw [← HX.out]; go_simp
  have HB0 : Hid (Below w.heap.size w (w.alloc (.cells #[.int .i64 a, .int .i64 m, .int .i64 q2, .int .i64 q3] 44))) := (Below.refl _ _).alloc (Nat.le_refl _) _
  have HH0 : Hid ((w.alloc (.cells #[.int .i64 a, .int .i64 m, .int .i64 q2, .int .i64 q3] 44)).heap.size = X + 1) := by show _ = _; rw [World.size_alloc, HX.out]
  have HO1 : Hid (OwnI (w.alloc (.cells #[.int .i64 a, .int .i64 m, .int .i64 q2, .int .i64 q3] 44)) L s) := HO.out.alloc _
  try rw [hX]
  obtain ⟨W1, hW1⟩ : ∃ W, w.alloc (.cells #[.int .i64 a, .int .i64 m, .int .i64 q2, .int .i64 q3] 44) = W := ⟨_, rfl⟩
  rw [hW1] at hX0 hX1 HB0 HH0 HO1 ⊢
  have HX0 := Lib.hid hX0
  have HX1 := Lib.hid hX1
  clear hW1 hX
  by_cases hd : D ≤ 0
  · have HSP : Hid (spr l gp a m want s = s) := by show _ = _; unfold spr; rw [HD.out, if_pos hd]
    go_quiet ((go_at_call 30; exact Calls.quiet_of_same (same_symm (HSUM.out _ HO1.out))))
    go_wp2
    ((try simp only [Exit.inBlock, Exit.then]); refine bodyPost_ret (results_none rfl _ _ _) rfl ?_)
    exact ⟨rfl, by rw [HSP.out]; exact HO1.out, (Turn.of_below HB0.out).drewN _⟩
  have hd0 : 0 < D := by omega
  obtain ⟨H, hH⟩ : ∃ H, X + 1 = H := ⟨_, rfl⟩
  have HHX := Lib.hid hH
  have HH : Hid (W1.heap.size = H) := by show _ = _; rw [HH0.out, hH]
  have HSP : Hid (spr l gp a m want s = addAt s (growSel l a m) (shareParts D (uni (growSel l a m).length)) (growSel l a m).length) := by show _ = _; unfold spr; rw [HD.out, if_neg hd]
  clear hH
  go_quiet ((go_at_call 30; exact Calls.quiet_of_same (same_symm (HSUM.out _ HO1.out))))
  clear hw1 hw2 hw3 hw4 hw5 hX0 hX1 hsb hgb han
  have hw4 := HW4.out
  go_wp2_with fail
  go_loopw [40] (fun i wr => Below H W1 wr ∧ (i = .int .i64 0 ∨ (i = .int .i64 1 ∧ (sel l 2 a E).length = 0) ∨ (i = .int .i64 2 ∧ (sel l 2 a E).length = 0 ∧ (sel l 1 a E).length = 0))) (fun i _ => 2 - (intOf i).toNat)
  case atStart => exact ⟨Below_drewN (Below.refl _ _) _, .inl rfl⟩
  case round =>
    obtain ⟨hbl, hcase⟩ := hrel
    have HB := Lib.hid hbl
    clear hbl
    obtain ⟨wo, rfl⟩ : ∃ x : World, x = wr := ⟨_, rfl⟩
    obtain rfl | ⟨rfl, hq0⟩ | ⟨rfl, hq0, hq1⟩ := hcase
    · skip
      as_aux_lemma =>
        obtain ⟨f, hf⟩ : ∃ f, msk l 2 a E = f := ⟨_, rfl⟩
        have HF := Lib.hid hf
        have HSE : Hid (sel l 2 a E = opensTo f E) := by show _ = _; rw [sel_eq, hf]
        have HST : Hid (opensTo f a = []) := by show _ = _; rw [← hf]; exact msk_start l _ ha1
        have HMK : Hid (∀ k, a ≤ k → k < E → gb f k = decide (gf l k 0 ≠ 2)) := fun k hk hi => by rw [← hf]; exact msk_in hi hk
        have HLE : Hid (∀ k, a ≤ k → k ≤ E → (opensTo f k).length ≤ 24) := fun k hk hi => by
          rw [← hf]
          have h := sel_le2 l 2 ha1 (k - a) (by omega)
          rw [show a + (k - a) = k by omega] at h
          omega
        have c0 := (HB.out.cell (p := ⟨X, 0, none⟩) (by have := HHX.out; show X < H; omega)).trans HX0.out
        have c1 := (HB.out.cell (p := ⟨X, 1, none⟩) (by have := HHX.out; show X < H; omega)).trans HX1.out
        have hix : ∀ w, (Instr.index 75 (.agg #[.int .i64 2, .int .i64 1]) (.int .i64 0)).run Try.prog w = .ok (.int .i64 2) w := fun _ => by kernel_rfl
        clear hf
        go_wp2_with fail
        clear c0 c1 hix
        go_loopw [13, 14] (fun op kk wx => ∃ k : Nat, a ≤ k ∧ k ≤ E ∧ kk = .int .i64 k ∧ wx.ownsRow H 3 1 op (opensTo f k).length ((opensTo f k).map natV) ∧ Below H W1 wx) (fun _ kk _ => E - (intOf kk).toNat)
        case atStart => exact ⟨a, Nat.le_refl _, ha1, rfl, by rw [HST.out]; exact World.ownsRow_nil _ _ _ _, HB.out⟩
        case round =>
          obtain ⟨k, hak, hk, rfl, hop, hbx⟩ := hrel
          have HBx := Lib.hid hbx
          have c0 := (hbx.cell (p := ⟨X, 0, none⟩) (by have := HHX.out; show X < H; omega)).trans HX0.out
          have c1 := (hbx.cell (p := ⟨X, 1, none⟩) (by have := HHX.out; show X < H; omega)).trans HX1.out
          obtain ⟨wx, rfl⟩ : ∃ x : World, x = wr := ⟨_, rfl⟩
          obtain ⟨c, hcl⟩ : ∃ c, (opensTo f k).length = c := ⟨_, rfl⟩
          obtain ⟨OM, hOM⟩ : ∃ O, (opensTo f k).map natV = O := ⟨_, rfl⟩
          have hci := HLE.out k hak hk
          rw [hcl] at hci hop
          rw [hOM] at hop
          have HO0 := Lib.hid hop
          have HCL := Lib.hid hcl
          have HOM := Lib.hid hOM
          clear hop hbx hcl hOM
          by_cases hkE : k < E
          ·
            as_aux_lemma =>
              have ck := (HBx.out.cell (p := ⟨b, off + k * 2 + 0, none⟩) (by have := HHX.out; have := HBX.out; show b < H; omega)).trans ((HB0.out.cell (p := ⟨b, off + k * 2 + 0, none⟩) (by rw [HX.out]; exact HBX.out)).trans (HC.out k (by omega) 0 (by omega)))
              rw [Nat.add_zero] at ck
              have hgk := HMK.out k hak hkE
              obtain ⟨k0, hk0⟩ : ∃ q, gf l k 0 = q := ⟨_, rfl⟩
              rw [hk0] at ck hgk
              have hkE' : (k : Int) < (E : Int) := by omega
              have hk0' : (0 : Int) ≤ (k : Int) := by omega
              have hkn : (k : Int) < (n : Int) := by omega
              have hkn2 : k < n := by omega
              clear hk0
              by_cases hkd : k0 = 2
              · subst hkd
                have HON : Hid (opensTo f (k + 1) = opensTo f k ++ [k]) := opensTo_no (by rw [hgk]; decide)
                clear hgk
                go_wp2_with (at_builtin; refine wpList_append_lies _ rfl _ _ 26 rfl H 3 i0 _ 1 8 Try.underlying26 hi0 hz0 hz1 hz2 rfl (by omega) _ c OM rfl (HO0.out.alloc _) ⟨wx.heap.size, 0, none⟩ 1 1 [natV k] rfl rfl (World.news_of_block (cs := #[natV k]) (t := 3) (fr := (0, 0)) (heap_alloc_new wx _)) (by simp [natV, Value.oneCell']) (by omega) (by unfold maxLen; omega) (by omega) (by have := HBx.out.size; have := HH.out; simp; omega) _ rfl ?_; intro gg cap' w6 hown6 hgrow6 hat6 hlt6; have HOW6 := Lib.hid hown6; have HB6 : Hid (Below H W1 w6) := (HBx.out.alloc (by have := HBx.out.size; have := HH.out; omega) _).grown hgrow6 (by have := HBx.out.size; have := HH.out; simp; omega) (fun q hq => (HO0.out.lt q hq).1); clear hown6 hgrow6 hat6 hlt6)
                go_roundw
                case rel => exact ⟨k + 1, by omega, by omega, by go_num, by rw [HON.out, List.length_append, List.map_append, HCL.out, HOM.out]; exact HOW6.out, HB6.out⟩
                case measure => simp [intOf]; omega
              · have HON : Hid (opensTo f (k + 1) = opensTo f k) := opensTo_yes (by rw [hgk]; simp [hkd])
                have e0 : (k0 == 2) = false := by simp [hkd]
                clear hgk hkd
                go_wp2_with fail
                go_roundw
                case rel => exact ⟨k + 1, by omega, by omega, by go_num, by rw [HON.out, HCL.out, HOM.out]; exact HO0.out, HBx.out⟩
                case measure => simp [intOf]; omega
          · obtain rfl : k = E := by omega
            have hc24 : c ≤ 24 := by omega
            by_cases hcz0 : c = 0
            · subst hcz0
              have hcz : (sel l 2 a k).length = 0 := by rw [HSE.out]; exact HCL.out
              obtain ⟨oa, oc, hoe⟩ := own_form HO0.out
              subst hoe
              go_wp2_with fail
              go_roundw
              case rel => exact ⟨HBx.out, .inr (.inl (And.intro (by go_num) hcz))⟩
              case measure => simp [intOf]
            ·
              as_aux_lemma =>
                have hcp : 0 < c := by omega
                have hcn : ((c : Int) == 0) = false := by simp; omega
                have HGK : Hid (growSel l a m = opensTo f k) := by
                  show _ = _
                  have hkk : growK l a m = 2 := by
                    unfold growK
                    rw [HE.out]
                    rw [if_neg (by rw [HSE.out]; rw [HCL.out]; omega)]
                  unfold growSel
                  rw [hkk, HE.out]
                  exact HSE.out
                obtain ⟨oa, oc, hoe⟩ := own_form HO0.out
                subst hoe
                have HI1 : Hid (IsInts (wx.alloc (.cells #[.int .i64 1] 3)) (.slice (some ⟨wx.heap.size, 0, none⟩) 1 1) [1]) := one_ints (heap_alloc_new wx _)
                have HBA : Hid (Below H W1 (wx.alloc (.cells #[.int .i64 1] 3))) := HBx.out.alloc (by have := HBx.out.size; have := HH.out; omega) _
                have HOA : Hid ((wx.alloc (.cells #[.int .i64 1] 3)).ownsRow H 3 1 (.slice oa c oc) c OM) := HO0.out.alloc _
                go_wp2_with fail
                refine (repeat_any _ c _ HI1.out (by omega) (by omega)).mono ?_
                rintro e w3 ⟨rfl, ho3, hb3⟩
                have HB3 : Hid (Below H W1 w3) := HBA.out.trans (hb3.mono (by have := HBA.out.size; have := HH.out; omega))
                have HON3 : Hid (w3.ownsRow H 3 1 (.slice oa c oc) c OM) := own_below HOA.out hb3
                have HI3 : Hid (IsInts w3 (.slice (some ⟨wx.heap.size + 1, 0, none⟩) c c) (uni c)) := by
                  have := ho3.isInts (by simp; unfold maxLen; omega)
                  rwa [List.length_replicate, World.size_alloc] at this
                clear ho3 hb3 HOA HI1 HBA HO0 HBx c0 c1
                go_wp2_with fail
                refine (share_new _ D (uni c) _ HI3.out).mono ?_
                rintro e w4 ⟨v4, rfl, hv4, hb4, hf4⟩
                have HF4 := Lib.hid hf4
                clear hf4
                have HB4 : Hid (Below H W1 w4) := HB3.out.trans (hb4.mono (by have := HB3.out.size; have := HH.out; omega))
                have HON4 : Hid (w4.ownsRow H 3 1 (.slice oa c oc) c OM) := own_below HON3.out hb4
                obtain ⟨hpe, hpl, hpb⟩ := uni_parts (d := D) (m := c) (by omega) (by omega) (by omega)
                obtain ⟨P, hP⟩ : ∃ P, shareParts D (uni c) = P := ⟨_, rfl⟩
                rw [hP] at hv4 hpl hpb
                rw [hpe]
                obtain ⟨pa, pc, rfl, p1, p2, p3⟩ := hv4
                rw [hpl] at p1 p3 ⊢
                have P3 := Lib.hid p3
                have HPB := Lib.hid hpb
                have HP := Lib.hid hP
                have O3 : Hid (∃ ob oo, oa = some ⟨ob, oo, none⟩ ∧ H ≤ ob ∧ ∀ j, j < c → w4.cell? ⟨ob, oo + j, none⟩ = some (.int .i64 ((gn (opensTo f k) j : Nat) : Int))) := by
                  have hI : IsInts w4 (.slice oa c oc) ((opensTo f k).map fun x : Nat => (x : Int)) := by
                    have := HON4.out
                    rw [← HOM.out] at this
                    rw [show (opensTo f k).map natV = ((opensTo f k).map fun x : Nat => (x : Int)).map (Value.int .i64) by rw [List.map_map]; rfl] at this
                    have hl : ((opensTo f k).map fun x : Nat => (x : Int)).length = c := by rw [List.length_map]; exact HCL.out
                    rw [← hl] at this ⊢
                    exact ownsRow_isInts this
                  obtain ⟨oa', oc', hoe, -, -, o3⟩ := hI
                  have hl : ((opensTo f k).map fun x : Nat => (x : Int)).length = c := by rw [List.length_map]; exact HCL.out
                  rw [hl] at o3 hoe
                  obtain ⟨rfl, rfl⟩ : oa' = oa ∧ oc' = oc := by simp at hoe; exact ⟨hoe.1.symm, hoe.2.symm⟩
                  obtain ⟨ob, oo, rfl, hlt, hcell⟩ := o3 hcp
                  refine ⟨ob, oo, rfl, (HON4.out.lt ob rfl).1, fun j hj => ?_⟩
                  rw [hcell j hj]
                  have hjl : j < (opensTo f k).length := by rw [HCL.out]; exact hj
                  simp [gz, gn, hjl]
                obtain ⟨ob, oo, rfl, hob, hocell⟩ := O3.out
                have HOC := Lib.hid hocell
                have HOB := Lib.hid hob
                obtain ⟨pb, po, rfl, hplt, hpcell⟩ := P3.out hcp
                have HPC := Lib.hid hpcell
                have HO4 : Hid (OwnI w4 L s) := HO1.out.of_below HB4.out (by have := HHX.out; have := HLX.out; omega)
                have HT4 : Hid (Turn L L w w4) := (Turn.of_below HB0.out).trans (Turn.of_below (by rw [HH.out]; exact HB4.out))
                have HGB : Hid (∀ j, j < c → gn (growSel l a m) j < n) := fun j hj => by
                  have := growSel_mem (l := l) (a := a) (m := m) (k := j) (by rw [HGK.out, HCL.out]; exact hj)
                  have := HAM.out
                  omega
                have HAB : Hid (∀ k, k ≤ c → szTo (addAt s (growSel l a m) P k) (134217728 + D)) := fun k hk => addAt_bd HZ.out (by rw [HS.out]; exact HAM.out) (by omega) (by rw [HGK.out, HCL.out]; exact HPB.out) k (by rw [HGK.out, HCL.out]; exact hk)
                have HPL : Hid (pb ≠ L) := by have h1 := HF4.out _ _ _ rfl; have h2 := HB3.out.size; have h3 := HH.out; have h4 := HHX.out; have h5 := HLX.out; have h6 : w3.heap.size ≤ pb := h1; show pb ≠ L; omega
                have HPP : Hid (pb < w4.heap.size) := hplt
                have HOL : Hid (ob < w4.heap.size ∧ ob ≠ L) := by
                  have h1 := (HON4.out.lt ob rfl).2
                  have h2 := HOB.out
                  have h3 := HHX.out
                  have h4 := HLX.out
                  exact ⟨h1, by omega⟩
                have HFIN : Hid (addAt s (growSel l a m) P c = spr l gp a m want s) := by show _ = _; rw [HSP.out, HGK.out, HCL.out, HP.out]
                clear hpe hpl hpb hP p1 p2 p3 hocell hob hpcell hplt HON4 HON3 HB3 HI3
                go_wp2_with fail
                obtain ⟨w5, rfl⟩ : ∃ x : World, x = w4 := ⟨_, rfl⟩
                go_loopw [79] (fun ii wr => ∃ j : Nat, j ≤ c ∧ ii = .int .i64 j ∧ OwnI wr L (addAt s (growSel l a m) P j) ∧ Turn L L w5 wr) (fun ii _ => c - (intOf ii).toNat)
                case atStart => exact ⟨0, Nat.zero_le _, rfl, HO4.out, Turn.of_below (Below.refl _ _)⟩
                case round =>
                  obtain ⟨j, hj, rfl, hoj, htj⟩ := hrel
                  have HOJ := Lib.hid hoj
                  have HTJ := Lib.hid htj
                  clear hoj htj
                  by_cases hjc : j < c
                  ·
                    as_aux_lemma =>
                      have co := (HTJ.out.cell (p := ⟨ob, oo + j, none⟩) HOL.out.1 HOL.out.2 HOL.out.2).trans (HOC.out j hjc)
                      have cp := (HTJ.out.cell (p := ⟨pb, po + j, none⟩) HPP.out HPL.out HPL.out).trans (HPC.out j hjc)
                      rw [← HGK.out] at co
                      have hon := HGB.out j hjc
                      have hpj := HPB.out j hjc
                      have HAN : Hid (addAt s (growSel l a m) P (j + 1) = (addAt s (growSel l a m) P j).set (gn (growSel l a m) j) (gz (addAt s (growSel l a m) P j) (gn (growSel l a m) j) + gz P j)) := rfl
                      obtain ⟨o, ho⟩ : ∃ o, gn (growSel l a m) j = o := ⟨_, rfl⟩
                      rw [ho] at co hon HAN
                      have hlen : (addAt s (growSel l a m) P j).length = n := by rw [addAt_len, HS.out]
                      have cs := HOJ.out.cell (i := o) (by rw [hlen]; exact hon)
                      have fs := HOJ.out.free o
                      have hsb := HAB.out j (by omega) o (by rw [hlen]; exact hon)
                      obtain ⟨x, hx⟩ : ∃ x, gz (addAt s (growSel l a m) P j) o = x := ⟨_, rfl⟩
                      obtain ⟨p, hp⟩ : ∃ p, gz P j = p := ⟨_, rfl⟩
                      rw [hx] at cs hsb HAN
                      rw [hp] at cp hpj HAN
                      have hjc' : (j : Int) < (c : Int) := by omega
                      have hj0 : (0 : Int) ≤ (j : Int) := by omega
                      have ho0 : (0 : Int) ≤ (o : Int) := by omega
                      have hon' : (o : Int) < (n : Int) := by omega
                      have hwx : IntKind.i64.wrap (x + p) = x + p := IntWalk.i64_in _ (by omega)
                      have HO5 : Hid (OwnI (wr.setCell ⟨L, o, none⟩ (.int .i64 (x + p))) L (addAt s (growSel l a m) P (j + 1))) := by
                        show OwnI _ _ _
                        rw [HAN.out]; exact HOJ.out.set o _
                      have HT5 : Hid (Turn L L w5 (wr.setCell ⟨L, o, none⟩ (.int .i64 (x + p)))) := HTJ.out.trans (Turn.set wr (.inl rfl) o _)
                      clear ho hx hp hpj hsb hlen
                      go_wp2_with fail
                      go_region
                      all_goals
                        go_wp2
                        go_roundw
                        case rel => exact ⟨j + 1, by omega, by go_num, HO5.out, HT5.out.drew⟩
                        case measure => simp [intOf]; omega
                  · obtain rfl : j = c := by omega
                    go_wp2
                    ((try simp only [Exit.inBlock, Exit.then]); refine bodyPost_ret (results_none rfl _ _ _) rfl ?_)
                    exact ⟨rfl, by rw [← HFIN.out]; exact HOJ.out, HT4.out.trans HTJ.out⟩
    · (have HQ0 := Lib.hid hq0; clear hq0)
      as_aux_lemma =>
        obtain ⟨f, hf⟩ : ∃ f, msk l 1 a E = f := ⟨_, rfl⟩
        have HF := Lib.hid hf
        have HSE : Hid (sel l 1 a E = opensTo f E) := by show _ = _; rw [sel_eq, hf]
        have HST : Hid (opensTo f a = []) := by show _ = _; rw [← hf]; exact msk_start l _ ha1
        have HMK : Hid (∀ k, a ≤ k → k < E → gb f k = decide (gf l k 0 ≠ 1)) := fun k hk hi => by rw [← hf]; exact msk_in hi hk
        have HLE : Hid (∀ k, a ≤ k → k ≤ E → (opensTo f k).length ≤ 24) := fun k hk hi => by
          rw [← hf]
          have h := sel_le2 l 1 ha1 (k - a) (by omega)
          rw [show a + (k - a) = k by omega] at h
          omega
        have c0 := (HB.out.cell (p := ⟨X, 0, none⟩) (by have := HHX.out; show X < H; omega)).trans HX0.out
        have c1 := (HB.out.cell (p := ⟨X, 1, none⟩) (by have := HHX.out; show X < H; omega)).trans HX1.out
        have hix : ∀ w, (Instr.index 75 (.agg #[.int .i64 2, .int .i64 1]) (.int .i64 1)).run Try.prog w = .ok (.int .i64 1) w := fun _ => by kernel_rfl
        clear hf
        go_wp2_with fail
        clear c0 c1 hix
        go_loopw [13, 14] (fun op kk wx => ∃ k : Nat, a ≤ k ∧ k ≤ E ∧ kk = .int .i64 k ∧ wx.ownsRow H 3 1 op (opensTo f k).length ((opensTo f k).map natV) ∧ Below H W1 wx) (fun _ kk _ => E - (intOf kk).toNat)
        case atStart => exact ⟨a, Nat.le_refl _, ha1, rfl, by rw [HST.out]; exact World.ownsRow_nil _ _ _ _, HB.out⟩
        case round =>
          obtain ⟨k, hak, hk, rfl, hop, hbx⟩ := hrel
          have HBx := Lib.hid hbx
          have c0 := (hbx.cell (p := ⟨X, 0, none⟩) (by have := HHX.out; show X < H; omega)).trans HX0.out
          have c1 := (hbx.cell (p := ⟨X, 1, none⟩) (by have := HHX.out; show X < H; omega)).trans HX1.out
          obtain ⟨wx, rfl⟩ : ∃ x : World, x = wr := ⟨_, rfl⟩
          obtain ⟨c, hcl⟩ : ∃ c, (opensTo f k).length = c := ⟨_, rfl⟩
          obtain ⟨OM, hOM⟩ : ∃ O, (opensTo f k).map natV = O := ⟨_, rfl⟩
          have hci := HLE.out k hak hk
          rw [hcl] at hci hop
          rw [hOM] at hop
          have HO0 := Lib.hid hop
          have HCL := Lib.hid hcl
          have HOM := Lib.hid hOM
          clear hop hbx hcl hOM
          by_cases hkE : k < E
          ·
            as_aux_lemma =>
              have ck := (HBx.out.cell (p := ⟨b, off + k * 2 + 0, none⟩) (by have := HHX.out; have := HBX.out; show b < H; omega)).trans ((HB0.out.cell (p := ⟨b, off + k * 2 + 0, none⟩) (by rw [HX.out]; exact HBX.out)).trans (HC.out k (by omega) 0 (by omega)))
              rw [Nat.add_zero] at ck
              have hgk := HMK.out k hak hkE
              obtain ⟨k0, hk0⟩ : ∃ q, gf l k 0 = q := ⟨_, rfl⟩
              rw [hk0] at ck hgk
              have hkE' : (k : Int) < (E : Int) := by omega
              have hk0' : (0 : Int) ≤ (k : Int) := by omega
              have hkn : (k : Int) < (n : Int) := by omega
              have hkn2 : k < n := by omega
              clear hk0
              by_cases hkd : k0 = 1
              · subst hkd
                have HON : Hid (opensTo f (k + 1) = opensTo f k ++ [k]) := opensTo_no (by rw [hgk]; decide)
                clear hgk
                go_wp2_with (at_builtin; refine wpList_append_lies _ rfl _ _ 26 rfl H 3 i0 _ 1 8 Try.underlying26 hi0 hz0 hz1 hz2 rfl (by omega) _ c OM rfl (HO0.out.alloc _) ⟨wx.heap.size, 0, none⟩ 1 1 [natV k] rfl rfl (World.news_of_block (cs := #[natV k]) (t := 3) (fr := (0, 0)) (heap_alloc_new wx _)) (by simp [natV, Value.oneCell']) (by omega) (by unfold maxLen; omega) (by omega) (by have := HBx.out.size; have := HH.out; simp; omega) _ rfl ?_; intro gg cap' w6 hown6 hgrow6 hat6 hlt6; have HOW6 := Lib.hid hown6; have HB6 : Hid (Below H W1 w6) := (HBx.out.alloc (by have := HBx.out.size; have := HH.out; omega) _).grown hgrow6 (by have := HBx.out.size; have := HH.out; simp; omega) (fun q hq => (HO0.out.lt q hq).1); clear hown6 hgrow6 hat6 hlt6)
                go_roundw
                case rel => exact ⟨k + 1, by omega, by omega, by go_num, by rw [HON.out, List.length_append, List.map_append, HCL.out, HOM.out]; exact HOW6.out, HB6.out⟩
                case measure => simp [intOf]; omega
              · have HON : Hid (opensTo f (k + 1) = opensTo f k) := opensTo_yes (by rw [hgk]; simp [hkd])
                have e0 : (k0 == 1) = false := by simp [hkd]
                clear hgk hkd
                go_wp2_with fail
                go_roundw
                case rel => exact ⟨k + 1, by omega, by omega, by go_num, by rw [HON.out, HCL.out, HOM.out]; exact HO0.out, HBx.out⟩
                case measure => simp [intOf]; omega
          · obtain rfl : k = E := by omega
            have hc24 : c ≤ 24 := by omega
            by_cases hcz0 : c = 0
            · subst hcz0
              have hcz : (sel l 1 a k).length = 0 := by rw [HSE.out]; exact HCL.out
              obtain ⟨oa, oc, hoe⟩ := own_form HO0.out
              subst hoe
              go_wp2_with fail
              go_roundw
              case rel => exact ⟨HBx.out, .inr (.inr (And.intro (by go_num) (And.intro HQ0.out hcz)))⟩
              case measure => simp [intOf]
            ·
              as_aux_lemma =>
                have hcp : 0 < c := by omega
                have hcn : ((c : Int) == 0) = false := by simp; omega
                have HGK : Hid (growSel l a m = opensTo f k) := by
                  show _ = _
                  have hkk : growK l a m = 1 := by
                    unfold growK
                    rw [HE.out]
                    rw [if_pos HQ0.out]
                  unfold growSel
                  rw [hkk, HE.out]
                  exact HSE.out
                obtain ⟨oa, oc, hoe⟩ := own_form HO0.out
                subst hoe
                have HI1 : Hid (IsInts (wx.alloc (.cells #[.int .i64 1] 3)) (.slice (some ⟨wx.heap.size, 0, none⟩) 1 1) [1]) := one_ints (heap_alloc_new wx _)
                have HBA : Hid (Below H W1 (wx.alloc (.cells #[.int .i64 1] 3))) := HBx.out.alloc (by have := HBx.out.size; have := HH.out; omega) _
                have HOA : Hid ((wx.alloc (.cells #[.int .i64 1] 3)).ownsRow H 3 1 (.slice oa c oc) c OM) := HO0.out.alloc _
                go_wp2_with fail
                refine (repeat_any _ c _ HI1.out (by omega) (by omega)).mono ?_
                rintro e w3 ⟨rfl, ho3, hb3⟩
                have HB3 : Hid (Below H W1 w3) := HBA.out.trans (hb3.mono (by have := HBA.out.size; have := HH.out; omega))
                have HON3 : Hid (w3.ownsRow H 3 1 (.slice oa c oc) c OM) := own_below HOA.out hb3
                have HI3 : Hid (IsInts w3 (.slice (some ⟨wx.heap.size + 1, 0, none⟩) c c) (uni c)) := by
                  have := ho3.isInts (by simp; unfold maxLen; omega)
                  rwa [List.length_replicate, World.size_alloc] at this
                clear ho3 hb3 HOA HI1 HBA HO0 HBx c0 c1
                go_wp2_with fail
                refine (share_new _ D (uni c) _ HI3.out).mono ?_
                rintro e w4 ⟨v4, rfl, hv4, hb4, hf4⟩
                have HF4 := Lib.hid hf4
                clear hf4
                have HB4 : Hid (Below H W1 w4) := HB3.out.trans (hb4.mono (by have := HB3.out.size; have := HH.out; omega))
                have HON4 : Hid (w4.ownsRow H 3 1 (.slice oa c oc) c OM) := own_below HON3.out hb4
                obtain ⟨hpe, hpl, hpb⟩ := uni_parts (d := D) (m := c) (by omega) (by omega) (by omega)
                obtain ⟨P, hP⟩ : ∃ P, shareParts D (uni c) = P := ⟨_, rfl⟩
                rw [hP] at hv4 hpl hpb
                rw [hpe]
                obtain ⟨pa, pc, rfl, p1, p2, p3⟩ := hv4
                rw [hpl] at p1 p3 ⊢
                have P3 := Lib.hid p3
                have HPB := Lib.hid hpb
                have HP := Lib.hid hP
                have O3 : Hid (∃ ob oo, oa = some ⟨ob, oo, none⟩ ∧ H ≤ ob ∧ ∀ j, j < c → w4.cell? ⟨ob, oo + j, none⟩ = some (.int .i64 ((gn (opensTo f k) j : Nat) : Int))) := by
                  have hI : IsInts w4 (.slice oa c oc) ((opensTo f k).map fun x : Nat => (x : Int)) := by
                    have := HON4.out
                    rw [← HOM.out] at this
                    rw [show (opensTo f k).map natV = ((opensTo f k).map fun x : Nat => (x : Int)).map (Value.int .i64) by rw [List.map_map]; rfl] at this
                    have hl : ((opensTo f k).map fun x : Nat => (x : Int)).length = c := by rw [List.length_map]; exact HCL.out
                    rw [← hl] at this ⊢
                    exact ownsRow_isInts this
                  obtain ⟨oa', oc', hoe, -, -, o3⟩ := hI
                  have hl : ((opensTo f k).map fun x : Nat => (x : Int)).length = c := by rw [List.length_map]; exact HCL.out
                  rw [hl] at o3 hoe
                  obtain ⟨rfl, rfl⟩ : oa' = oa ∧ oc' = oc := by simp at hoe; exact ⟨hoe.1.symm, hoe.2.symm⟩
                  obtain ⟨ob, oo, rfl, hlt, hcell⟩ := o3 hcp
                  refine ⟨ob, oo, rfl, (HON4.out.lt ob rfl).1, fun j hj => ?_⟩
                  rw [hcell j hj]
                  have hjl : j < (opensTo f k).length := by rw [HCL.out]; exact hj
                  simp [gz, gn, hjl]
                obtain ⟨ob, oo, rfl, hob, hocell⟩ := O3.out
                have HOC := Lib.hid hocell
                have HOB := Lib.hid hob
                obtain ⟨pb, po, rfl, hplt, hpcell⟩ := P3.out hcp
                have HPC := Lib.hid hpcell
                have HO4 : Hid (OwnI w4 L s) := HO1.out.of_below HB4.out (by have := HHX.out; have := HLX.out; omega)
                have HT4 : Hid (Turn L L w w4) := (Turn.of_below HB0.out).trans (Turn.of_below (by rw [HH.out]; exact HB4.out))
                have HGB : Hid (∀ j, j < c → gn (growSel l a m) j < n) := fun j hj => by
                  have := growSel_mem (l := l) (a := a) (m := m) (k := j) (by rw [HGK.out, HCL.out]; exact hj)
                  have := HAM.out
                  omega
                have HAB : Hid (∀ k, k ≤ c → szTo (addAt s (growSel l a m) P k) (134217728 + D)) := fun k hk => addAt_bd HZ.out (by rw [HS.out]; exact HAM.out) (by omega) (by rw [HGK.out, HCL.out]; exact HPB.out) k (by rw [HGK.out, HCL.out]; exact hk)
                have HPL : Hid (pb ≠ L) := by have h1 := HF4.out _ _ _ rfl; have h2 := HB3.out.size; have h3 := HH.out; have h4 := HHX.out; have h5 := HLX.out; have h6 : w3.heap.size ≤ pb := h1; show pb ≠ L; omega
                have HPP : Hid (pb < w4.heap.size) := hplt
                have HOL : Hid (ob < w4.heap.size ∧ ob ≠ L) := by
                  have h1 := (HON4.out.lt ob rfl).2
                  have h2 := HOB.out
                  have h3 := HHX.out
                  have h4 := HLX.out
                  exact ⟨h1, by omega⟩
                have HFIN : Hid (addAt s (growSel l a m) P c = spr l gp a m want s) := by show _ = _; rw [HSP.out, HGK.out, HCL.out, HP.out]
                clear hpe hpl hpb hP p1 p2 p3 hocell hob hpcell hplt HON4 HON3 HB3 HI3
                go_wp2_with fail
                obtain ⟨w5, rfl⟩ : ∃ x : World, x = w4 := ⟨_, rfl⟩
                go_loopw [79] (fun ii wr => ∃ j : Nat, j ≤ c ∧ ii = .int .i64 j ∧ OwnI wr L (addAt s (growSel l a m) P j) ∧ Turn L L w5 wr) (fun ii _ => c - (intOf ii).toNat)
                case atStart => exact ⟨0, Nat.zero_le _, rfl, HO4.out, Turn.of_below (Below.refl _ _)⟩
                case round =>
                  obtain ⟨j, hj, rfl, hoj, htj⟩ := hrel
                  have HOJ := Lib.hid hoj
                  have HTJ := Lib.hid htj
                  clear hoj htj
                  by_cases hjc : j < c
                  ·
                    as_aux_lemma =>
                      have co := (HTJ.out.cell (p := ⟨ob, oo + j, none⟩) HOL.out.1 HOL.out.2 HOL.out.2).trans (HOC.out j hjc)
                      have cp := (HTJ.out.cell (p := ⟨pb, po + j, none⟩) HPP.out HPL.out HPL.out).trans (HPC.out j hjc)
                      rw [← HGK.out] at co
                      have hon := HGB.out j hjc
                      have hpj := HPB.out j hjc
                      have HAN : Hid (addAt s (growSel l a m) P (j + 1) = (addAt s (growSel l a m) P j).set (gn (growSel l a m) j) (gz (addAt s (growSel l a m) P j) (gn (growSel l a m) j) + gz P j)) := rfl
                      obtain ⟨o, ho⟩ : ∃ o, gn (growSel l a m) j = o := ⟨_, rfl⟩
                      rw [ho] at co hon HAN
                      have hlen : (addAt s (growSel l a m) P j).length = n := by rw [addAt_len, HS.out]
                      have cs := HOJ.out.cell (i := o) (by rw [hlen]; exact hon)
                      have fs := HOJ.out.free o
                      have hsb := HAB.out j (by omega) o (by rw [hlen]; exact hon)
                      obtain ⟨x, hx⟩ : ∃ x, gz (addAt s (growSel l a m) P j) o = x := ⟨_, rfl⟩
                      obtain ⟨p, hp⟩ : ∃ p, gz P j = p := ⟨_, rfl⟩
                      rw [hx] at cs hsb HAN
                      rw [hp] at cp hpj HAN
                      have hjc' : (j : Int) < (c : Int) := by omega
                      have hj0 : (0 : Int) ≤ (j : Int) := by omega
                      have ho0 : (0 : Int) ≤ (o : Int) := by omega
                      have hon' : (o : Int) < (n : Int) := by omega
                      have hwx : IntKind.i64.wrap (x + p) = x + p := IntWalk.i64_in _ (by omega)
                      have HO5 : Hid (OwnI (wr.setCell ⟨L, o, none⟩ (.int .i64 (x + p))) L (addAt s (growSel l a m) P (j + 1))) := by
                        show OwnI _ _ _
                        rw [HAN.out]; exact HOJ.out.set o _
                      have HT5 : Hid (Turn L L w5 (wr.setCell ⟨L, o, none⟩ (.int .i64 (x + p)))) := HTJ.out.trans (Turn.set wr (.inl rfl) o _)
                      clear ho hx hp hpj hsb hlen
                      go_wp2_with fail
                      go_region
                      all_goals
                        go_wp2
                        go_roundw
                        case rel => exact ⟨j + 1, by omega, by go_num, HO5.out, HT5.out.drew⟩
                        case measure => simp [intOf]; omega
                  · obtain rfl : j = c := by omega
                    go_wp2
                    ((try simp only [Exit.inBlock, Exit.then]); refine bodyPost_ret (results_none rfl _ _ _) rfl ?_)
                    exact ⟨rfl, by rw [← HFIN.out]; exact HOJ.out, HT4.out.trans HTJ.out⟩
    ·
      as_aux_lemma =>
        have HGZ : Hid ((growSel l a m).length = 0) := by
          show _ = _
          unfold growSel growK
          rw [HE.out, if_pos hq0]
          exact hq1
        go_wp2
        go_end0
        refine ⟨rfl, ?_, ((Turn.of_below HB0.out).trans (Turn.of_below (by rw [HH.out]; exact HB.out)))⟩
        rw [HSP.out, HGZ.out]
        exact HO1.out.of_below HB.out (by have := HHX.out; have := HLX.out; omega)
end Go.Proofs.Ytadkkkdecejkeaa

