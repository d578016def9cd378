/- Resolve of the reference. -/
import Derived.Test.YtadkkkdecejkeaaRefPlain
import Derived.Test.YtadkkkdecejkeaaBoxRes
import Derived.Test.YtadkkkdecejkeaaRLen
import Derived.Test.YtadkkkdecejkeaaRefShare
import Derived.Test.YtadkkkdecejkeaaClampR
import Derived.BigQuiet
namespace Go.Proofs.Ytadkkkdecejkeaa
open Go.RowKit
attribute [local go_sem ↓] Go.wp_at_zero Go.wp_at_succ
set_option linter.unusedVariables false
set_option linter.unusedSimpArgs false

/-- The reference's three rows. -/
structure RLn (SZ FR WT : Nat) (st : St) (ws : List Int) (w : World) : Prop where
  s : OwnI w SZ st.1
  f : OwnB w FR st.2
  t : OwnI w WT ws
  sf : SZ ≠ FR
  sw : SZ ≠ WT
  fw : FR ≠ WT
section
variable {SZ FR WT : Nat} {st : St} {ws : List Int} {w : World}
theorem RLn.lt (h : RLn SZ FR WT st ws w) : SZ < w.heap.size ∧ FR < w.heap.size ∧ WT < w.heap.size := ⟨h.s.lt, h.f.lt, h.t.lt⟩
theorem RLn.below {w' : World} {B : Nat} (h : RLn SZ FR WT st ws w) (hb : Below B w w') (hB : w.heap.size ≤ B) : RLn SZ FR WT st ws w' := by
  have := h.lt
  exact ⟨h.s.of_below hb (by omega), h.f.of_below hb (by omega), h.t.of_below hb (by omega), h.sf, h.sw, h.fw⟩
theorem RLn.drewN (h : RLn SZ FR WT st ws w) (d : Nat) : RLn SZ FR WT st ws (w.drewN d) := ⟨h.s, h.f, h.t, h.sf, h.sw, h.fw⟩
theorem RLn.setS (h : RLn SZ FR WT st ws w) (i : Nat) (x : Int) : RLn SZ FR WT (st.1.set i x, st.2) ws (w.setCell ⟨SZ, i, none⟩ (.int .i64 x)) :=
  ⟨h.s.set i x, h.f.set_other h.sf i _, h.t.set_other h.sw i _, h.sf, h.sw, h.fw⟩
theorem RLn.setF (h : RLn SZ FR WT st ws w) (i : Nat) (x : Bool) : RLn SZ FR WT (st.1, st.2.set i x) ws (w.setCell ⟨FR, i, none⟩ (.bool x)) :=
  ⟨h.s.set_other h.sf.symm i _, h.f.set i x, h.t.set_other h.fw i _, h.sf, h.sw, h.fw⟩
theorem RLn.setT (h : RLn SZ FR WT st ws w) (i : Nat) (x : Int) : RLn SZ FR WT st (ws.set i x) (w.setCell ⟨WT, i, none⟩ (.int .i64 x)) :=
  ⟨h.s.set_other h.sw.symm i _, h.f.set_other h.fw.symm i _, h.t.set i x, h.sf, h.sw, h.fw⟩
end

set_option maxHeartbeats 20000000 in
set_option maxRecDepth 100000 in
theorem rres_ok (a : Option Addr) (cap n : Nat) (av gp : Int) (l : List Rec) (w : World) (hcap : n ≤ cap) (HN : Hid (l.length = n)) (hn : n ≤ 100) (ha : 0 ≤ av ∧ av ≤ 1048576) (hg : 0 ≤ gp ∧ gp ≤ 1048576) (hf : flexTo l l.length) (he : flexErr av gp l = 0)
    (H3 : Hid (0 < n → ∃ b off, a = some ⟨b, off, none⟩ ∧ b < w.heap.size ∧ ∀ i, i < n → ∀ j, j < 5 → w.cell? ⟨b, off + i * 5 + j, none⟩ = some (.int .i64 (gf l i j)))) :
    Calls Try.prog 37 #[.int .i64 av, .int .i64 gp, .slice a n cap] w (ResolvedN av gp l w) := by
  obtain ⟨i0, hi0, hz0, hz1, hz2⟩ := info_parts info_int1
  have HE := Lib.hid he
  have HF := Lib.hid hf
  have HSPB : Hid (∀ k, k ≤ n → -104857600 ≤ spTo av gp k ∧ spTo av gp k ≤ 1048576) := fun k hk => spTo_bd (av := av) (gp := gp) ha.1 ha.2 hg.1 hg.2 (by omega)
  have hn' : (n : Int) ≤ 100 := by omega
  have HR : Hid (resL av gp l = resOk av gp l) := by show _ = _; unfold resL; rw [if_pos he]
  have H1 : Hid (lenB av = true) := lenB_iff.2 ha
  have H2 : Hid (lenB gp = true) := lenB_iff.2 hg
  have HZL : Hid ((size0 l).length = n) := by show _ = _; rw [size0_len]; exact HN.out
  have HFL : Hid (∀ G, (frozen0 l G).length = n) := fun G => by rw [frozen0_len]; exact HN.out
  have HWL : Hid (∀ G, (wTo l G n).length = n) := fun G => wTo_len l G n
  obtain ⟨ha0, ha1⟩ := ha
  obtain ⟨hg0, hg1⟩ := hg
  clear he hf
  have hmk := make_ints n (by omega)
  have hmb := make_bools n (by omega)
  go_enter Try.func37, Try.ntmps37
  go_wp2_with fail
  refine (rlen_any _ _).mono ?_
  rw [H1.out]
  rintro e w' ⟨rfl, rfl⟩
  go_wp2_with fail
  refine (rlen_any _ _).mono ?_
  rw [H2.out]
  rintro e w' ⟨rfl, rfl⟩
  go_wp2_with fail
  go_loopw [8] (fun i wr => ∃ k : Nat, k ≤ n ∧ i = .int .i64 k ∧ Below w.heap.size w wr) (fun i _ => n - (intOf i).toNat)
  case atStart => exact ⟨0, Nat.zero_le _, rfl, Below.refl _ _⟩
  case round =>
    obtain ⟨k, hk, rfl, hbl⟩ := hrel
    have HB := Lib.hid hbl
    clear hbl
    by_cases hkn : k < n
    ·
      as_aux_lemma =>
        obtain ⟨b, off, rfl, hlt, hcell⟩ := H3.out (by omega)
        have k0 := (HB.out.cell (p := ⟨b, off + k * 5 + 0, none⟩) hlt).trans (hcell k hkn 0 (by omega))
        have k1 := (HB.out.cell (p := ⟨b, off + k * 5 + 1, none⟩) hlt).trans (hcell k hkn 1 (by omega))
        have k2 := (HB.out.cell (p := ⟨b, off + k * 5 + 2, none⟩) hlt).trans (hcell k hkn 2 (by omega))
        have k3 := (HB.out.cell (p := ⟨b, off + k * 5 + 3, none⟩) hlt).trans (hcell k hkn 3 (by omega))
        have k4 := (HB.out.cell (p := ⟨b, off + k * 5 + 4, none⟩) hlt).trans (hcell k hkn 4 (by omega))
        rw [Nat.add_zero] at k0
        obtain ⟨f0, f1, f2, ⟨f3, f3'⟩, f4, f4'⟩ := flexB_iff.1 (HF.out k (by rw [HN.out]; exact hkn))
        obtain ⟨q0, hq0⟩ : ∃ q, gf l k 0 = q := ⟨_, rfl⟩
        obtain ⟨q1, hq1⟩ : ∃ q, gf l k 1 = q := ⟨_, rfl⟩
        obtain ⟨q2, hq2⟩ : ∃ q, gf l k 2 = q := ⟨_, rfl⟩
        obtain ⟨q3, hq3⟩ : ∃ q, gf l k 3 = q := ⟨_, rfl⟩
        obtain ⟨q4, hq4⟩ : ∃ q, gf l k 4 = q := ⟨_, rfl⟩
        rw [hq0] at k0 f0
        rw [hq1] at k1 f1
        rw [hq2] at k2 f2
        rw [hq3] at k3 f3 f3'
        rw [hq4] at k4 f4 f4'
        have HF0 : Hid (lenB q0 = true) := lenB_iff.2 f0
        have HF1 : Hid (lenB q1 = true) := lenB_iff.2 f1
        have HF2 : Hid (lenB q2 = true) := lenB_iff.2 f2
        have hkn' : (k : Int) < (n : Int) := by omega
        have HBA : Hid (Below w.heap.size w (wr.alloc (.cells #[.int .i64 q0, .int .i64 q1, .int .i64 q2, .int .i64 q3, .int .i64 q4] 60))) := HB.out.alloc HB.out.size _
        clear hq0 hq1 hq2 hq3 hq4 hcell hlt f0 f1 f2
        go_wp2_with fail
        refine (rlen_any _ _).mono ?_
        rw [HF0.out]
        rintro e w' ⟨rfl, rfl⟩
        go_wp2_with fail
        refine (rlen_any _ _).mono ?_
        rw [HF1.out]
        rintro e w' ⟨rfl, rfl⟩
        go_wp2_with fail
        refine (rlen_any _ _).mono ?_
        rw [HF2.out]
        rintro e w' ⟨rfl, rfl⟩
        go_wp2
        go_roundw
        case rel => exact ⟨k + 1, by omega, by go_num, HBA.out⟩
        case measure => simp [intOf]; omega
    · obtain rfl : n = k := by omega
      have HS2 : Hid (OwnI (wr.alloc (.cells (madeCells #[.int .i64 0] n) 3)) wr.heap.size (stage (size0 l) 0)) := by
        show OwnI _ _ _
        rw [stage_zero, HZL.out]; exact OwnI.made wr n
      have HB2 : Hid (Below w.heap.size w (wr.alloc (.cells (madeCells #[.int .i64 0] n) 3))) := HB.out.alloc HB.out.size _
      have HSZ : Hid (w.heap.size ≤ wr.heap.size) := HB.out.size
      go_wp2_with fail
      obtain ⟨W2, hW2⟩ : ∃ W, wr.alloc (.cells (madeCells #[.int .i64 0] n) 3) = W := ⟨_, rfl⟩
      obtain ⟨SZ, hSZ⟩ : ∃ B, wr.heap.size = B := ⟨_, rfl⟩
      rw [hW2, hSZ] at HS2
      rw [hW2] at HB2 ⊢
      rw [hSZ] at HSZ ⊢
      clear hW2 hSZ HB
      clear wr
      have HSB : Hid (∀ k, k ≤ n → 0 ≤ sumTo (size0 l) k ∧ sumTo (size0 l) k ≤ 1048576 * (k : Int)) := fun k hk => size0_sum HF.out k (by rw [HN.out]; exact hk)
      go_loopw [10, 12, 13] (fun s u i wr => ∃ k : Nat, k ≤ n ∧ i = .int .i64 k ∧ s = .int .i64 (spTo av gp k) ∧ u = .int .i64 (sumTo (size0 l) k) ∧ OwnI wr SZ (stage (size0 l) k) ∧ Below w.heap.size w wr) (fun _ _ i _ => n - (intOf i).toNat)
      case atStart => exact ⟨0, Nat.zero_le _, rfl, by rw [(spTo_one av gp).2], rfl, HS2.out, HB2.out⟩
      case round =>
        obtain ⟨k, hk, rfl, rfl, rfl, hO, hbl⟩ := hrel
        have HO := Lib.hid hO
        have HB := Lib.hid hbl
        have hsb := HSB.out k hk
        have hpb := HSPB.out k hk
        obtain ⟨S, hS⟩ : ∃ S, sumTo (size0 l) k = S := ⟨_, rfl⟩
        obtain ⟨sp, hsp⟩ : ∃ S, spTo av gp k = S := ⟨_, rfl⟩
        rw [hS] at hsb ⊢
        rw [hsp] at hpb ⊢
        have HSS := Lib.hid hS
        have HSP := Lib.hid hsp
        clear hO hbl hS hsp
        by_cases hkn : k < n
        ·
          as_aux_lemma =>
            obtain ⟨b, off, rfl, hlt, hcell⟩ := H3.out (by omega)
            have k0 := (HB.out.cell (p := ⟨b, off + k * 5 + 0, none⟩) hlt).trans (hcell k hkn 0 (by omega))
            have k1 := (HB.out.cell (p := ⟨b, off + k * 5 + 1, none⟩) hlt).trans (hcell k hkn 1 (by omega))
            have k2 := (HB.out.cell (p := ⟨b, off + k * 5 + 2, none⟩) hlt).trans (hcell k hkn 2 (by omega))
            rw [Nat.add_zero] at k0
            have hcb := cl_bd (HF.out k (by rw [HN.out]; exact hkn)) (gf l k 0)
            have HZK : Hid (gz (size0 l) k = clampZ (gf l k 0) (gf l k 1) (gf l k 2)) := size0_at (by rw [HN.out]; exact hkn)
            have HSN : Hid (sumTo (size0 l) (k + 1) = S + gz (size0 l) k) := by show _ = _; simp only [sumTo]; rw [HSS.out]
            unfold cl at hcb
            obtain ⟨q0, hq0⟩ : ∃ q, gf l k 0 = q := ⟨_, rfl⟩
            obtain ⟨q1, hq1⟩ : ∃ q, gf l k 1 = q := ⟨_, rfl⟩
            obtain ⟨q2, hq2⟩ : ∃ q, gf l k 2 = q := ⟨_, rfl⟩
            rw [hq0] at k0 hcb HZK
            rw [hq1] at k1 hcb HZK
            rw [hq2] at k2 hcb HZK
            obtain ⟨C, hC⟩ : ∃ C, clampZ q0 q1 q2 = C := ⟨_, rfl⟩
            rw [hC] at hcb HZK
            rw [HZK.out] at HSN
            have HCC := Lib.hid hC
            have hkn' : (k : Int) < (n : Int) := by omega
            have hk0 : (0 : Int) ≤ (k : Int) := by omega
            have fS := HO.out.free k
            have cS := HO.out.cell (i := k) (by rw [length_stage, HZL.out]; exact hkn)
            have HS6 : Hid (OwnI (wr.setCell ⟨SZ, k, none⟩ (.int .i64 C)).drew SZ (stage (size0 l) (k + 1))) := by
              show OwnI _ _ _
              have := (HO.out.set k C).drew
              rw [← HZK.out] at this ⊢
              rwa [stage_set _ _ (by rw [HZL.out]; exact hkn)] at this
            have HB6 : Hid (Below w.heap.size w (wr.setCell ⟨SZ, k, none⟩ (.int .i64 C)).drew) := (HB.out.setCell (p := ⟨SZ, k, none⟩) HSZ.out _).drew
            have HZS : Hid ((wr.setCell ⟨SZ, k, none⟩ (.int .i64 C)).drew.cell? ⟨SZ, k, none⟩ = some (.int .i64 C)) := by
              show _ = _
              have := HS6.out.cell (i := k) (by rw [length_stage, HZL.out]; exact hkn)
              rw [this, ← stage_set _ _ (by rw [HZL.out]; exact hkn), gz_set_same _ _ _ (by rw [length_stage, HZL.out]; exact hkn), HZK.out]
            have hw2 : IntKind.i64.wrap (S + C) = S + C := IntWalk.i64_in _ (by omega)
            clear hq0 hq1 hq2 hC hlt hcell
            by_cases hkz : k = 0
            · have HPN : Hid (spTo av gp (k + 1) = sp) := by
                show _ = _
                rw [← HSP.out, hkz, (spTo_one av gp).1, (spTo_one av gp).2]
              have e1 : ¬ (0 : Int) < (k : Int) := by omega
              have e2 : ¬ 0 < k := by omega
              have e3 : decide ((0 : Int) < (k : Int)) = false := by simpa using e1
              have e4 : decide (0 < k) = false := by simpa using e2
              clear hkz
              go_wp2_with fail
              refine wp_region_T (S := (fun w' => w'.cell? ⟨b, off + k * 5, none⟩ = some (.int .i64 q0) ∧ w'.cell? ⟨b, off + k * 5 + 1, none⟩ = some (.int .i64 q1) ∧ w'.cell? ⟨b, off + k * 5 + 2, none⟩ = some (.int .i64 q2))) 19 (by kernel_rfl) (⟨k0, k1, k2⟩) (fun hHeld => ?_)
              refine wpAnyT_take (i := 0) (v := ?_) rfl (by decide +kernel) (by decide +kernel) (by decide +kernel) (by decide +kernel) (by decide +kernel) (fun _ _ _ h => h) (Or.inl ⟨by rfl, ?_⟩) (by assumption) ?_
              rotate_left
              · intro w hSw; (try dsimp only at hSw); first | (go_simp; done) | (go_simp; with_reducible rfl)
              try simp only [Act.put, List.getElem_toArray, List.getElem_cons_succ, List.getElem_cons_zero, List.setIfInBounds_toArray, List.set_cons_zero, List.set_cons_succ]
              refine wpAnyT_take (i := 1) (v := ?_) rfl (by decide +kernel) (by decide +kernel) (by decide +kernel) (by decide +kernel) (by decide +kernel) (fun _ _ _ h => h) (Or.inl ⟨by rfl, ?_⟩) (by assumption) ?_
              rotate_left
              · intro w hSw; (try dsimp only at hSw); first | (go_simp; done) | (go_simp; with_reducible rfl)
              try simp only [Act.put, List.getElem_toArray, List.getElem_cons_succ, List.getElem_cons_zero, List.setIfInBounds_toArray, List.set_cons_zero, List.set_cons_succ]
              refine wpAnyT_take (i := 2) (v := ?_) rfl (by decide +kernel) (by decide +kernel) (by decide +kernel) (by decide +kernel) (by decide +kernel) (fun _ _ _ h => h) (Or.inl ⟨by rfl, ?_⟩) (by assumption) ?_
              rotate_left
              · intro w hSw; (try dsimp only at hSw); first | (go_simp; done) | (go_simp; with_reducible rfl)
              try simp only [Act.put, List.getElem_toArray, List.getElem_cons_succ, List.getElem_cons_zero, List.setIfInBounds_toArray, List.set_cons_zero, List.set_cons_succ]
              refine wpAnyT_take (i := 3) (v := ?_) rfl (by decide +kernel) (by decide +kernel) (by decide +kernel) (by decide +kernel) (by decide +kernel) (fun _ _ _ h => h) (Or.inl ⟨by rfl, ?_⟩) (by assumption) ?_
              rotate_left
              · intro w hSw; (try dsimp only at hSw); first | (go_simp; done) | (go_simp; with_reducible rfl)
              try simp only [Act.put, List.getElem_toArray, List.getElem_cons_succ, List.getElem_cons_zero, List.setIfInBounds_toArray, List.set_cons_zero, List.set_cons_succ]
              refine wpAnyT_take (i := 4) (v := ?_) rfl (by decide +kernel) (by decide +kernel) (by decide +kernel) (by decide +kernel) (by decide +kernel) (fun _ _ _ h => h) (Or.inl ⟨by rfl, ?_⟩) (by assumption) ?_
              rotate_left
              · intro w hSw; (try dsimp only at hSw); first | (go_simp; done) | (go_simp; with_reducible rfl)
              try simp only [Act.put, List.getElem_toArray, List.getElem_cons_succ, List.getElem_cons_zero, List.setIfInBounds_toArray, List.set_cons_zero, List.set_cons_succ]
              refine wpAnyT_take (i := 5) (v := ?_) rfl (by decide +kernel) (by decide +kernel) (by decide +kernel) (by decide +kernel) (by decide +kernel) (fun _ _ _ h => h) (Or.inl ⟨by rfl, ?_⟩) (by assumption) ?_
              rotate_left
              · intro w hSw; (try dsimp only at hSw); first | (go_simp; done) | (go_simp; with_reducible rfl)
              try simp only [Act.put, List.getElem_toArray, List.getElem_cons_succ, List.getElem_cons_zero, List.setIfInBounds_toArray, List.set_cons_zero, List.set_cons_succ]
              refine wpAnyT_take (i := 6) (v := ?_) rfl (by decide +kernel) (by decide +kernel) (by decide +kernel) (by decide +kernel) (by decide +kernel) (fun _ _ _ h => h) (Or.inl ⟨by rfl, ?_⟩) (by assumption) ?_
              rotate_left
              · intro w hSw; (try dsimp only at hSw); first | (go_simp; done) | (go_simp; with_reducible rfl)
              try simp only [Act.put, List.getElem_toArray, List.getElem_cons_succ, List.getElem_cons_zero, List.setIfInBounds_toArray, List.set_cons_zero, List.set_cons_succ]
              refine wpAnyT_take (i := 7) (v := ?_) rfl (by decide +kernel) (by decide +kernel) (by decide +kernel) (by decide +kernel) (by decide +kernel) (fun _ _ _ h => h) (Or.inl ⟨by rfl, ?_⟩) (by assumption) ?_
              rotate_left
              · intro w hSw; (try dsimp only at hSw); first | (go_simp; done) | (go_simp; with_reducible rfl)
              try simp only [Act.put, List.getElem_toArray, List.getElem_cons_succ, List.getElem_cons_zero, List.setIfInBounds_toArray, List.set_cons_zero, List.set_cons_succ]
              refine wpAnyT_take (i := 8) (v := ?_) rfl (by decide +kernel) (by decide +kernel) (by decide +kernel) (by decide +kernel) (by decide +kernel) (fun _ _ _ h => h) (Or.inl ⟨by rfl, ?_⟩) (by assumption) ?_
              rotate_left
              · intro w hSw; (try dsimp only at hSw); first | (go_simp; done) | (go_simp; with_reducible rfl)
              try simp only [Act.put, List.getElem_toArray, List.getElem_cons_succ, List.getElem_cons_zero, List.setIfInBounds_toArray, List.set_cons_zero, List.set_cons_succ]
              refine wpAnyT_take (i := 9) (v := ?_) rfl (by decide +kernel) (by decide +kernel) (by decide +kernel) (by decide +kernel) (by decide +kernel) (fun _ _ _ h => h) (Or.inl ⟨by rfl, ?_⟩) (by assumption) ?_
              rotate_left
              · intro w hSw; (try dsimp only at hSw); first | (go_simp; done) | (go_simp; with_reducible rfl)
              try simp only [Act.put, List.getElem_toArray, List.getElem_cons_succ, List.getElem_cons_zero, List.setIfInBounds_toArray, List.set_cons_zero, List.set_cons_succ]
              refine wpAnyT_take (i := 10) (v := ?_) rfl (by decide +kernel) (by decide +kernel) (by decide +kernel) (by decide +kernel) (by decide +kernel) (fun _ _ _ h => h) (Or.inl ⟨by rfl, ?_⟩) (by assumption) ?_
              rotate_left
              · intro w hSw; (try dsimp only at hSw); first | (go_simp; done) | (go_simp; with_reducible rfl)
              try simp only [Act.put, List.getElem_toArray, List.getElem_cons_succ, List.getElem_cons_zero, List.setIfInBounds_toArray, List.set_cons_zero, List.set_cons_succ]
              refine wpAnyT_take (i := 11) (v := ?_) rfl (by decide +kernel) (by decide +kernel) (by decide +kernel) (by decide +kernel) (by decide +kernel) (fun _ _ _ h => h) (Or.inl ⟨by rfl, ?_⟩) (by assumption) ?_
              rotate_left
              · intro w hSw; (try dsimp only at hSw); first | (go_simp; done) | (go_simp; with_reducible rfl)
              try simp only [Act.put, List.getElem_toArray, List.getElem_cons_succ, List.getElem_cons_zero, List.setIfInBounds_toArray, List.set_cons_zero, List.set_cons_succ]
              refine wpAnyT_take (i := 12) (v := ?_) rfl (by decide +kernel) (by decide +kernel) (by decide +kernel) (by decide +kernel) (by decide +kernel) (fun _ _ _ h => h) (Or.inl ⟨by rfl, ?_⟩) (by assumption) ?_
              rotate_left
              · intro w hSw; (try dsimp only at hSw); first | (go_simp; done) | (go_simp; with_reducible rfl)
              try simp only [Act.put, List.getElem_toArray, List.getElem_cons_succ, List.getElem_cons_zero, List.setIfInBounds_toArray, List.set_cons_zero, List.set_cons_succ]
              refine wpAnyT_take (i := 13) (v := ?_) rfl (by decide +kernel) (by decide +kernel) (by decide +kernel) (by decide +kernel) (by decide +kernel) (fun _ _ _ h => h) (Or.inl ⟨by rfl, ?_⟩) (by assumption) ?_
              rotate_left
              · intro w hSw; (try dsimp only at hSw); first | (go_simp; done) | (go_simp; with_reducible rfl)
              try simp only [Act.put, List.getElem_toArray, List.getElem_cons_succ, List.getElem_cons_zero, List.setIfInBounds_toArray, List.set_cons_zero, List.set_cons_succ]
              refine wpAnyT_take (i := 14) (v := ?_) rfl (by decide +kernel) (by decide +kernel) (by decide +kernel) (by decide +kernel) (by decide +kernel) (fun _ _ _ h => h) (Or.inl ⟨by rfl, ?_⟩) (by assumption) ?_
              rotate_left
              · intro w hSw; (try dsimp only at hSw); first | (go_simp; done) | (go_simp; with_reducible rfl)
              try simp only [Act.put, List.getElem_toArray, List.getElem_cons_succ, List.getElem_cons_zero, List.setIfInBounds_toArray, List.set_cons_zero, List.set_cons_succ]
              refine wpAnyT_take (i := 15) (v := ?_) rfl (by decide +kernel) (by decide +kernel) (by decide +kernel) (by decide +kernel) (by decide +kernel) (fun _ _ _ h => h) (Or.inl ⟨by rfl, ?_⟩) (by assumption) ?_
              rotate_left
              · intro w hSw; (try dsimp only at hSw); first | (go_simp; done) | (go_simp; with_reducible rfl)
              try simp only [Act.put, List.getElem_toArray, List.getElem_cons_succ, List.getElem_cons_zero, List.setIfInBounds_toArray, List.set_cons_zero, List.set_cons_succ]
              refine wpAnyT_take (i := 16) (v := ?_) rfl (by decide +kernel) (by decide +kernel) (by decide +kernel) (by decide +kernel) (by decide +kernel) (fun _ _ _ h => h) (Or.inl ⟨by rfl, ?_⟩) (by assumption) ?_
              rotate_left
              · intro w hSw; (try dsimp only at hSw); first | (go_simp; done) | (go_simp; with_reducible rfl)
              try simp only [Act.put, List.getElem_toArray, List.getElem_cons_succ, List.getElem_cons_zero, List.setIfInBounds_toArray, List.set_cons_zero, List.set_cons_succ]
              refine wpAnyT_one (i := 17) (by kernel_rfl) rfl (fun K hK => ?_)
              go_simp
              (refine (rclamp_any _ _ _ _).mono ?_; rw [HCC.out]; rintro e w' ⟨rfl, rfl⟩)
              refine hK.out _ _ ?_ (fun hHeld2 => ?_)
              · (try dsimp only); exact ⟨k0, k1, k2⟩
              clear hK K hHeld
              have hHeld := hHeld2
              clear hHeld2
              try simp only [Act.put, List.getElem_toArray, List.getElem_cons_succ, List.getElem_cons_zero, List.setIfInBounds_toArray, List.set_cons_zero, List.set_cons_succ]
              refine wpAnyT_take (i := 18) (v := ?_) rfl (by decide +kernel) (by decide +kernel) (by decide +kernel) (by decide +kernel) (by decide +kernel) (fun _ _ _ h => h) (Or.inl ⟨by rfl, ?_⟩) (by assumption) ?_
              rotate_left
              · intro w hSw; (try dsimp only at hSw); first | (go_simp; done) | (go_simp; with_reducible rfl)
              try simp only [Act.put, List.getElem_toArray, List.getElem_cons_succ, List.getElem_cons_zero, List.setIfInBounds_toArray, List.set_cons_zero, List.set_cons_succ]
              refine wpAnyT_last (i := 19) (by kernel_rfl) (by kernel_rfl) rfl (by kernel_rfl) (fun K hK => ?_)
              go_simp
              refine hK.out _ _ ?_
              clear hK K
              try simp only [Act.put, List.getElem_toArray, List.getElem_cons_succ, List.getElem_cons_zero, List.setIfInBounds_toArray, List.set_cons_zero, List.set_cons_succ]
              clear hHeld fS cS k0 k1 k2
              go_upto_region 20 with fail
              obtain ⟨W6, hW6⟩ : ∃ W, (wr.setCell ⟨SZ, k, none⟩ (.int .i64 C)).drew = W := ⟨_, rfl⟩
              rw [hW6] at HS6 HB6 HZS ⊢
              have zS := HZS.out
              clear hW6
              go_wp2_with fail
              go_roundw
              case rel => exact ⟨k + 1, by omega, by go_num, by rw [HPN.out], by rw [HSN.out], HS6.out, HB6.out⟩
              case measure => simp [intOf]; omega
            · have HPN : Hid (spTo av gp (k + 1) = sp - gp) := by
                show _ = _
                rw [← HSP.out]; exact spTo_next av gp k (by omega)
              have e1 : (0 : Int) < (k : Int) := by omega
              have e2 : 0 < k := by omega
              have e3 : decide ((0 : Int) < (k : Int)) = true := by simpa using e1
              have e4 : decide (0 < k) = true := by simpa using e2
              have hw3 : IntKind.i64.wrap (sp - gp) = sp - gp := IntWalk.i64_in _ (by omega)
              clear hkz
              go_wp2_with fail
              refine wp_region_T (S := (fun w' => w'.cell? ⟨b, off + k * 5, none⟩ = some (.int .i64 q0) ∧ w'.cell? ⟨b, off + k * 5 + 1, none⟩ = some (.int .i64 q1) ∧ w'.cell? ⟨b, off + k * 5 + 2, none⟩ = some (.int .i64 q2))) 19 (by kernel_rfl) (⟨k0, k1, k2⟩) (fun hHeld => ?_)
              refine wpAnyT_take (i := 0) (v := ?_) rfl (by decide +kernel) (by decide +kernel) (by decide +kernel) (by decide +kernel) (by decide +kernel) (fun _ _ _ h => h) (Or.inl ⟨by rfl, ?_⟩) (by assumption) ?_
              rotate_left
              · intro w hSw; (try dsimp only at hSw); first | (go_simp; done) | (go_simp; with_reducible rfl)
              try simp only [Act.put, List.getElem_toArray, List.getElem_cons_succ, List.getElem_cons_zero, List.setIfInBounds_toArray, List.set_cons_zero, List.set_cons_succ]
              refine wpAnyT_take (i := 1) (v := ?_) rfl (by decide +kernel) (by decide +kernel) (by decide +kernel) (by decide +kernel) (by decide +kernel) (fun _ _ _ h => h) (Or.inl ⟨by rfl, ?_⟩) (by assumption) ?_
              rotate_left
              · intro w hSw; (try dsimp only at hSw); first | (go_simp; done) | (go_simp; with_reducible rfl)
              try simp only [Act.put, List.getElem_toArray, List.getElem_cons_succ, List.getElem_cons_zero, List.setIfInBounds_toArray, List.set_cons_zero, List.set_cons_succ]
              refine wpAnyT_take (i := 2) (v := ?_) rfl (by decide +kernel) (by decide +kernel) (by decide +kernel) (by decide +kernel) (by decide +kernel) (fun _ _ _ h => h) (Or.inl ⟨by rfl, ?_⟩) (by assumption) ?_
              rotate_left
              · intro w hSw; (try dsimp only at hSw); first | (go_simp; done) | (go_simp; with_reducible rfl)
              try simp only [Act.put, List.getElem_toArray, List.getElem_cons_succ, List.getElem_cons_zero, List.setIfInBounds_toArray, List.set_cons_zero, List.set_cons_succ]
              refine wpAnyT_take (i := 3) (v := ?_) rfl (by decide +kernel) (by decide +kernel) (by decide +kernel) (by decide +kernel) (by decide +kernel) (fun _ _ _ h => h) (Or.inl ⟨by rfl, ?_⟩) (by assumption) ?_
              rotate_left
              · intro w hSw; (try dsimp only at hSw); first | (go_simp; done) | (go_simp; with_reducible rfl)
              try simp only [Act.put, List.getElem_toArray, List.getElem_cons_succ, List.getElem_cons_zero, List.setIfInBounds_toArray, List.set_cons_zero, List.set_cons_succ]
              refine wpAnyT_take (i := 4) (v := ?_) rfl (by decide +kernel) (by decide +kernel) (by decide +kernel) (by decide +kernel) (by decide +kernel) (fun _ _ _ h => h) (Or.inl ⟨by rfl, ?_⟩) (by assumption) ?_
              rotate_left
              · intro w hSw; (try dsimp only at hSw); first | (go_simp; done) | (go_simp; with_reducible rfl)
              try simp only [Act.put, List.getElem_toArray, List.getElem_cons_succ, List.getElem_cons_zero, List.setIfInBounds_toArray, List.set_cons_zero, List.set_cons_succ]
              refine wpAnyT_take (i := 5) (v := ?_) rfl (by decide +kernel) (by decide +kernel) (by decide +kernel) (by decide +kernel) (by decide +kernel) (fun _ _ _ h => h) (Or.inl ⟨by rfl, ?_⟩) (by assumption) ?_
              rotate_left
              · intro w hSw; (try dsimp only at hSw); first | (go_simp; done) | (go_simp; with_reducible rfl)
              try simp only [Act.put, List.getElem_toArray, List.getElem_cons_succ, List.getElem_cons_zero, List.setIfInBounds_toArray, List.set_cons_zero, List.set_cons_succ]
              refine wpAnyT_take (i := 6) (v := ?_) rfl (by decide +kernel) (by decide +kernel) (by decide +kernel) (by decide +kernel) (by decide +kernel) (fun _ _ _ h => h) (Or.inl ⟨by rfl, ?_⟩) (by assumption) ?_
              rotate_left
              · intro w hSw; (try dsimp only at hSw); first | (go_simp; done) | (go_simp; with_reducible rfl)
              try simp only [Act.put, List.getElem_toArray, List.getElem_cons_succ, List.getElem_cons_zero, List.setIfInBounds_toArray, List.set_cons_zero, List.set_cons_succ]
              refine wpAnyT_take (i := 7) (v := ?_) rfl (by decide +kernel) (by decide +kernel) (by decide +kernel) (by decide +kernel) (by decide +kernel) (fun _ _ _ h => h) (Or.inl ⟨by rfl, ?_⟩) (by assumption) ?_
              rotate_left
              · intro w hSw; (try dsimp only at hSw); first | (go_simp; done) | (go_simp; with_reducible rfl)
              try simp only [Act.put, List.getElem_toArray, List.getElem_cons_succ, List.getElem_cons_zero, List.setIfInBounds_toArray, List.set_cons_zero, List.set_cons_succ]
              refine wpAnyT_take (i := 8) (v := ?_) rfl (by decide +kernel) (by decide +kernel) (by decide +kernel) (by decide +kernel) (by decide +kernel) (fun _ _ _ h => h) (Or.inl ⟨by rfl, ?_⟩) (by assumption) ?_
              rotate_left
              · intro w hSw; (try dsimp only at hSw); first | (go_simp; done) | (go_simp; with_reducible rfl)
              try simp only [Act.put, List.getElem_toArray, List.getElem_cons_succ, List.getElem_cons_zero, List.setIfInBounds_toArray, List.set_cons_zero, List.set_cons_succ]
              refine wpAnyT_take (i := 9) (v := ?_) rfl (by decide +kernel) (by decide +kernel) (by decide +kernel) (by decide +kernel) (by decide +kernel) (fun _ _ _ h => h) (Or.inl ⟨by rfl, ?_⟩) (by assumption) ?_
              rotate_left
              · intro w hSw; (try dsimp only at hSw); first | (go_simp; done) | (go_simp; with_reducible rfl)
              try simp only [Act.put, List.getElem_toArray, List.getElem_cons_succ, List.getElem_cons_zero, List.setIfInBounds_toArray, List.set_cons_zero, List.set_cons_succ]
              refine wpAnyT_take (i := 10) (v := ?_) rfl (by decide +kernel) (by decide +kernel) (by decide +kernel) (by decide +kernel) (by decide +kernel) (fun _ _ _ h => h) (Or.inl ⟨by rfl, ?_⟩) (by assumption) ?_
              rotate_left
              · intro w hSw; (try dsimp only at hSw); first | (go_simp; done) | (go_simp; with_reducible rfl)
              try simp only [Act.put, List.getElem_toArray, List.getElem_cons_succ, List.getElem_cons_zero, List.setIfInBounds_toArray, List.set_cons_zero, List.set_cons_succ]
              refine wpAnyT_take (i := 11) (v := ?_) rfl (by decide +kernel) (by decide +kernel) (by decide +kernel) (by decide +kernel) (by decide +kernel) (fun _ _ _ h => h) (Or.inl ⟨by rfl, ?_⟩) (by assumption) ?_
              rotate_left
              · intro w hSw; (try dsimp only at hSw); first | (go_simp; done) | (go_simp; with_reducible rfl)
              try simp only [Act.put, List.getElem_toArray, List.getElem_cons_succ, List.getElem_cons_zero, List.setIfInBounds_toArray, List.set_cons_zero, List.set_cons_succ]
              refine wpAnyT_take (i := 12) (v := ?_) rfl (by decide +kernel) (by decide +kernel) (by decide +kernel) (by decide +kernel) (by decide +kernel) (fun _ _ _ h => h) (Or.inl ⟨by rfl, ?_⟩) (by assumption) ?_
              rotate_left
              · intro w hSw; (try dsimp only at hSw); first | (go_simp; done) | (go_simp; with_reducible rfl)
              try simp only [Act.put, List.getElem_toArray, List.getElem_cons_succ, List.getElem_cons_zero, List.setIfInBounds_toArray, List.set_cons_zero, List.set_cons_succ]
              refine wpAnyT_take (i := 13) (v := ?_) rfl (by decide +kernel) (by decide +kernel) (by decide +kernel) (by decide +kernel) (by decide +kernel) (fun _ _ _ h => h) (Or.inl ⟨by rfl, ?_⟩) (by assumption) ?_
              rotate_left
              · intro w hSw; (try dsimp only at hSw); first | (go_simp; done) | (go_simp; with_reducible rfl)
              try simp only [Act.put, List.getElem_toArray, List.getElem_cons_succ, List.getElem_cons_zero, List.setIfInBounds_toArray, List.set_cons_zero, List.set_cons_succ]
              refine wpAnyT_take (i := 14) (v := ?_) rfl (by decide +kernel) (by decide +kernel) (by decide +kernel) (by decide +kernel) (by decide +kernel) (fun _ _ _ h => h) (Or.inl ⟨by rfl, ?_⟩) (by assumption) ?_
              rotate_left
              · intro w hSw; (try dsimp only at hSw); first | (go_simp; done) | (go_simp; with_reducible rfl)
              try simp only [Act.put, List.getElem_toArray, List.getElem_cons_succ, List.getElem_cons_zero, List.setIfInBounds_toArray, List.set_cons_zero, List.set_cons_succ]
              refine wpAnyT_take (i := 15) (v := ?_) rfl (by decide +kernel) (by decide +kernel) (by decide +kernel) (by decide +kernel) (by decide +kernel) (fun _ _ _ h => h) (Or.inl ⟨by rfl, ?_⟩) (by assumption) ?_
              rotate_left
              · intro w hSw; (try dsimp only at hSw); first | (go_simp; done) | (go_simp; with_reducible rfl)
              try simp only [Act.put, List.getElem_toArray, List.getElem_cons_succ, List.getElem_cons_zero, List.setIfInBounds_toArray, List.set_cons_zero, List.set_cons_succ]
              refine wpAnyT_take (i := 16) (v := ?_) rfl (by decide +kernel) (by decide +kernel) (by decide +kernel) (by decide +kernel) (by decide +kernel) (fun _ _ _ h => h) (Or.inl ⟨by rfl, ?_⟩) (by assumption) ?_
              rotate_left
              · intro w hSw; (try dsimp only at hSw); first | (go_simp; done) | (go_simp; with_reducible rfl)
              try simp only [Act.put, List.getElem_toArray, List.getElem_cons_succ, List.getElem_cons_zero, List.setIfInBounds_toArray, List.set_cons_zero, List.set_cons_succ]
              refine wpAnyT_one (i := 17) (by kernel_rfl) rfl (fun K hK => ?_)
              go_simp
              (refine (rclamp_any _ _ _ _).mono ?_; rw [HCC.out]; rintro e w' ⟨rfl, rfl⟩)
              refine hK.out _ _ ?_ (fun hHeld2 => ?_)
              · (try dsimp only); exact ⟨k0, k1, k2⟩
              clear hK K hHeld
              have hHeld := hHeld2
              clear hHeld2
              try simp only [Act.put, List.getElem_toArray, List.getElem_cons_succ, List.getElem_cons_zero, List.setIfInBounds_toArray, List.set_cons_zero, List.set_cons_succ]
              refine wpAnyT_take (i := 18) (v := ?_) rfl (by decide +kernel) (by decide +kernel) (by decide +kernel) (by decide +kernel) (by decide +kernel) (fun _ _ _ h => h) (Or.inl ⟨by rfl, ?_⟩) (by assumption) ?_
              rotate_left
              · intro w hSw; (try dsimp only at hSw); first | (go_simp; done) | (go_simp; with_reducible rfl)
              try simp only [Act.put, List.getElem_toArray, List.getElem_cons_succ, List.getElem_cons_zero, List.setIfInBounds_toArray, List.set_cons_zero, List.set_cons_succ]
              refine wpAnyT_last (i := 19) (by kernel_rfl) (by kernel_rfl) rfl (by kernel_rfl) (fun K hK => ?_)
              go_simp
              refine hK.out _ _ ?_
              clear hK K
              try simp only [Act.put, List.getElem_toArray, List.getElem_cons_succ, List.getElem_cons_zero, List.setIfInBounds_toArray, List.set_cons_zero, List.set_cons_succ]
              clear hHeld fS cS k0 k1 k2
              go_upto_region 20 with fail
              obtain ⟨W6, hW6⟩ : ∃ W, (wr.setCell ⟨SZ, k, none⟩ (.int .i64 C)).drew = W := ⟨_, rfl⟩
              rw [hW6] at HS6 HB6 HZS ⊢
              have zS := HZS.out
              clear hW6
              go_wp2_with fail
              go_roundw
              case rel => exact ⟨k + 1, by omega, by go_num, by rw [HPN.out], by rw [HSN.out], HS6.out, HB6.out⟩
              case measure => simp [intOf]; omega
        · obtain rfl : n = k := by omega
          obtain ⟨G, hG⟩ : ∃ G, decide (S ≤ sp) = G := ⟨_, rfl⟩
          have HG : Hid (growsB av gp l = G) := by show _ = _; unfold growsB; rw [HN.out, HSS.out, HSP.out]; exact hG
          have HSA : Hid (stage (size0 l) n = size0 l) := by have := stage_all (size0 l); rwa [HZL.out] at this
          have HR3 : Hid (RLn SZ wr.heap.size (wr.heap.size + 1) (size0 l, stageB (frozen0 l G) 0) (stage (wTo l G n) 0) ((wr.alloc (.cells (madeCells #[.bool false] n) 4)).alloc (.cells (madeCells #[.int .i64 0] n) 3))) := by
            have hlt := HO.out.lt
            refine ⟨?_, ?_, ?_, by omega, by omega, by omega⟩
            · have := (HO.out.alloc (.cells (madeCells #[.bool false] n) 4)).alloc (.cells (madeCells #[.int .i64 0] n) 3)
              rwa [HSA.out] at this
            · have := (OwnB.made wr n).alloc (.cells (madeCells #[.int .i64 0] n) 3)
              show OwnB _ _ (stageB _ 0)
              rw [stageB_zero, HFL.out]; exact this
            · have := OwnI.made (wr.alloc (.cells (madeCells #[.bool false] n) 4)) n
              rw [World.size_alloc] at this
              rw [stage_zero, HWL.out]; exact this
          have HB3 : Hid (Below w.heap.size w ((wr.alloc (.cells (madeCells #[.bool false] n) 4)).alloc (.cells (madeCells #[.int .i64 0] n) 3))) := (HB.out.alloc HB.out.size _).alloc (by have := HB.out.size; simp; omega) _
          have HFT : Hid (w.heap.size ≤ wr.heap.size) := HB.out.size
          go_wp2_with fail
          obtain ⟨W3, hW3⟩ : ∃ W, ((wr.alloc (.cells (madeCells #[.bool false] n) 4)).alloc (.cells (madeCells #[.int .i64 0] n) 3)) = W := ⟨_, rfl⟩
          obtain ⟨FR, hFR⟩ : ∃ B, wr.heap.size = B := ⟨_, rfl⟩
          rw [hW3, hFR] at HR3
          rw [hW3] at HB3 ⊢
          rw [hFR] at HFT ⊢
          obtain ⟨WT, hWT⟩ : ∃ B, FR + 1 = B := ⟨_, rfl⟩
          rw [hWT] at HR3 ⊢
          have HWTB : Hid (w.heap.size ≤ WT) := by have := HFT.out; show _ ≤ _; omega
          clear hW3 hFR hWT HB HO hG hsb hpb
          clear wr
          have HSPN := HSP
          clear HSP HSS HS2 HB2
          clear W2
          go_loopw [17, 18] (fun u i wr => ∃ k : Nat, k ≤ n ∧ i = .int .i64 k ∧ u = .int .i64 ((opensTo (frozen0 l G) k).length : Nat) ∧ RLn SZ FR WT (size0 l, stageB (frozen0 l G) k) (stage (wTo l G n) k) wr ∧ Below w.heap.size w wr) (fun _ i _ => n - (intOf i).toNat)
          case atStart => exact ⟨0, Nat.zero_le _, rfl, rfl, HR3.out, HB3.out⟩
          case round =>
            obtain ⟨k, hk, rfl, rfl, hO, hbl⟩ := hrel
            have HO := Lib.hid hO
            have HB := Lib.hid hbl
            clear hO hbl
            by_cases hkn : k < n
            · skip
              obtain ⟨b, off, rfl, hlt, hcell⟩ := H3.out (by omega)
              have hfx := flexB_iff.1 (HF.out k (by rw [HN.out]; exact hkn))
              have HBL2 : Hid (b < w.heap.size) := hlt
              have HZK : Hid (gz (size0 l) k = clampZ (gf l k 0) (gf l k 1) (gf l k 2)) := size0_at (by rw [HN.out]; exact hkn)
              obtain ⟨q0, hq0⟩ : ∃ q, gf l k 0 = q := ⟨_, rfl⟩
              obtain ⟨q1, hq1⟩ : ∃ q, gf l k 1 = q := ⟨_, rfl⟩
              obtain ⟨q2, hq2⟩ : ∃ q, gf l k 2 = q := ⟨_, rfl⟩
              obtain ⟨q3, hq3⟩ : ∃ q, gf l k 3 = q := ⟨_, rfl⟩
              obtain ⟨q4, hq4⟩ : ∃ q, gf l k 4 = q := ⟨_, rfl⟩
              rw [hq0, hq1, hq2] at HZK
              rw [hq0, hq1, hq2, hq3, hq4] at hfx
              have HQ0 := Lib.hid hq0
              have HQ1 := Lib.hid hq1
              have HQ2 := Lib.hid hq2
              have HQ3 := Lib.hid hq3
              have HQ4 := Lib.hid hq4
              have HKC : Hid (∀ W, Below w.heap.size w W → W.cell? ⟨b, off + k * 5, none⟩ = some (.int .i64 q0) ∧ W.cell? ⟨b, off + k * 5 + 3, none⟩ = some (.int .i64 q3) ∧ W.cell? ⟨b, off + k * 5 + 4, none⟩ = some (.int .i64 q4)) := fun W hW => by
                have k0 := (hW.cell (p := ⟨b, off + k * 5 + 0, none⟩) hlt).trans (hcell k hkn 0 (by omega))
                have k3 := (hW.cell (p := ⟨b, off + k * 5 + 3, none⟩) hlt).trans (hcell k hkn 3 (by omega))
                have k4 := (hW.cell (p := ⟨b, off + k * 5 + 4, none⟩) hlt).trans (hcell k hkn 4 (by omega))
                rw [Nat.add_zero] at k0
                rw [hq0] at k0
                rw [hq3] at k3
                rw [hq4] at k4
                exact ⟨k0, k3, k4⟩
              obtain ⟨C, hC⟩ : ∃ C, clampZ q0 q1 q2 = C := ⟨_, rfl⟩
              rw [hC] at HZK
              have HCC := Lib.hid hC
              have hkn' : (k : Int) < (n : Int) := by omega
              have hk0 : (0 : Int) ≤ (k : Int) := by omega
              have HTL : Hid (∀ G, (stage (wTo l G n) k).length = n) := fun G => by rw [length_stage, HWL.out]
              have HTS : Hid (∀ G x, wOf l G k = x → (stage (wTo l G n) k).set k x = stage (wTo l G n) (k + 1)) := fun G x h => by
                rw [← h, ← wTo_at (l := l) (g := G) hkn]
                exact stage_set _ _ (by rw [HWL.out]; exact hkn)
              have HOL : Hid ((opensTo (frozen0 l G) k).length ≤ 100) := by have := opensTo_le (frozen0 l G) k; show _ ≤ _; omega
              have HCN : Hid ((opensTo (frozen0 l G) (k + 1)).length = (opensTo (frozen0 l G) k).length + (if gb (frozen0 l G) k then 0 else 1)) := frozenTo_left
              have HFA : Hid (∀ fz, gb (frozen0 l G) k = fz → (stageB (frozen0 l G) k).set k fz = stageB (frozen0 l G) (k + 1)) := fun fz h => by
                rw [← h]; exact stageB_set _ _ (by rw [HFL.out]; exact hkn)
              obtain ⟨m, hm⟩ : ∃ x, (opensTo (frozen0 l G) k).length = x := ⟨_, rfl⟩
              rw [hm] at HOL HCN ⊢
              have hm100 : (m : Int) ≤ 100 := by have := HOL.out; omega
              have HFL3 : Hid ((stageB (frozen0 l G) k).length = n) := by show _ = _; rw [stageB_len, HFL.out]
              clear hq0 hq1 hq2 hq3 hq4 hC hlt hcell hm
              obtain ⟨k0, k3, k4⟩ := HKC.out wr HB.out
              have fT := HO.out.t.free k
              have cT := HO.out.t.cell (i := k) (by rw [HTL.out]; exact hkn)
              have HO4 : Hid (RLn SZ FR WT (size0 l, stageB (frozen0 l G) k) ((stage (wTo l G n) k).set k q3) (wr.setCell ⟨WT, k, none⟩ (.int .i64 q3))) := HO.out.setT k q3
              have HB4 : Hid (Below w.heap.size w (wr.setCell ⟨WT, k, none⟩ (.int .i64 q3))) := HB.out.setCell (p := ⟨WT, k, none⟩) HWTB.out _
              as_aux_lemma =>
                go_upto_if 152 with fail
                obtain ⟨W4, hW4⟩ : ∃ W, wr.setCell ⟨WT, k, none⟩ (.int .i64 q3) = W := ⟨_, rfl⟩
                rw [hW4] at HO4 HB4 ⊢
                clear hW4 k0 k3 k4 fT cT HO HB
                clear wr
                go_cut [18] (fun i wx => i = .int .i64 k ∧ RLn SZ FR WT (size0 l, stageB (frozen0 l G) k) (stage (wTo l G n) (k + 1)) wx ∧ Below w.heap.size w wx)
                case first =>
                  as_aux_lemma =>
                    obtain ⟨k0, k3, k4⟩ := HKC.out W4 HB4.out
                    cases G with
                    | true =>
                      have HOM : Hid (wOf l true k = q3) := by show _ = _; unfold wOf; rw [if_pos rfl, HQ3.out]
                      go_wp2
                      go_meet
                      refine ⟨rfl, ?_, HB4.out⟩
                      have := HO4.out
                      rwa [HTS.out true q3 HOM.out] at this
                    | false =>
                      have hmw := mul_bd (a := q4) (b := q0) (m := 1000) (k := 1048576) (by omega) (by omega) (by omega) (by omega)
                      obtain ⟨om, hom⟩ : ∃ x, q4 * q0 = x := ⟨_, rfl⟩
                      rw [hom] at hmw
                      have HOM : Hid (wOf l false k = om) := by show _ = _; unfold wOf; rw [if_neg (by simp), HQ4.out, HQ0.out]; exact hom
                      have hwr : IntKind.i64.wrap (q4 * q0) = om := by rw [hom]; exact IntWalk.i64_in _ (by omega)
                      have fT := HO4.out.t.free k
                      have cT := HO4.out.t.cell (i := k) (by rw [List.length_set, HTL.out]; exact hkn)
                      have HO5 : Hid (RLn SZ FR WT (size0 l, stageB (frozen0 l false) k) (stage (wTo l false n) (k + 1)) (W4.setCell ⟨WT, k, none⟩ (.int .i64 om)).drew) := by
                        have := (HO4.out.setT k om).drewN 1
                        rw [List.set_set, HTS.out false om HOM.out] at this
                        exact this
                      have HB5 : Hid (Below w.heap.size w (W4.setCell ⟨WT, k, none⟩ (.int .i64 om)).drew) := (HB4.out.setCell (p := ⟨WT, k, none⟩) HWTB.out _).drew
                      clear hom hfx
                      go_upto_region 30 with fail
                      refine wp_region_T (S := (fun w' => w'.cell? ⟨b, off + k * 5, none⟩ = some (.int .i64 q0) ∧ w'.cell? ⟨b, off + k * 5 + 4, none⟩ = some (.int .i64 q4))) 14 (by kernel_rfl) (⟨k0, k4⟩) (fun hHeld => ?_)
                      refine wpAnyT_take (i := 0) (v := ?_) rfl (by decide +kernel) (by decide +kernel) (by decide +kernel) (by decide +kernel) (by decide +kernel) (fun _ _ _ h => h) (Or.inl ⟨by rfl, ?_⟩) (by assumption) ?_
                      rotate_left
                      · intro w hSw; (try dsimp only at hSw); first | (go_simp; done) | (go_simp; with_reducible rfl)
                      try simp only [Act.put, List.getElem_toArray, List.getElem_cons_succ, List.getElem_cons_zero, List.setIfInBounds_toArray, List.set_cons_zero, List.set_cons_succ]
                      refine wpAnyT_take (i := 1) (v := ?_) rfl (by decide +kernel) (by decide +kernel) (by decide +kernel) (by decide +kernel) (by decide +kernel) (fun _ _ _ h => h) (Or.inl ⟨by rfl, ?_⟩) (by assumption) ?_
                      rotate_left
                      · intro w hSw; (try dsimp only at hSw); first | (go_simp; done) | (go_simp; with_reducible rfl)
                      try simp only [Act.put, List.getElem_toArray, List.getElem_cons_succ, List.getElem_cons_zero, List.setIfInBounds_toArray, List.set_cons_zero, List.set_cons_succ]
                      refine wpAnyT_take (i := 2) (v := ?_) rfl (by decide +kernel) (by decide +kernel) (by decide +kernel) (by decide +kernel) (by decide +kernel) (fun _ _ _ h => h) (Or.inl ⟨by rfl, ?_⟩) (by assumption) ?_
                      rotate_left
                      · intro w hSw; (try dsimp only at hSw); first | (go_simp; done) | (go_simp; with_reducible rfl)
                      try simp only [Act.put, List.getElem_toArray, List.getElem_cons_succ, List.getElem_cons_zero, List.setIfInBounds_toArray, List.set_cons_zero, List.set_cons_succ]
                      refine wpAnyT_take (i := 3) (v := ?_) rfl (by decide +kernel) (by decide +kernel) (by decide +kernel) (by decide +kernel) (by decide +kernel) (fun _ _ _ h => h) (Or.inl ⟨by rfl, ?_⟩) (by assumption) ?_
                      rotate_left
                      · intro w hSw; (try dsimp only at hSw); first | (go_simp; done) | (go_simp; with_reducible rfl)
                      try simp only [Act.put, List.getElem_toArray, List.getElem_cons_succ, List.getElem_cons_zero, List.setIfInBounds_toArray, List.set_cons_zero, List.set_cons_succ]
                      refine wpAnyT_take (i := 4) (v := ?_) rfl (by decide +kernel) (by decide +kernel) (by decide +kernel) (by decide +kernel) (by decide +kernel) (fun _ _ _ h => h) (Or.inl ⟨by rfl, ?_⟩) (by assumption) ?_
                      rotate_left
                      · intro w hSw; (try dsimp only at hSw); first | (go_simp; done) | (go_simp; with_reducible rfl)
                      try simp only [Act.put, List.getElem_toArray, List.getElem_cons_succ, List.getElem_cons_zero, List.setIfInBounds_toArray, List.set_cons_zero, List.set_cons_succ]
                      refine wpAnyT_take (i := 5) (v := ?_) rfl (by decide +kernel) (by decide +kernel) (by decide +kernel) (by decide +kernel) (by decide +kernel) (fun _ _ _ h => h) (Or.inl ⟨by rfl, ?_⟩) (by assumption) ?_
                      rotate_left
                      · intro w hSw; (try dsimp only at hSw); first | (go_simp; done) | (go_simp; with_reducible rfl)
                      try simp only [Act.put, List.getElem_toArray, List.getElem_cons_succ, List.getElem_cons_zero, List.setIfInBounds_toArray, List.set_cons_zero, List.set_cons_succ]
                      refine wpAnyT_take (i := 6) (v := ?_) rfl (by decide +kernel) (by decide +kernel) (by decide +kernel) (by decide +kernel) (by decide +kernel) (fun _ _ _ h => h) (Or.inl ⟨by rfl, ?_⟩) (by assumption) ?_
                      rotate_left
                      · intro w hSw; (try dsimp only at hSw); first | (go_simp; done) | (go_simp; with_reducible rfl)
                      try simp only [Act.put, List.getElem_toArray, List.getElem_cons_succ, List.getElem_cons_zero, List.setIfInBounds_toArray, List.set_cons_zero, List.set_cons_succ]
                      refine wpAnyT_take (i := 7) (v := ?_) rfl (by decide +kernel) (by decide +kernel) (by decide +kernel) (by decide +kernel) (by decide +kernel) (fun _ _ _ h => h) (Or.inl ⟨by rfl, ?_⟩) (by assumption) ?_
                      rotate_left
                      · intro w hSw; (try dsimp only at hSw); first | (go_simp; done) | (go_simp; with_reducible rfl)
                      try simp only [Act.put, List.getElem_toArray, List.getElem_cons_succ, List.getElem_cons_zero, List.setIfInBounds_toArray, List.set_cons_zero, List.set_cons_succ]
                      refine wpAnyT_take (i := 8) (v := ?_) rfl (by decide +kernel) (by decide +kernel) (by decide +kernel) (by decide +kernel) (by decide +kernel) (fun _ _ _ h => h) (Or.inl ⟨by rfl, ?_⟩) (by assumption) ?_
                      rotate_left
                      · intro w hSw; (try dsimp only at hSw); first | (go_simp; done) | (go_simp; with_reducible rfl)
                      try simp only [Act.put, List.getElem_toArray, List.getElem_cons_succ, List.getElem_cons_zero, List.setIfInBounds_toArray, List.set_cons_zero, List.set_cons_succ]
                      refine wpAnyT_take (i := 9) (v := ?_) rfl (by decide +kernel) (by decide +kernel) (by decide +kernel) (by decide +kernel) (by decide +kernel) (fun _ _ _ h => h) (Or.inl ⟨by rfl, ?_⟩) (by assumption) ?_
                      rotate_left
                      · intro w hSw; (try dsimp only at hSw); first | (go_simp; done) | (go_simp; with_reducible rfl)
                      try simp only [Act.put, List.getElem_toArray, List.getElem_cons_succ, List.getElem_cons_zero, List.setIfInBounds_toArray, List.set_cons_zero, List.set_cons_succ]
                      refine wpAnyT_take (i := 10) (v := ?_) rfl (by decide +kernel) (by decide +kernel) (by decide +kernel) (by decide +kernel) (by decide +kernel) (fun _ _ _ h => h) (Or.inl ⟨by rfl, ?_⟩) (by assumption) ?_
                      rotate_left
                      · intro w hSw; (try dsimp only at hSw); first | (go_simp; done) | (go_simp; with_reducible rfl)
                      try simp only [Act.put, List.getElem_toArray, List.getElem_cons_succ, List.getElem_cons_zero, List.setIfInBounds_toArray, List.set_cons_zero, List.set_cons_succ]
                      refine wpAnyT_take (i := 11) (v := ?_) rfl (by decide +kernel) (by decide +kernel) (by decide +kernel) (by decide +kernel) (by decide +kernel) (fun _ _ _ h => h) (Or.inl ⟨by rfl, ?_⟩) (by assumption) ?_
                      rotate_left
                      · intro w hSw; (try dsimp only at hSw); first | (go_simp; done) | (go_simp; with_reducible rfl)
                      try simp only [Act.put, List.getElem_toArray, List.getElem_cons_succ, List.getElem_cons_zero, List.setIfInBounds_toArray, List.set_cons_zero, List.set_cons_succ]
                      refine wpAnyT_take (i := 12) (v := ?_) rfl (by decide +kernel) (by decide +kernel) (by decide +kernel) (by decide +kernel) (by decide +kernel) (fun _ _ _ h => h) (Or.inl ⟨by rfl, ?_⟩) (by assumption) ?_
                      rotate_left
                      · intro w hSw; (try dsimp only at hSw); first | (go_simp; done) | (go_simp; with_reducible rfl)
                      try simp only [Act.put, List.getElem_toArray, List.getElem_cons_succ, List.getElem_cons_zero, List.setIfInBounds_toArray, List.set_cons_zero, List.set_cons_succ]
                      refine wpAnyT_take (i := 13) (v := ?_) rfl (by decide +kernel) (by decide +kernel) (by decide +kernel) (by decide +kernel) (by decide +kernel) (fun _ _ _ h => h) (Or.inl ⟨by rfl, ?_⟩) (by assumption) ?_
                      rotate_left
                      · intro w hSw; (try dsimp only at hSw); first | (go_simp; done) | (go_simp; with_reducible rfl)
                      try simp only [Act.put, List.getElem_toArray, List.getElem_cons_succ, List.getElem_cons_zero, List.setIfInBounds_toArray, List.set_cons_zero, List.set_cons_succ]
                      refine wpAnyT_last (i := 14) (by kernel_rfl) (by kernel_rfl) rfl (by kernel_rfl) (fun K hK => ?_)
                      go_simp
                      refine hK.out _ _ ?_
                      clear hK K
                      try simp only [Act.put, List.getElem_toArray, List.getElem_cons_succ, List.getElem_cons_zero, List.setIfInBounds_toArray, List.set_cons_zero, List.set_cons_succ]
                      go_wp2_with fail
                      go_meet
                      exact ⟨rfl, HO5.out, HB5.out⟩
                case rest =>
                  obtain ⟨rfl, hO5, hb5⟩ := hcut
                  obtain ⟨W5, rfl⟩ : ∃ x : World, x = wc := ⟨_, rfl⟩
                  have HO5 := Lib.hid hO5
                  have HB5 := Lib.hid hb5
                  clear hO5 hb5
                  obtain ⟨om, hom⟩ : ∃ x, wOf l G k = x := ⟨_, rfl⟩
                  obtain ⟨aw, haw⟩ : ∃ x, awayB l G k = x := ⟨_, rfl⟩
                  have HFZ : Hid (gb (frozen0 l G) k = (decide (om = 0) || aw)) := by show _ = _; rw [frozen0_at (by rw [HN.out]; exact hkn), hom, haw]
                  have HAW : Hid (awayB l G k = aw) := haw
                  have HAT : Hid (awayB l true k = decide (C < q0)) := by show _ = _; unfold awayB cl; rw [if_pos rfl, HQ0.out, HQ1.out, HQ2.out, HCC.out]
                  have HAF : Hid (awayB l false k = decide (q0 < C)) := by show _ = _; unfold awayB cl; rw [if_neg (by simp), HQ0.out, HQ1.out, HQ2.out, HCC.out]
                  have cW := HO5.out.t.cell (i := k) (by rw [length_stage, HWL.out]; exact hkn)
                  have hgw : gz (stage (wTo l G n) (k + 1)) k = om := by
                    rw [← HTS.out G om hom, gz_set_same _ _ _ (by rw [HTL.out]; exact hkn)]
                  have cS := HO5.out.s.cell (i := k) (by show k < (size0 l).length; rw [HZL.out]; exact hkn)
                  rw [hgw] at cW
                  have hgs : gz (size0 l) k = C := HZK.out
                  rw [show gz ((size0 l, stageB (frozen0 l G) k) : St).1 k = C from hgs] at cS
                  have k0 := (HKC.out W5 HB5.out).1
                  have fF := HO5.out.f.free k
                  have cF := HO5.out.f.cell (i := k) (by show k < (stageB _ _).length; rw [HFL3.out]; exact hkn)
                  have HO6 : Hid (∀ fz, gb (frozen0 l G) k = fz → RLn SZ FR WT (size0 l, stageB (frozen0 l G) (k + 1)) (stage (wTo l G n) (k + 1)) (W5.setCell ⟨FR, k, none⟩ (.bool fz)).drew) := fun fz h => by
                    have := (HO5.out.setF k fz).drewN 1
                    rw [← HFA.out fz h]; exact this
                  have HB6 : Hid (∀ fz, Below w.heap.size w (W5.setCell ⟨FR, k, none⟩ (.bool fz)).drew) := fun fz => (HB5.out.setCell (p := ⟨FR, k, none⟩) HFT.out _).drew
                  have HZF : Hid (∀ fz, gb (frozen0 l G) k = fz → (W5.setCell ⟨FR, k, none⟩ (.bool fz)).drew.cell? ⟨FR, k, none⟩ = some (.bool fz)) := fun fz h => by
                    have := (HO6.out fz h).f.cell (i := k) (by show k < (stageB _ _).length; rw [stageB_len, HFL.out]; exact hkn)
                    rw [this]
                    show some (Value.bool (gb (stageB (frozen0 l G) (k + 1)) k)) = _
                    rw [← HFA.out fz h, gb_set_same (by rw [HFL3.out]; exact hkn)]
                  clear hgw hgs hom haw hfx
                  by_cases c0 : om = 0
                  ·
                    as_aux_lemma =>
                      have e0 : (om == 0) = true := by simp [c0]
                      have hfz : gb (frozen0 l G) k = true := by rw [HFZ.out, c0]; simp
                      have hcn : (opensTo (frozen0 l G) (k + 1)).length = m := by rw [HCN.out, hfz]; rfl
                      have HCN2 := Lib.hid hcn
                      have HO7 := Lib.hid (HO6.out true hfz)
                      have HB7 := Lib.hid (HB6.out true)
                      have HZ7 := Lib.hid (HZF.out true hfz)
                      clear c0 hfz hcn
                      go_upto_region 31 with fail
                      refine wp_region_T (S := (fun w' => w'.cell? ⟨WT, k, none⟩ = some (.int .i64 om))) 39 (by kernel_rfl) (cW) (fun hHeld => ?_)
                      refine wpAnyT_take (i := 0) (v := ?_) rfl (by decide +kernel) (by decide +kernel) (by decide +kernel) (by decide +kernel) (by decide +kernel) (fun _ _ _ h => h) (Or.inl ⟨by rfl, ?_⟩) (by assumption) ?_
                      rotate_left
                      · intro w hSw; (try dsimp only at hSw); first | (go_simp; done) | (go_simp; with_reducible rfl)
                      try simp only [Act.put, List.getElem_toArray, List.getElem_cons_succ, List.getElem_cons_zero, List.setIfInBounds_toArray, List.set_cons_zero, List.set_cons_succ]
                      refine wpAnyT_take (i := 1) (v := ?_) rfl (by decide +kernel) (by decide +kernel) (by decide +kernel) (by decide +kernel) (by decide +kernel) (fun _ _ _ h => h) (Or.inl ⟨by rfl, ?_⟩) (by assumption) ?_
                      rotate_left
                      · intro w hSw; (try dsimp only at hSw); first | (go_simp; done) | (go_simp; with_reducible rfl)
                      try simp only [Act.put, List.getElem_toArray, List.getElem_cons_succ, List.getElem_cons_zero, List.setIfInBounds_toArray, List.set_cons_zero, List.set_cons_succ]
                      refine wpAnyT_take (i := 2) (v := ?_) rfl (by decide +kernel) (by decide +kernel) (by decide +kernel) (by decide +kernel) (by decide +kernel) (fun _ _ _ h => h) (Or.inl ⟨by rfl, ?_⟩) (by assumption) ?_
                      rotate_left
                      · intro w hSw; (try dsimp only at hSw); first | (go_simp; done) | (go_simp; with_reducible rfl)
                      try simp only [Act.put, List.getElem_toArray, List.getElem_cons_succ, List.getElem_cons_zero, List.setIfInBounds_toArray, List.set_cons_zero, List.set_cons_succ]
                      refine wpAnyT_take (i := 3) (v := ?_) rfl (by decide +kernel) (by decide +kernel) (by decide +kernel) (by decide +kernel) (by decide +kernel) (fun _ _ _ h => h) (Or.inl ⟨by rfl, ?_⟩) (by assumption) ?_
                      rotate_left
                      · intro w hSw; (try dsimp only at hSw); first | (go_simp; done) | (go_simp; with_reducible rfl)
                      try simp only [Act.put, List.getElem_toArray, List.getElem_cons_succ, List.getElem_cons_zero, List.setIfInBounds_toArray, List.set_cons_zero, List.set_cons_succ]
                      refine wpAnyT_take (i := 4) (v := ?_) rfl (by decide +kernel) (by decide +kernel) (by decide +kernel) (by decide +kernel) (by decide +kernel) (fun _ _ _ h => h) (Or.inl ⟨by rfl, ?_⟩) (by assumption) ?_
                      rotate_left
                      · intro w hSw; (try dsimp only at hSw); first | (go_simp; done) | (go_simp; with_reducible rfl)
                      try simp only [Act.put, List.getElem_toArray, List.getElem_cons_succ, List.getElem_cons_zero, List.setIfInBounds_toArray, List.set_cons_zero, List.set_cons_succ]
                      refine wpAnyT_take (i := 5) (v := ?_) rfl (by decide +kernel) (by decide +kernel) (by decide +kernel) (by decide +kernel) (by decide +kernel) (fun _ _ _ h => h) (Or.inl ⟨by rfl, ?_⟩) (by assumption) ?_
                      rotate_left
                      · intro w hSw; (try dsimp only at hSw); first | (go_simp; done) | (go_simp; with_reducible rfl)
                      try simp only [Act.put, List.getElem_toArray, List.getElem_cons_succ, List.getElem_cons_zero, List.setIfInBounds_toArray, List.set_cons_zero, List.set_cons_succ]
                      refine wpAnyT_take (i := 6) (v := ?_) rfl (by decide +kernel) (by decide +kernel) (by decide +kernel) (by decide +kernel) (by decide +kernel) (fun _ _ _ h => h) (Or.inl ⟨by rfl, ?_⟩) (by assumption) ?_
                      rotate_left
                      · intro w hSw; (try dsimp only at hSw); first | (go_simp; done) | (go_simp; with_reducible rfl)
                      try simp only [Act.put, List.getElem_toArray, List.getElem_cons_succ, List.getElem_cons_zero, List.setIfInBounds_toArray, List.set_cons_zero, List.set_cons_succ]
                      refine wpAnyT_take (i := 7) (v := ?_) rfl (by decide +kernel) (by decide +kernel) (by decide +kernel) (by decide +kernel) (by decide +kernel) (fun _ _ _ h => h) (Or.inl ⟨by rfl, ?_⟩) (by assumption) ?_
                      rotate_left
                      · intro w hSw; (try dsimp only at hSw); first | (go_simp; done) | (go_simp; with_reducible rfl)
                      try simp only [Act.put, List.getElem_toArray, List.getElem_cons_succ, List.getElem_cons_zero, List.setIfInBounds_toArray, List.set_cons_zero, List.set_cons_succ]
                      refine wpAnyT_take (i := 8) (v := undef) rfl (by decide +kernel) (by decide +kernel) (by decide +kernel) (by decide +kernel) (by decide +kernel) (fun _ _ _ h => h) (Or.inr ⟨by rfl, rfl⟩) (by assumption) ?_
                      try simp only [Act.put, List.getElem_toArray, List.getElem_cons_succ, List.getElem_cons_zero, List.setIfInBounds_toArray, List.set_cons_zero, List.set_cons_succ]
                      refine wpAnyT_take (i := 9) (v := undef) rfl (by decide +kernel) (by decide +kernel) (by decide +kernel) (by decide +kernel) (by decide +kernel) (fun _ _ _ h => h) (Or.inr ⟨by rfl, rfl⟩) (by assumption) ?_
                      try simp only [Act.put, List.getElem_toArray, List.getElem_cons_succ, List.getElem_cons_zero, List.setIfInBounds_toArray, List.set_cons_zero, List.set_cons_succ]
                      refine wpAnyT_take (i := 10) (v := undef) rfl (by decide +kernel) (by decide +kernel) (by decide +kernel) (by decide +kernel) (by decide +kernel) (fun _ _ _ h => h) (Or.inr ⟨by rfl, rfl⟩) (by assumption) ?_
                      try simp only [Act.put, List.getElem_toArray, List.getElem_cons_succ, List.getElem_cons_zero, List.setIfInBounds_toArray, List.set_cons_zero, List.set_cons_succ]
                      refine wpAnyT_take (i := 11) (v := undef) rfl (by decide +kernel) (by decide +kernel) (by decide +kernel) (by decide +kernel) (by decide +kernel) (fun _ _ _ h => h) (Or.inr ⟨by rfl, rfl⟩) (by assumption) ?_
                      try simp only [Act.put, List.getElem_toArray, List.getElem_cons_succ, List.getElem_cons_zero, List.setIfInBounds_toArray, List.set_cons_zero, List.set_cons_succ]
                      refine wpAnyT_take (i := 12) (v := undef) rfl (by decide +kernel) (by decide +kernel) (by decide +kernel) (by decide +kernel) (by decide +kernel) (fun _ _ _ h => h) (Or.inr ⟨by rfl, rfl⟩) (by assumption) ?_
                      try simp only [Act.put, List.getElem_toArray, List.getElem_cons_succ, List.getElem_cons_zero, List.setIfInBounds_toArray, List.set_cons_zero, List.set_cons_succ]
                      refine wpAnyT_take (i := 13) (v := undef) rfl (by decide +kernel) (by decide +kernel) (by decide +kernel) (by decide +kernel) (by decide +kernel) (fun _ _ _ h => h) (Or.inr ⟨by rfl, rfl⟩) (by assumption) ?_
                      try simp only [Act.put, List.getElem_toArray, List.getElem_cons_succ, List.getElem_cons_zero, List.setIfInBounds_toArray, List.set_cons_zero, List.set_cons_succ]
                      refine wpAnyT_take (i := 14) (v := undef) rfl (by decide +kernel) (by decide +kernel) (by decide +kernel) (by decide +kernel) (by decide +kernel) (fun _ _ _ h => h) (Or.inr ⟨by rfl, rfl⟩) (by assumption) ?_
                      try simp only [Act.put, List.getElem_toArray, List.getElem_cons_succ, List.getElem_cons_zero, List.setIfInBounds_toArray, List.set_cons_zero, List.set_cons_succ]
                      refine wpAnyT_take (i := 15) (v := undef) rfl (by decide +kernel) (by decide +kernel) (by decide +kernel) (by decide +kernel) (by decide +kernel) (fun _ _ _ h => h) (Or.inr ⟨by rfl, rfl⟩) (by assumption) ?_
                      try simp only [Act.put, List.getElem_toArray, List.getElem_cons_succ, List.getElem_cons_zero, List.setIfInBounds_toArray, List.set_cons_zero, List.set_cons_succ]
                      refine wpAnyT_take (i := 16) (v := undef) rfl (by decide +kernel) (by decide +kernel) (by decide +kernel) (by decide +kernel) (by decide +kernel) (fun _ _ _ h => h) (Or.inr ⟨by rfl, rfl⟩) (by assumption) ?_
                      try simp only [Act.put, List.getElem_toArray, List.getElem_cons_succ, List.getElem_cons_zero, List.setIfInBounds_toArray, List.set_cons_zero, List.set_cons_succ]
                      refine wpAnyT_take (i := 17) (v := undef) rfl (by decide +kernel) (by decide +kernel) (by decide +kernel) (by decide +kernel) (by decide +kernel) (fun _ _ _ h => h) (Or.inr ⟨by rfl, rfl⟩) (by assumption) ?_
                      try simp only [Act.put, List.getElem_toArray, List.getElem_cons_succ, List.getElem_cons_zero, List.setIfInBounds_toArray, List.set_cons_zero, List.set_cons_succ]
                      refine wpAnyT_take (i := 18) (v := undef) rfl (by decide +kernel) (by decide +kernel) (by decide +kernel) (by decide +kernel) (by decide +kernel) (fun _ _ _ h => h) (Or.inr ⟨by rfl, rfl⟩) (by assumption) ?_
                      try simp only [Act.put, List.getElem_toArray, List.getElem_cons_succ, List.getElem_cons_zero, List.setIfInBounds_toArray, List.set_cons_zero, List.set_cons_succ]
                      refine wpAnyT_take (i := 19) (v := undef) rfl (by decide +kernel) (by decide +kernel) (by decide +kernel) (by decide +kernel) (by decide +kernel) (fun _ _ _ h => h) (Or.inr ⟨by rfl, rfl⟩) (by assumption) ?_
                      try simp only [Act.put, List.getElem_toArray, List.getElem_cons_succ, List.getElem_cons_zero, List.setIfInBounds_toArray, List.set_cons_zero, List.set_cons_succ]
                      refine wpAnyT_take (i := 20) (v := undef) rfl (by decide +kernel) (by decide +kernel) (by decide +kernel) (by decide +kernel) (by decide +kernel) (fun _ _ _ h => h) (Or.inr ⟨by rfl, rfl⟩) (by assumption) ?_
                      try simp only [Act.put, List.getElem_toArray, List.getElem_cons_succ, List.getElem_cons_zero, List.setIfInBounds_toArray, List.set_cons_zero, List.set_cons_succ]
                      refine wpAnyT_take (i := 21) (v := ?_) rfl (by decide +kernel) (by decide +kernel) (by decide +kernel) (by decide +kernel) (by decide +kernel) (fun _ _ _ h => h) (Or.inl ⟨by rfl, ?_⟩) (by assumption) ?_
                      rotate_left
                      · intro w hSw; (try dsimp only at hSw); first | (go_simp; done) | (go_simp; with_reducible rfl)
                      try simp only [Act.put, List.getElem_toArray, List.getElem_cons_succ, List.getElem_cons_zero, List.setIfInBounds_toArray, List.set_cons_zero, List.set_cons_succ]
                      refine wpAnyT_take (i := 22) (v := ?_) rfl (by decide +kernel) (by decide +kernel) (by decide +kernel) (by decide +kernel) (by decide +kernel) (fun _ _ _ h => h) (Or.inl ⟨by rfl, ?_⟩) (by assumption) ?_
                      rotate_left
                      · intro w hSw; (try dsimp only at hSw); first | (go_simp; done) | (go_simp; with_reducible rfl)
                      try simp only [Act.put, List.getElem_toArray, List.getElem_cons_succ, List.getElem_cons_zero, List.setIfInBounds_toArray, List.set_cons_zero, List.set_cons_succ]
                      refine wpAnyT_take (i := 23) (v := undef) rfl (by decide +kernel) (by decide +kernel) (by decide +kernel) (by decide +kernel) (by decide +kernel) (fun _ _ _ h => h) (Or.inr ⟨by rfl, rfl⟩) (by assumption) ?_
                      try simp only [Act.put, List.getElem_toArray, List.getElem_cons_succ, List.getElem_cons_zero, List.setIfInBounds_toArray, List.set_cons_zero, List.set_cons_succ]
                      refine wpAnyT_take (i := 24) (v := undef) rfl (by decide +kernel) (by decide +kernel) (by decide +kernel) (by decide +kernel) (by decide +kernel) (fun _ _ _ h => h) (Or.inr ⟨by rfl, rfl⟩) (by assumption) ?_
                      try simp only [Act.put, List.getElem_toArray, List.getElem_cons_succ, List.getElem_cons_zero, List.setIfInBounds_toArray, List.set_cons_zero, List.set_cons_succ]
                      refine wpAnyT_take (i := 25) (v := undef) rfl (by decide +kernel) (by decide +kernel) (by decide +kernel) (by decide +kernel) (by decide +kernel) (fun _ _ _ h => h) (Or.inr ⟨by rfl, rfl⟩) (by assumption) ?_
                      try simp only [Act.put, List.getElem_toArray, List.getElem_cons_succ, List.getElem_cons_zero, List.setIfInBounds_toArray, List.set_cons_zero, List.set_cons_succ]
                      refine wpAnyT_take (i := 26) (v := undef) rfl (by decide +kernel) (by decide +kernel) (by decide +kernel) (by decide +kernel) (by decide +kernel) (fun _ _ _ h => h) (Or.inr ⟨by rfl, rfl⟩) (by assumption) ?_
                      try simp only [Act.put, List.getElem_toArray, List.getElem_cons_succ, List.getElem_cons_zero, List.setIfInBounds_toArray, List.set_cons_zero, List.set_cons_succ]
                      refine wpAnyT_take (i := 27) (v := undef) rfl (by decide +kernel) (by decide +kernel) (by decide +kernel) (by decide +kernel) (by decide +kernel) (fun _ _ _ h => h) (Or.inr ⟨by rfl, rfl⟩) (by assumption) ?_
                      try simp only [Act.put, List.getElem_toArray, List.getElem_cons_succ, List.getElem_cons_zero, List.setIfInBounds_toArray, List.set_cons_zero, List.set_cons_succ]
                      refine wpAnyT_take (i := 28) (v := undef) rfl (by decide +kernel) (by decide +kernel) (by decide +kernel) (by decide +kernel) (by decide +kernel) (fun _ _ _ h => h) (Or.inr ⟨by rfl, rfl⟩) (by assumption) ?_
                      try simp only [Act.put, List.getElem_toArray, List.getElem_cons_succ, List.getElem_cons_zero, List.setIfInBounds_toArray, List.set_cons_zero, List.set_cons_succ]
                      refine wpAnyT_take (i := 29) (v := undef) rfl (by decide +kernel) (by decide +kernel) (by decide +kernel) (by decide +kernel) (by decide +kernel) (fun _ _ _ h => h) (Or.inr ⟨by rfl, rfl⟩) (by assumption) ?_
                      try simp only [Act.put, List.getElem_toArray, List.getElem_cons_succ, List.getElem_cons_zero, List.setIfInBounds_toArray, List.set_cons_zero, List.set_cons_succ]
                      refine wpAnyT_take (i := 30) (v := undef) rfl (by decide +kernel) (by decide +kernel) (by decide +kernel) (by decide +kernel) (by decide +kernel) (fun _ _ _ h => h) (Or.inr ⟨by rfl, rfl⟩) (by assumption) ?_
                      try simp only [Act.put, List.getElem_toArray, List.getElem_cons_succ, List.getElem_cons_zero, List.setIfInBounds_toArray, List.set_cons_zero, List.set_cons_succ]
                      refine wpAnyT_take (i := 31) (v := undef) rfl (by decide +kernel) (by decide +kernel) (by decide +kernel) (by decide +kernel) (by decide +kernel) (fun _ _ _ h => h) (Or.inr ⟨by rfl, rfl⟩) (by assumption) ?_
                      try simp only [Act.put, List.getElem_toArray, List.getElem_cons_succ, List.getElem_cons_zero, List.setIfInBounds_toArray, List.set_cons_zero, List.set_cons_succ]
                      refine wpAnyT_take (i := 32) (v := undef) rfl (by decide +kernel) (by decide +kernel) (by decide +kernel) (by decide +kernel) (by decide +kernel) (fun _ _ _ h => h) (Or.inr ⟨by rfl, rfl⟩) (by assumption) ?_
                      try simp only [Act.put, List.getElem_toArray, List.getElem_cons_succ, List.getElem_cons_zero, List.setIfInBounds_toArray, List.set_cons_zero, List.set_cons_succ]
                      refine wpAnyT_take (i := 33) (v := undef) rfl (by decide +kernel) (by decide +kernel) (by decide +kernel) (by decide +kernel) (by decide +kernel) (fun _ _ _ h => h) (Or.inr ⟨by rfl, rfl⟩) (by assumption) ?_
                      try simp only [Act.put, List.getElem_toArray, List.getElem_cons_succ, List.getElem_cons_zero, List.setIfInBounds_toArray, List.set_cons_zero, List.set_cons_succ]
                      refine wpAnyT_take (i := 34) (v := undef) rfl (by decide +kernel) (by decide +kernel) (by decide +kernel) (by decide +kernel) (by decide +kernel) (fun _ _ _ h => h) (Or.inr ⟨by rfl, rfl⟩) (by assumption) ?_
                      try simp only [Act.put, List.getElem_toArray, List.getElem_cons_succ, List.getElem_cons_zero, List.setIfInBounds_toArray, List.set_cons_zero, List.set_cons_succ]
                      refine wpAnyT_take (i := 35) (v := undef) rfl (by decide +kernel) (by decide +kernel) (by decide +kernel) (by decide +kernel) (by decide +kernel) (fun _ _ _ h => h) (Or.inr ⟨by rfl, rfl⟩) (by assumption) ?_
                      try simp only [Act.put, List.getElem_toArray, List.getElem_cons_succ, List.getElem_cons_zero, List.setIfInBounds_toArray, List.set_cons_zero, List.set_cons_succ]
                      refine wpAnyT_take (i := 36) (v := undef) rfl (by decide +kernel) (by decide +kernel) (by decide +kernel) (by decide +kernel) (by decide +kernel) (fun _ _ _ h => h) (Or.inr ⟨by rfl, rfl⟩) (by assumption) ?_
                      try simp only [Act.put, List.getElem_toArray, List.getElem_cons_succ, List.getElem_cons_zero, List.setIfInBounds_toArray, List.set_cons_zero, List.set_cons_succ]
                      refine wpAnyT_take (i := 37) (v := ?_) rfl (by decide +kernel) (by decide +kernel) (by decide +kernel) (by decide +kernel) (by decide +kernel) (fun _ _ _ h => h) (Or.inl ⟨by rfl, ?_⟩) (by assumption) ?_
                      rotate_left
                      · intro w hSw; (try dsimp only at hSw); first | (go_simp; done) | (go_simp; with_reducible rfl)
                      try simp only [Act.put, List.getElem_toArray, List.getElem_cons_succ, List.getElem_cons_zero, List.setIfInBounds_toArray, List.set_cons_zero, List.set_cons_succ]
                      refine wpAnyT_take (i := 38) (v := ?_) rfl (by decide +kernel) (by decide +kernel) (by decide +kernel) (by decide +kernel) (by decide +kernel) (fun _ _ _ h => h) (Or.inl ⟨by rfl, ?_⟩) (by assumption) ?_
                      rotate_left
                      · intro w hSw; (try dsimp only at hSw); first | (go_simp; done) | (go_simp; with_reducible rfl)
                      try simp only [Act.put, List.getElem_toArray, List.getElem_cons_succ, List.getElem_cons_zero, List.setIfInBounds_toArray, List.set_cons_zero, List.set_cons_succ]
                      refine wpAnyT_last (i := 39) (by kernel_rfl) (by kernel_rfl) rfl (by kernel_rfl) (fun K hK => ?_)
                      go_simp
                      refine hK.out _ _ ?_
                      clear hK K
                      try simp only [Act.put, List.getElem_toArray, List.getElem_cons_succ, List.getElem_cons_zero, List.setIfInBounds_toArray, List.set_cons_zero, List.set_cons_succ]
                      clear hHeld fF cF cW cS k0
                      go_upto_region 32 with fail
                      obtain ⟨W6, hW6⟩ : ∃ W, (W5.setCell ⟨FR, k, none⟩ (.bool true)).drew = W := ⟨_, rfl⟩
                      rw [hW6] at HO7 HB7 HZ7 ⊢
                      have zF := HZ7.out
                      clear hW6
                      go_wp2_with fail
                      go_roundw
                      case rel => exact ⟨k + 1, by omega, by go_num, by rw [HCN2.out], HO7.out, HB7.out⟩
                      case measure => simp [intOf]; omega
                  · have e0 : (om == 0) = false := by simp [c0]
                    have hfz : gb (frozen0 l G) k = aw := by rw [HFZ.out]; simp [c0]
                    have HCN2 : Hid ((opensTo (frozen0 l G) (k + 1)).length = m + (if aw then 0 else 1)) := by show _ = _; rw [HCN.out, hfz]
                    have HO7 := Lib.hid (HO6.out aw hfz)
                    have HB7 := Lib.hid (HB6.out aw)
                    have HZ7 := Lib.hid (HZF.out aw hfz)
                    clear c0 hfz
                    cases G with
                    | true =>
                      as_aux_lemma =>
                        have hcw : decide (C < q0) = aw := by rw [← HAT.out]; exact HAW.out
                        cases aw with
                        | true =>
                          go_upto_region 31 with fail
                          refine wp_region_T (S := (fun w' => w'.cell? ⟨WT, k, none⟩ = some (.int .i64 om) ∧ w'.cell? ⟨SZ, k, none⟩ = some (.int .i64 C) ∧ w'.cell? ⟨b, off + k * 5, none⟩ = some (.int .i64 q0))) 39 (by kernel_rfl) (⟨cW, cS, k0⟩) (fun hHeld => ?_)
                          refine wpAnyT_take (i := 0) (v := ?_) rfl (by decide +kernel) (by decide +kernel) (by decide +kernel) (by decide +kernel) (by decide +kernel) (fun _ _ _ h => h) (Or.inl ⟨by rfl, ?_⟩) (by assumption) ?_
                          rotate_left
                          · intro w hSw; (try dsimp only at hSw); first | (go_simp; done) | (go_simp; with_reducible rfl)
                          try simp only [Act.put, List.getElem_toArray, List.getElem_cons_succ, List.getElem_cons_zero, List.setIfInBounds_toArray, List.set_cons_zero, List.set_cons_succ]
                          refine wpAnyT_take (i := 1) (v := ?_) rfl (by decide +kernel) (by decide +kernel) (by decide +kernel) (by decide +kernel) (by decide +kernel) (fun _ _ _ h => h) (Or.inl ⟨by rfl, ?_⟩) (by assumption) ?_
                          rotate_left
                          · intro w hSw; (try dsimp only at hSw); first | (go_simp; done) | (go_simp; with_reducible rfl)
                          try simp only [Act.put, List.getElem_toArray, List.getElem_cons_succ, List.getElem_cons_zero, List.setIfInBounds_toArray, List.set_cons_zero, List.set_cons_succ]
                          refine wpAnyT_take (i := 2) (v := ?_) rfl (by decide +kernel) (by decide +kernel) (by decide +kernel) (by decide +kernel) (by decide +kernel) (fun _ _ _ h => h) (Or.inl ⟨by rfl, ?_⟩) (by assumption) ?_
                          rotate_left
                          · intro w hSw; (try dsimp only at hSw); first | (go_simp; done) | (go_simp; with_reducible rfl)
                          try simp only [Act.put, List.getElem_toArray, List.getElem_cons_succ, List.getElem_cons_zero, List.setIfInBounds_toArray, List.set_cons_zero, List.set_cons_succ]
                          refine wpAnyT_take (i := 3) (v := ?_) rfl (by decide +kernel) (by decide +kernel) (by decide +kernel) (by decide +kernel) (by decide +kernel) (fun _ _ _ h => h) (Or.inl ⟨by rfl, ?_⟩) (by assumption) ?_
                          rotate_left
                          · intro w hSw; (try dsimp only at hSw); first | (go_simp; done) | (go_simp; with_reducible rfl)
                          try simp only [Act.put, List.getElem_toArray, List.getElem_cons_succ, List.getElem_cons_zero, List.setIfInBounds_toArray, List.set_cons_zero, List.set_cons_succ]
                          refine wpAnyT_take (i := 4) (v := ?_) rfl (by decide +kernel) (by decide +kernel) (by decide +kernel) (by decide +kernel) (by decide +kernel) (fun _ _ _ h => h) (Or.inl ⟨by rfl, ?_⟩) (by assumption) ?_
                          rotate_left
                          · intro w hSw; (try dsimp only at hSw); first | (go_simp; done) | (go_simp; with_reducible rfl)
                          try simp only [Act.put, List.getElem_toArray, List.getElem_cons_succ, List.getElem_cons_zero, List.setIfInBounds_toArray, List.set_cons_zero, List.set_cons_succ]
                          refine wpAnyT_take (i := 5) (v := ?_) rfl (by decide +kernel) (by decide +kernel) (by decide +kernel) (by decide +kernel) (by decide +kernel) (fun _ _ _ h => h) (Or.inl ⟨by rfl, ?_⟩) (by assumption) ?_
                          rotate_left
                          · intro w hSw; (try dsimp only at hSw); first | (go_simp; done) | (go_simp; with_reducible rfl)
                          try simp only [Act.put, List.getElem_toArray, List.getElem_cons_succ, List.getElem_cons_zero, List.setIfInBounds_toArray, List.set_cons_zero, List.set_cons_succ]
                          refine wpAnyT_take (i := 6) (v := ?_) rfl (by decide +kernel) (by decide +kernel) (by decide +kernel) (by decide +kernel) (by decide +kernel) (fun _ _ _ h => h) (Or.inl ⟨by rfl, ?_⟩) (by assumption) ?_
                          rotate_left
                          · intro w hSw; (try dsimp only at hSw); first | (go_simp; done) | (go_simp; with_reducible rfl)
                          try simp only [Act.put, List.getElem_toArray, List.getElem_cons_succ, List.getElem_cons_zero, List.setIfInBounds_toArray, List.set_cons_zero, List.set_cons_succ]
                          refine wpAnyT_take (i := 7) (v := ?_) rfl (by decide +kernel) (by decide +kernel) (by decide +kernel) (by decide +kernel) (by decide +kernel) (fun _ _ _ h => h) (Or.inl ⟨by rfl, ?_⟩) (by assumption) ?_
                          rotate_left
                          · intro w hSw; (try dsimp only at hSw); first | (go_simp; done) | (go_simp; with_reducible rfl)
                          try simp only [Act.put, List.getElem_toArray, List.getElem_cons_succ, List.getElem_cons_zero, List.setIfInBounds_toArray, List.set_cons_zero, List.set_cons_succ]
                          refine wpAnyT_take (i := 8) (v := ?_) rfl (by decide +kernel) (by decide +kernel) (by decide +kernel) (by decide +kernel) (by decide +kernel) (fun _ _ _ h => h) (Or.inl ⟨by rfl, ?_⟩) (by assumption) ?_
                          rotate_left
                          · intro w hSw; (try dsimp only at hSw); first | (go_simp; done) | (go_simp; with_reducible rfl)
                          try simp only [Act.put, List.getElem_toArray, List.getElem_cons_succ, List.getElem_cons_zero, List.setIfInBounds_toArray, List.set_cons_zero, List.set_cons_succ]
                          refine wpAnyT_take (i := 9) (v := ?_) rfl (by decide +kernel) (by decide +kernel) (by decide +kernel) (by decide +kernel) (by decide +kernel) (fun _ _ _ h => h) (Or.inl ⟨by rfl, ?_⟩) (by assumption) ?_
                          rotate_left
                          · intro w hSw; (try dsimp only at hSw); first | (go_simp; done) | (go_simp; with_reducible rfl)
                          try simp only [Act.put, List.getElem_toArray, List.getElem_cons_succ, List.getElem_cons_zero, List.setIfInBounds_toArray, List.set_cons_zero, List.set_cons_succ]
                          refine wpAnyT_take (i := 10) (v := ?_) rfl (by decide +kernel) (by decide +kernel) (by decide +kernel) (by decide +kernel) (by decide +kernel) (fun _ _ _ h => h) (Or.inl ⟨by rfl, ?_⟩) (by assumption) ?_
                          rotate_left
                          · intro w hSw; (try dsimp only at hSw); first | (go_simp; done) | (go_simp; with_reducible rfl)
                          try simp only [Act.put, List.getElem_toArray, List.getElem_cons_succ, List.getElem_cons_zero, List.setIfInBounds_toArray, List.set_cons_zero, List.set_cons_succ]
                          refine wpAnyT_take (i := 11) (v := ?_) rfl (by decide +kernel) (by decide +kernel) (by decide +kernel) (by decide +kernel) (by decide +kernel) (fun _ _ _ h => h) (Or.inl ⟨by rfl, ?_⟩) (by assumption) ?_
                          rotate_left
                          · intro w hSw; (try dsimp only at hSw); first | (go_simp; done) | (go_simp; with_reducible rfl)
                          try simp only [Act.put, List.getElem_toArray, List.getElem_cons_succ, List.getElem_cons_zero, List.setIfInBounds_toArray, List.set_cons_zero, List.set_cons_succ]
                          refine wpAnyT_take (i := 12) (v := ?_) rfl (by decide +kernel) (by decide +kernel) (by decide +kernel) (by decide +kernel) (by decide +kernel) (fun _ _ _ h => h) (Or.inl ⟨by rfl, ?_⟩) (by assumption) ?_
                          rotate_left
                          · intro w hSw; (try dsimp only at hSw); first | (go_simp; done) | (go_simp; with_reducible rfl)
                          try simp only [Act.put, List.getElem_toArray, List.getElem_cons_succ, List.getElem_cons_zero, List.setIfInBounds_toArray, List.set_cons_zero, List.set_cons_succ]
                          refine wpAnyT_take (i := 13) (v := ?_) rfl (by decide +kernel) (by decide +kernel) (by decide +kernel) (by decide +kernel) (by decide +kernel) (fun _ _ _ h => h) (Or.inl ⟨by rfl, ?_⟩) (by assumption) ?_
                          rotate_left
                          · intro w hSw; (try dsimp only at hSw); first | (go_simp; done) | (go_simp; with_reducible rfl)
                          try simp only [Act.put, List.getElem_toArray, List.getElem_cons_succ, List.getElem_cons_zero, List.setIfInBounds_toArray, List.set_cons_zero, List.set_cons_succ]
                          refine wpAnyT_take (i := 14) (v := ?_) rfl (by decide +kernel) (by decide +kernel) (by decide +kernel) (by decide +kernel) (by decide +kernel) (fun _ _ _ h => h) (Or.inl ⟨by rfl, ?_⟩) (by assumption) ?_
                          rotate_left
                          · intro w hSw; (try dsimp only at hSw); first | (go_simp; done) | (go_simp; with_reducible rfl)
                          try simp only [Act.put, List.getElem_toArray, List.getElem_cons_succ, List.getElem_cons_zero, List.setIfInBounds_toArray, List.set_cons_zero, List.set_cons_succ]
                          refine wpAnyT_take (i := 15) (v := ?_) rfl (by decide +kernel) (by decide +kernel) (by decide +kernel) (by decide +kernel) (by decide +kernel) (fun _ _ _ h => h) (Or.inl ⟨by rfl, ?_⟩) (by assumption) ?_
                          rotate_left
                          · intro w hSw; (try dsimp only at hSw); first | (go_simp; done) | (go_simp; with_reducible rfl)
                          try simp only [Act.put, List.getElem_toArray, List.getElem_cons_succ, List.getElem_cons_zero, List.setIfInBounds_toArray, List.set_cons_zero, List.set_cons_succ]
                          refine wpAnyT_take (i := 16) (v := ?_) rfl (by decide +kernel) (by decide +kernel) (by decide +kernel) (by decide +kernel) (by decide +kernel) (fun _ _ _ h => h) (Or.inl ⟨by rfl, ?_⟩) (by assumption) ?_
                          rotate_left
                          · intro w hSw; (try dsimp only at hSw); first | (go_simp; done) | (go_simp; with_reducible rfl)
                          try simp only [Act.put, List.getElem_toArray, List.getElem_cons_succ, List.getElem_cons_zero, List.setIfInBounds_toArray, List.set_cons_zero, List.set_cons_succ]
                          refine wpAnyT_take (i := 17) (v := ?_) rfl (by decide +kernel) (by decide +kernel) (by decide +kernel) (by decide +kernel) (by decide +kernel) (fun _ _ _ h => h) (Or.inl ⟨by rfl, ?_⟩) (by assumption) ?_
                          rotate_left
                          · intro w hSw; (try dsimp only at hSw); first | (go_simp; done) | (go_simp; with_reducible rfl)
                          try simp only [Act.put, List.getElem_toArray, List.getElem_cons_succ, List.getElem_cons_zero, List.setIfInBounds_toArray, List.set_cons_zero, List.set_cons_succ]
                          refine wpAnyT_take (i := 18) (v := ?_) rfl (by decide +kernel) (by decide +kernel) (by decide +kernel) (by decide +kernel) (by decide +kernel) (fun _ _ _ h => h) (Or.inl ⟨by rfl, ?_⟩) (by assumption) ?_
                          rotate_left
                          · intro w hSw; (try dsimp only at hSw); first | (go_simp; done) | (go_simp; with_reducible rfl)
                          try simp only [Act.put, List.getElem_toArray, List.getElem_cons_succ, List.getElem_cons_zero, List.setIfInBounds_toArray, List.set_cons_zero, List.set_cons_succ]
                          refine wpAnyT_take (i := 19) (v := ?_) rfl (by decide +kernel) (by decide +kernel) (by decide +kernel) (by decide +kernel) (by decide +kernel) (fun _ _ _ h => h) (Or.inl ⟨by rfl, ?_⟩) (by assumption) ?_
                          rotate_left
                          · intro w hSw; (try dsimp only at hSw); first | (go_simp; done) | (go_simp; with_reducible rfl)
                          try simp only [Act.put, List.getElem_toArray, List.getElem_cons_succ, List.getElem_cons_zero, List.setIfInBounds_toArray, List.set_cons_zero, List.set_cons_succ]
                          refine wpAnyT_take (i := 20) (v := ?_) rfl (by decide +kernel) (by decide +kernel) (by decide +kernel) (by decide +kernel) (by decide +kernel) (fun _ _ _ h => h) (Or.inl ⟨by rfl, ?_⟩) (by assumption) ?_
                          rotate_left
                          · intro w hSw; (try dsimp only at hSw); first | (go_simp; done) | (go_simp; with_reducible rfl)
                          try simp only [Act.put, List.getElem_toArray, List.getElem_cons_succ, List.getElem_cons_zero, List.setIfInBounds_toArray, List.set_cons_zero, List.set_cons_succ]
                          refine wpAnyT_take (i := 21) (v := ?_) rfl (by decide +kernel) (by decide +kernel) (by decide +kernel) (by decide +kernel) (by decide +kernel) (fun _ _ _ h => h) (Or.inl ⟨by rfl, ?_⟩) (by assumption) ?_
                          rotate_left
                          · intro w hSw; (try dsimp only at hSw); first | (go_simp; done) | (go_simp; with_reducible rfl)
                          try simp only [Act.put, List.getElem_toArray, List.getElem_cons_succ, List.getElem_cons_zero, List.setIfInBounds_toArray, List.set_cons_zero, List.set_cons_succ]
                          refine wpAnyT_take (i := 22) (v := ?_) rfl (by decide +kernel) (by decide +kernel) (by decide +kernel) (by decide +kernel) (by decide +kernel) (fun _ _ _ h => h) (Or.inl ⟨by rfl, ?_⟩) (by assumption) ?_
                          rotate_left
                          · intro w hSw; (try dsimp only at hSw); first | (go_simp; done) | (go_simp; with_reducible rfl)
                          try simp only [Act.put, List.getElem_toArray, List.getElem_cons_succ, List.getElem_cons_zero, List.setIfInBounds_toArray, List.set_cons_zero, List.set_cons_succ]
                          refine wpAnyT_take (i := 23) (v := undef) rfl (by decide +kernel) (by decide +kernel) (by decide +kernel) (by decide +kernel) (by decide +kernel) (fun _ _ _ h => h) (Or.inr ⟨by rfl, rfl⟩) (by assumption) ?_
                          try simp only [Act.put, List.getElem_toArray, List.getElem_cons_succ, List.getElem_cons_zero, List.setIfInBounds_toArray, List.set_cons_zero, List.set_cons_succ]
                          refine wpAnyT_take (i := 24) (v := undef) rfl (by decide +kernel) (by decide +kernel) (by decide +kernel) (by decide +kernel) (by decide +kernel) (fun _ _ _ h => h) (Or.inr ⟨by rfl, rfl⟩) (by assumption) ?_
                          try simp only [Act.put, List.getElem_toArray, List.getElem_cons_succ, List.getElem_cons_zero, List.setIfInBounds_toArray, List.set_cons_zero, List.set_cons_succ]
                          refine wpAnyT_take (i := 25) (v := undef) rfl (by decide +kernel) (by decide +kernel) (by decide +kernel) (by decide +kernel) (by decide +kernel) (fun _ _ _ h => h) (Or.inr ⟨by rfl, rfl⟩) (by assumption) ?_
                          try simp only [Act.put, List.getElem_toArray, List.getElem_cons_succ, List.getElem_cons_zero, List.setIfInBounds_toArray, List.set_cons_zero, List.set_cons_succ]
                          refine wpAnyT_take (i := 26) (v := undef) rfl (by decide +kernel) (by decide +kernel) (by decide +kernel) (by decide +kernel) (by decide +kernel) (fun _ _ _ h => h) (Or.inr ⟨by rfl, rfl⟩) (by assumption) ?_
                          try simp only [Act.put, List.getElem_toArray, List.getElem_cons_succ, List.getElem_cons_zero, List.setIfInBounds_toArray, List.set_cons_zero, List.set_cons_succ]
                          refine wpAnyT_take (i := 27) (v := undef) rfl (by decide +kernel) (by decide +kernel) (by decide +kernel) (by decide +kernel) (by decide +kernel) (fun _ _ _ h => h) (Or.inr ⟨by rfl, rfl⟩) (by assumption) ?_
                          try simp only [Act.put, List.getElem_toArray, List.getElem_cons_succ, List.getElem_cons_zero, List.setIfInBounds_toArray, List.set_cons_zero, List.set_cons_succ]
                          refine wpAnyT_take (i := 28) (v := undef) rfl (by decide +kernel) (by decide +kernel) (by decide +kernel) (by decide +kernel) (by decide +kernel) (fun _ _ _ h => h) (Or.inr ⟨by rfl, rfl⟩) (by assumption) ?_
                          try simp only [Act.put, List.getElem_toArray, List.getElem_cons_succ, List.getElem_cons_zero, List.setIfInBounds_toArray, List.set_cons_zero, List.set_cons_succ]
                          refine wpAnyT_take (i := 29) (v := undef) rfl (by decide +kernel) (by decide +kernel) (by decide +kernel) (by decide +kernel) (by decide +kernel) (fun _ _ _ h => h) (Or.inr ⟨by rfl, rfl⟩) (by assumption) ?_
                          try simp only [Act.put, List.getElem_toArray, List.getElem_cons_succ, List.getElem_cons_zero, List.setIfInBounds_toArray, List.set_cons_zero, List.set_cons_succ]
                          refine wpAnyT_take (i := 30) (v := undef) rfl (by decide +kernel) (by decide +kernel) (by decide +kernel) (by decide +kernel) (by decide +kernel) (fun _ _ _ h => h) (Or.inr ⟨by rfl, rfl⟩) (by assumption) ?_
                          try simp only [Act.put, List.getElem_toArray, List.getElem_cons_succ, List.getElem_cons_zero, List.setIfInBounds_toArray, List.set_cons_zero, List.set_cons_succ]
                          refine wpAnyT_take (i := 31) (v := undef) rfl (by decide +kernel) (by decide +kernel) (by decide +kernel) (by decide +kernel) (by decide +kernel) (fun _ _ _ h => h) (Or.inr ⟨by rfl, rfl⟩) (by assumption) ?_
                          try simp only [Act.put, List.getElem_toArray, List.getElem_cons_succ, List.getElem_cons_zero, List.setIfInBounds_toArray, List.set_cons_zero, List.set_cons_succ]
                          refine wpAnyT_take (i := 32) (v := undef) rfl (by decide +kernel) (by decide +kernel) (by decide +kernel) (by decide +kernel) (by decide +kernel) (fun _ _ _ h => h) (Or.inr ⟨by rfl, rfl⟩) (by assumption) ?_
                          try simp only [Act.put, List.getElem_toArray, List.getElem_cons_succ, List.getElem_cons_zero, List.setIfInBounds_toArray, List.set_cons_zero, List.set_cons_succ]
                          refine wpAnyT_take (i := 33) (v := undef) rfl (by decide +kernel) (by decide +kernel) (by decide +kernel) (by decide +kernel) (by decide +kernel) (fun _ _ _ h => h) (Or.inr ⟨by rfl, rfl⟩) (by assumption) ?_
                          try simp only [Act.put, List.getElem_toArray, List.getElem_cons_succ, List.getElem_cons_zero, List.setIfInBounds_toArray, List.set_cons_zero, List.set_cons_succ]
                          refine wpAnyT_take (i := 34) (v := undef) rfl (by decide +kernel) (by decide +kernel) (by decide +kernel) (by decide +kernel) (by decide +kernel) (fun _ _ _ h => h) (Or.inr ⟨by rfl, rfl⟩) (by assumption) ?_
                          try simp only [Act.put, List.getElem_toArray, List.getElem_cons_succ, List.getElem_cons_zero, List.setIfInBounds_toArray, List.set_cons_zero, List.set_cons_succ]
                          refine wpAnyT_take (i := 35) (v := undef) rfl (by decide +kernel) (by decide +kernel) (by decide +kernel) (by decide +kernel) (by decide +kernel) (fun _ _ _ h => h) (Or.inr ⟨by rfl, rfl⟩) (by assumption) ?_
                          try simp only [Act.put, List.getElem_toArray, List.getElem_cons_succ, List.getElem_cons_zero, List.setIfInBounds_toArray, List.set_cons_zero, List.set_cons_succ]
                          refine wpAnyT_take (i := 36) (v := undef) rfl (by decide +kernel) (by decide +kernel) (by decide +kernel) (by decide +kernel) (by decide +kernel) (fun _ _ _ h => h) (Or.inr ⟨by rfl, rfl⟩) (by assumption) ?_
                          try simp only [Act.put, List.getElem_toArray, List.getElem_cons_succ, List.getElem_cons_zero, List.setIfInBounds_toArray, List.set_cons_zero, List.set_cons_succ]
                          refine wpAnyT_take (i := 37) (v := ?_) rfl (by decide +kernel) (by decide +kernel) (by decide +kernel) (by decide +kernel) (by decide +kernel) (fun _ _ _ h => h) (Or.inl ⟨by rfl, ?_⟩) (by assumption) ?_
                          rotate_left
                          · intro w hSw; (try dsimp only at hSw); first | (go_simp; done) | (go_simp; with_reducible rfl)
                          try simp only [Act.put, List.getElem_toArray, List.getElem_cons_succ, List.getElem_cons_zero, List.setIfInBounds_toArray, List.set_cons_zero, List.set_cons_succ]
                          refine wpAnyT_take (i := 38) (v := ?_) rfl (by decide +kernel) (by decide +kernel) (by decide +kernel) (by decide +kernel) (by decide +kernel) (fun _ _ _ h => h) (Or.inl ⟨by rfl, ?_⟩) (by assumption) ?_
                          rotate_left
                          · intro w hSw; (try dsimp only at hSw); first | (go_simp; done) | (go_simp; with_reducible rfl)
                          try simp only [Act.put, List.getElem_toArray, List.getElem_cons_succ, List.getElem_cons_zero, List.setIfInBounds_toArray, List.set_cons_zero, List.set_cons_succ]
                          refine wpAnyT_last (i := 39) (by kernel_rfl) (by kernel_rfl) rfl (by kernel_rfl) (fun K hK => ?_)
                          go_simp
                          refine hK.out _ _ ?_
                          clear hK K
                          try simp only [Act.put, List.getElem_toArray, List.getElem_cons_succ, List.getElem_cons_zero, List.setIfInBounds_toArray, List.set_cons_zero, List.set_cons_succ]
                          clear hHeld fF cF cW cS k0
                          go_upto_region 32 with fail
                          obtain ⟨W6, hW6⟩ : ∃ W, (W5.setCell ⟨FR, k, none⟩ (.bool true)).drew = W := ⟨_, rfl⟩
                          rw [hW6] at HO7 HB7 HZ7 ⊢
                          have zF := HZ7.out
                          clear hW6
                          go_wp2_with fail
                          go_roundw
                          case rel => exact ⟨k + 1, by omega, by go_num, by rw [HCN2.out]; rfl, HO7.out, HB7.out⟩
                          case measure => simp [intOf]; omega
                        | false =>
                          go_upto_region 31 with fail
                          refine wp_region_T (S := (fun w' => w'.cell? ⟨WT, k, none⟩ = some (.int .i64 om) ∧ w'.cell? ⟨SZ, k, none⟩ = some (.int .i64 C) ∧ w'.cell? ⟨b, off + k * 5, none⟩ = some (.int .i64 q0))) 39 (by kernel_rfl) (⟨cW, cS, k0⟩) (fun hHeld => ?_)
                          refine wpAnyT_take (i := 0) (v := ?_) rfl (by decide +kernel) (by decide +kernel) (by decide +kernel) (by decide +kernel) (by decide +kernel) (fun _ _ _ h => h) (Or.inl ⟨by rfl, ?_⟩) (by assumption) ?_
                          rotate_left
                          · intro w hSw; (try dsimp only at hSw); first | (go_simp; done) | (go_simp; with_reducible rfl)
                          try simp only [Act.put, List.getElem_toArray, List.getElem_cons_succ, List.getElem_cons_zero, List.setIfInBounds_toArray, List.set_cons_zero, List.set_cons_succ]
                          refine wpAnyT_take (i := 1) (v := ?_) rfl (by decide +kernel) (by decide +kernel) (by decide +kernel) (by decide +kernel) (by decide +kernel) (fun _ _ _ h => h) (Or.inl ⟨by rfl, ?_⟩) (by assumption) ?_
                          rotate_left
                          · intro w hSw; (try dsimp only at hSw); first | (go_simp; done) | (go_simp; with_reducible rfl)
                          try simp only [Act.put, List.getElem_toArray, List.getElem_cons_succ, List.getElem_cons_zero, List.setIfInBounds_toArray, List.set_cons_zero, List.set_cons_succ]
                          refine wpAnyT_take (i := 2) (v := ?_) rfl (by decide +kernel) (by decide +kernel) (by decide +kernel) (by decide +kernel) (by decide +kernel) (fun _ _ _ h => h) (Or.inl ⟨by rfl, ?_⟩) (by assumption) ?_
                          rotate_left
                          · intro w hSw; (try dsimp only at hSw); first | (go_simp; done) | (go_simp; with_reducible rfl)
                          try simp only [Act.put, List.getElem_toArray, List.getElem_cons_succ, List.getElem_cons_zero, List.setIfInBounds_toArray, List.set_cons_zero, List.set_cons_succ]
                          refine wpAnyT_take (i := 3) (v := ?_) rfl (by decide +kernel) (by decide +kernel) (by decide +kernel) (by decide +kernel) (by decide +kernel) (fun _ _ _ h => h) (Or.inl ⟨by rfl, ?_⟩) (by assumption) ?_
                          rotate_left
                          · intro w hSw; (try dsimp only at hSw); first | (go_simp; done) | (go_simp; with_reducible rfl)
                          try simp only [Act.put, List.getElem_toArray, List.getElem_cons_succ, List.getElem_cons_zero, List.setIfInBounds_toArray, List.set_cons_zero, List.set_cons_succ]
                          refine wpAnyT_take (i := 4) (v := ?_) rfl (by decide +kernel) (by decide +kernel) (by decide +kernel) (by decide +kernel) (by decide +kernel) (fun _ _ _ h => h) (Or.inl ⟨by rfl, ?_⟩) (by assumption) ?_
                          rotate_left
                          · intro w hSw; (try dsimp only at hSw); first | (go_simp; done) | (go_simp; with_reducible rfl)
                          try simp only [Act.put, List.getElem_toArray, List.getElem_cons_succ, List.getElem_cons_zero, List.setIfInBounds_toArray, List.set_cons_zero, List.set_cons_succ]
                          refine wpAnyT_take (i := 5) (v := ?_) rfl (by decide +kernel) (by decide +kernel) (by decide +kernel) (by decide +kernel) (by decide +kernel) (fun _ _ _ h => h) (Or.inl ⟨by rfl, ?_⟩) (by assumption) ?_
                          rotate_left
                          · intro w hSw; (try dsimp only at hSw); first | (go_simp; done) | (go_simp; with_reducible rfl)
                          try simp only [Act.put, List.getElem_toArray, List.getElem_cons_succ, List.getElem_cons_zero, List.setIfInBounds_toArray, List.set_cons_zero, List.set_cons_succ]
                          refine wpAnyT_take (i := 6) (v := ?_) rfl (by decide +kernel) (by decide +kernel) (by decide +kernel) (by decide +kernel) (by decide +kernel) (fun _ _ _ h => h) (Or.inl ⟨by rfl, ?_⟩) (by assumption) ?_
                          rotate_left
                          · intro w hSw; (try dsimp only at hSw); first | (go_simp; done) | (go_simp; with_reducible rfl)
                          try simp only [Act.put, List.getElem_toArray, List.getElem_cons_succ, List.getElem_cons_zero, List.setIfInBounds_toArray, List.set_cons_zero, List.set_cons_succ]
                          refine wpAnyT_take (i := 7) (v := ?_) rfl (by decide +kernel) (by decide +kernel) (by decide +kernel) (by decide +kernel) (by decide +kernel) (fun _ _ _ h => h) (Or.inl ⟨by rfl, ?_⟩) (by assumption) ?_
                          rotate_left
                          · intro w hSw; (try dsimp only at hSw); first | (go_simp; done) | (go_simp; with_reducible rfl)
                          try simp only [Act.put, List.getElem_toArray, List.getElem_cons_succ, List.getElem_cons_zero, List.setIfInBounds_toArray, List.set_cons_zero, List.set_cons_succ]
                          refine wpAnyT_take (i := 8) (v := ?_) rfl (by decide +kernel) (by decide +kernel) (by decide +kernel) (by decide +kernel) (by decide +kernel) (fun _ _ _ h => h) (Or.inl ⟨by rfl, ?_⟩) (by assumption) ?_
                          rotate_left
                          · intro w hSw; (try dsimp only at hSw); first | (go_simp; done) | (go_simp; with_reducible rfl)
                          try simp only [Act.put, List.getElem_toArray, List.getElem_cons_succ, List.getElem_cons_zero, List.setIfInBounds_toArray, List.set_cons_zero, List.set_cons_succ]
                          refine wpAnyT_take (i := 9) (v := ?_) rfl (by decide +kernel) (by decide +kernel) (by decide +kernel) (by decide +kernel) (by decide +kernel) (fun _ _ _ h => h) (Or.inl ⟨by rfl, ?_⟩) (by assumption) ?_
                          rotate_left
                          · intro w hSw; (try dsimp only at hSw); first | (go_simp; done) | (go_simp; with_reducible rfl)
                          try simp only [Act.put, List.getElem_toArray, List.getElem_cons_succ, List.getElem_cons_zero, List.setIfInBounds_toArray, List.set_cons_zero, List.set_cons_succ]
                          refine wpAnyT_take (i := 10) (v := ?_) rfl (by decide +kernel) (by decide +kernel) (by decide +kernel) (by decide +kernel) (by decide +kernel) (fun _ _ _ h => h) (Or.inl ⟨by rfl, ?_⟩) (by assumption) ?_
                          rotate_left
                          · intro w hSw; (try dsimp only at hSw); first | (go_simp; done) | (go_simp; with_reducible rfl)
                          try simp only [Act.put, List.getElem_toArray, List.getElem_cons_succ, List.getElem_cons_zero, List.setIfInBounds_toArray, List.set_cons_zero, List.set_cons_succ]
                          refine wpAnyT_take (i := 11) (v := ?_) rfl (by decide +kernel) (by decide +kernel) (by decide +kernel) (by decide +kernel) (by decide +kernel) (fun _ _ _ h => h) (Or.inl ⟨by rfl, ?_⟩) (by assumption) ?_
                          rotate_left
                          · intro w hSw; (try dsimp only at hSw); first | (go_simp; done) | (go_simp; with_reducible rfl)
                          try simp only [Act.put, List.getElem_toArray, List.getElem_cons_succ, List.getElem_cons_zero, List.setIfInBounds_toArray, List.set_cons_zero, List.set_cons_succ]
                          refine wpAnyT_take (i := 12) (v := ?_) rfl (by decide +kernel) (by decide +kernel) (by decide +kernel) (by decide +kernel) (by decide +kernel) (fun _ _ _ h => h) (Or.inl ⟨by rfl, ?_⟩) (by assumption) ?_
                          rotate_left
                          · intro w hSw; (try dsimp only at hSw); first | (go_simp; done) | (go_simp; with_reducible rfl)
                          try simp only [Act.put, List.getElem_toArray, List.getElem_cons_succ, List.getElem_cons_zero, List.setIfInBounds_toArray, List.set_cons_zero, List.set_cons_succ]
                          refine wpAnyT_take (i := 13) (v := ?_) rfl (by decide +kernel) (by decide +kernel) (by decide +kernel) (by decide +kernel) (by decide +kernel) (fun _ _ _ h => h) (Or.inl ⟨by rfl, ?_⟩) (by assumption) ?_
                          rotate_left
                          · intro w hSw; (try dsimp only at hSw); first | (go_simp; done) | (go_simp; with_reducible rfl)
                          try simp only [Act.put, List.getElem_toArray, List.getElem_cons_succ, List.getElem_cons_zero, List.setIfInBounds_toArray, List.set_cons_zero, List.set_cons_succ]
                          refine wpAnyT_take (i := 14) (v := ?_) rfl (by decide +kernel) (by decide +kernel) (by decide +kernel) (by decide +kernel) (by decide +kernel) (fun _ _ _ h => h) (Or.inl ⟨by rfl, ?_⟩) (by assumption) ?_
                          rotate_left
                          · intro w hSw; (try dsimp only at hSw); first | (go_simp; done) | (go_simp; with_reducible rfl)
                          try simp only [Act.put, List.getElem_toArray, List.getElem_cons_succ, List.getElem_cons_zero, List.setIfInBounds_toArray, List.set_cons_zero, List.set_cons_succ]
                          refine wpAnyT_take (i := 15) (v := ?_) rfl (by decide +kernel) (by decide +kernel) (by decide +kernel) (by decide +kernel) (by decide +kernel) (fun _ _ _ h => h) (Or.inl ⟨by rfl, ?_⟩) (by assumption) ?_
                          rotate_left
                          · intro w hSw; (try dsimp only at hSw); first | (go_simp; done) | (go_simp; with_reducible rfl)
                          try simp only [Act.put, List.getElem_toArray, List.getElem_cons_succ, List.getElem_cons_zero, List.setIfInBounds_toArray, List.set_cons_zero, List.set_cons_succ]
                          refine wpAnyT_take (i := 16) (v := ?_) rfl (by decide +kernel) (by decide +kernel) (by decide +kernel) (by decide +kernel) (by decide +kernel) (fun _ _ _ h => h) (Or.inl ⟨by rfl, ?_⟩) (by assumption) ?_
                          rotate_left
                          · intro w hSw; (try dsimp only at hSw); first | (go_simp; done) | (go_simp; with_reducible rfl)
                          try simp only [Act.put, List.getElem_toArray, List.getElem_cons_succ, List.getElem_cons_zero, List.setIfInBounds_toArray, List.set_cons_zero, List.set_cons_succ]
                          refine wpAnyT_take (i := 17) (v := ?_) rfl (by decide +kernel) (by decide +kernel) (by decide +kernel) (by decide +kernel) (by decide +kernel) (fun _ _ _ h => h) (Or.inl ⟨by rfl, ?_⟩) (by assumption) ?_
                          rotate_left
                          · intro w hSw; (try dsimp only at hSw); first | (go_simp; done) | (go_simp; with_reducible rfl)
                          try simp only [Act.put, List.getElem_toArray, List.getElem_cons_succ, List.getElem_cons_zero, List.setIfInBounds_toArray, List.set_cons_zero, List.set_cons_succ]
                          refine wpAnyT_take (i := 18) (v := ?_) rfl (by decide +kernel) (by decide +kernel) (by decide +kernel) (by decide +kernel) (by decide +kernel) (fun _ _ _ h => h) (Or.inl ⟨by rfl, ?_⟩) (by assumption) ?_
                          rotate_left
                          · intro w hSw; (try dsimp only at hSw); first | (go_simp; done) | (go_simp; with_reducible rfl)
                          try simp only [Act.put, List.getElem_toArray, List.getElem_cons_succ, List.getElem_cons_zero, List.setIfInBounds_toArray, List.set_cons_zero, List.set_cons_succ]
                          refine wpAnyT_take (i := 19) (v := ?_) rfl (by decide +kernel) (by decide +kernel) (by decide +kernel) (by decide +kernel) (by decide +kernel) (fun _ _ _ h => h) (Or.inl ⟨by rfl, ?_⟩) (by assumption) ?_
                          rotate_left
                          · intro w hSw; (try dsimp only at hSw); first | (go_simp; done) | (go_simp; with_reducible rfl)
                          try simp only [Act.put, List.getElem_toArray, List.getElem_cons_succ, List.getElem_cons_zero, List.setIfInBounds_toArray, List.set_cons_zero, List.set_cons_succ]
                          refine wpAnyT_take (i := 20) (v := ?_) rfl (by decide +kernel) (by decide +kernel) (by decide +kernel) (by decide +kernel) (by decide +kernel) (fun _ _ _ h => h) (Or.inl ⟨by rfl, ?_⟩) (by assumption) ?_
                          rotate_left
                          · intro w hSw; (try dsimp only at hSw); first | (go_simp; done) | (go_simp; with_reducible rfl)
                          try simp only [Act.put, List.getElem_toArray, List.getElem_cons_succ, List.getElem_cons_zero, List.setIfInBounds_toArray, List.set_cons_zero, List.set_cons_succ]
                          refine wpAnyT_take (i := 21) (v := ?_) rfl (by decide +kernel) (by decide +kernel) (by decide +kernel) (by decide +kernel) (by decide +kernel) (fun _ _ _ h => h) (Or.inl ⟨by rfl, ?_⟩) (by assumption) ?_
                          rotate_left
                          · intro w hSw; (try dsimp only at hSw); first | (go_simp; done) | (go_simp; with_reducible rfl)
                          try simp only [Act.put, List.getElem_toArray, List.getElem_cons_succ, List.getElem_cons_zero, List.setIfInBounds_toArray, List.set_cons_zero, List.set_cons_succ]
                          refine wpAnyT_take (i := 22) (v := ?_) rfl (by decide +kernel) (by decide +kernel) (by decide +kernel) (by decide +kernel) (by decide +kernel) (fun _ _ _ h => h) (Or.inl ⟨by rfl, ?_⟩) (by assumption) ?_
                          rotate_left
                          · intro w hSw; (try dsimp only at hSw); first | (go_simp; done) | (go_simp; with_reducible rfl)
                          try simp only [Act.put, List.getElem_toArray, List.getElem_cons_succ, List.getElem_cons_zero, List.setIfInBounds_toArray, List.set_cons_zero, List.set_cons_succ]
                          refine wpAnyT_take (i := 23) (v := ?_) rfl (by decide +kernel) (by decide +kernel) (by decide +kernel) (by decide +kernel) (by decide +kernel) (fun _ _ _ h => h) (Or.inl ⟨by rfl, ?_⟩) (by assumption) ?_
                          rotate_left
                          · intro w hSw; (try dsimp only at hSw); first | (go_simp; done) | (go_simp; with_reducible rfl)
                          try simp only [Act.put, List.getElem_toArray, List.getElem_cons_succ, List.getElem_cons_zero, List.setIfInBounds_toArray, List.set_cons_zero, List.set_cons_succ]
                          refine wpAnyT_take (i := 24) (v := ?_) rfl (by decide +kernel) (by decide +kernel) (by decide +kernel) (by decide +kernel) (by decide +kernel) (fun _ _ _ h => h) (Or.inl ⟨by rfl, ?_⟩) (by assumption) ?_
                          rotate_left
                          · intro w hSw; (try dsimp only at hSw); first | (go_simp; done) | (go_simp; with_reducible rfl)
                          try simp only [Act.put, List.getElem_toArray, List.getElem_cons_succ, List.getElem_cons_zero, List.setIfInBounds_toArray, List.set_cons_zero, List.set_cons_succ]
                          refine wpAnyT_take (i := 25) (v := ?_) rfl (by decide +kernel) (by decide +kernel) (by decide +kernel) (by decide +kernel) (by decide +kernel) (fun _ _ _ h => h) (Or.inl ⟨by rfl, ?_⟩) (by assumption) ?_
                          rotate_left
                          · intro w hSw; (try dsimp only at hSw); first | (go_simp; done) | (go_simp; with_reducible rfl)
                          try simp only [Act.put, List.getElem_toArray, List.getElem_cons_succ, List.getElem_cons_zero, List.setIfInBounds_toArray, List.set_cons_zero, List.set_cons_succ]
                          refine wpAnyT_take (i := 26) (v := undef) rfl (by decide +kernel) (by decide +kernel) (by decide +kernel) (by decide +kernel) (by decide +kernel) (fun _ _ _ h => h) (Or.inr ⟨by rfl, rfl⟩) (by assumption) ?_
                          try simp only [Act.put, List.getElem_toArray, List.getElem_cons_succ, List.getElem_cons_zero, List.setIfInBounds_toArray, List.set_cons_zero, List.set_cons_succ]
                          refine wpAnyT_take (i := 27) (v := undef) rfl (by decide +kernel) (by decide +kernel) (by decide +kernel) (by decide +kernel) (by decide +kernel) (fun _ _ _ h => h) (Or.inr ⟨by rfl, rfl⟩) (by assumption) ?_
                          try simp only [Act.put, List.getElem_toArray, List.getElem_cons_succ, List.getElem_cons_zero, List.setIfInBounds_toArray, List.set_cons_zero, List.set_cons_succ]
                          refine wpAnyT_take (i := 28) (v := undef) rfl (by decide +kernel) (by decide +kernel) (by decide +kernel) (by decide +kernel) (by decide +kernel) (fun _ _ _ h => h) (Or.inr ⟨by rfl, rfl⟩) (by assumption) ?_
                          try simp only [Act.put, List.getElem_toArray, List.getElem_cons_succ, List.getElem_cons_zero, List.setIfInBounds_toArray, List.set_cons_zero, List.set_cons_succ]
                          refine wpAnyT_take (i := 29) (v := undef) rfl (by decide +kernel) (by decide +kernel) (by decide +kernel) (by decide +kernel) (by decide +kernel) (fun _ _ _ h => h) (Or.inr ⟨by rfl, rfl⟩) (by assumption) ?_
                          try simp only [Act.put, List.getElem_toArray, List.getElem_cons_succ, List.getElem_cons_zero, List.setIfInBounds_toArray, List.set_cons_zero, List.set_cons_succ]
                          refine wpAnyT_take (i := 30) (v := undef) rfl (by decide +kernel) (by decide +kernel) (by decide +kernel) (by decide +kernel) (by decide +kernel) (fun _ _ _ h => h) (Or.inr ⟨by rfl, rfl⟩) (by assumption) ?_
                          try simp only [Act.put, List.getElem_toArray, List.getElem_cons_succ, List.getElem_cons_zero, List.setIfInBounds_toArray, List.set_cons_zero, List.set_cons_succ]
                          refine wpAnyT_take (i := 31) (v := undef) rfl (by decide +kernel) (by decide +kernel) (by decide +kernel) (by decide +kernel) (by decide +kernel) (fun _ _ _ h => h) (Or.inr ⟨by rfl, rfl⟩) (by assumption) ?_
                          try simp only [Act.put, List.getElem_toArray, List.getElem_cons_succ, List.getElem_cons_zero, List.setIfInBounds_toArray, List.set_cons_zero, List.set_cons_succ]
                          refine wpAnyT_take (i := 32) (v := undef) rfl (by decide +kernel) (by decide +kernel) (by decide +kernel) (by decide +kernel) (by decide +kernel) (fun _ _ _ h => h) (Or.inr ⟨by rfl, rfl⟩) (by assumption) ?_
                          try simp only [Act.put, List.getElem_toArray, List.getElem_cons_succ, List.getElem_cons_zero, List.setIfInBounds_toArray, List.set_cons_zero, List.set_cons_succ]
                          refine wpAnyT_take (i := 33) (v := undef) rfl (by decide +kernel) (by decide +kernel) (by decide +kernel) (by decide +kernel) (by decide +kernel) (fun _ _ _ h => h) (Or.inr ⟨by rfl, rfl⟩) (by assumption) ?_
                          try simp only [Act.put, List.getElem_toArray, List.getElem_cons_succ, List.getElem_cons_zero, List.setIfInBounds_toArray, List.set_cons_zero, List.set_cons_succ]
                          refine wpAnyT_take (i := 34) (v := undef) rfl (by decide +kernel) (by decide +kernel) (by decide +kernel) (by decide +kernel) (by decide +kernel) (fun _ _ _ h => h) (Or.inr ⟨by rfl, rfl⟩) (by assumption) ?_
                          try simp only [Act.put, List.getElem_toArray, List.getElem_cons_succ, List.getElem_cons_zero, List.setIfInBounds_toArray, List.set_cons_zero, List.set_cons_succ]
                          refine wpAnyT_take (i := 35) (v := undef) rfl (by decide +kernel) (by decide +kernel) (by decide +kernel) (by decide +kernel) (by decide +kernel) (fun _ _ _ h => h) (Or.inr ⟨by rfl, rfl⟩) (by assumption) ?_
                          try simp only [Act.put, List.getElem_toArray, List.getElem_cons_succ, List.getElem_cons_zero, List.setIfInBounds_toArray, List.set_cons_zero, List.set_cons_succ]
                          refine wpAnyT_take (i := 36) (v := ?_) rfl (by decide +kernel) (by decide +kernel) (by decide +kernel) (by decide +kernel) (by decide +kernel) (fun _ _ _ h => h) (Or.inl ⟨by rfl, ?_⟩) (by assumption) ?_
                          rotate_left
                          · intro w hSw; (try dsimp only at hSw); first | (go_simp; done) | (go_simp; with_reducible rfl)
                          try simp only [Act.put, List.getElem_toArray, List.getElem_cons_succ, List.getElem_cons_zero, List.setIfInBounds_toArray, List.set_cons_zero, List.set_cons_succ]
                          refine wpAnyT_take (i := 37) (v := ?_) rfl (by decide +kernel) (by decide +kernel) (by decide +kernel) (by decide +kernel) (by decide +kernel) (fun _ _ _ h => h) (Or.inl ⟨by rfl, ?_⟩) (by assumption) ?_
                          rotate_left
                          · intro w hSw; (try dsimp only at hSw); first | (go_simp; done) | (go_simp; with_reducible rfl)
                          try simp only [Act.put, List.getElem_toArray, List.getElem_cons_succ, List.getElem_cons_zero, List.setIfInBounds_toArray, List.set_cons_zero, List.set_cons_succ]
                          refine wpAnyT_take (i := 38) (v := ?_) rfl (by decide +kernel) (by decide +kernel) (by decide +kernel) (by decide +kernel) (by decide +kernel) (fun _ _ _ h => h) (Or.inl ⟨by rfl, ?_⟩) (by assumption) ?_
                          rotate_left
                          · intro w hSw; (try dsimp only at hSw); first | (go_simp; done) | (go_simp; with_reducible rfl)
                          try simp only [Act.put, List.getElem_toArray, List.getElem_cons_succ, List.getElem_cons_zero, List.setIfInBounds_toArray, List.set_cons_zero, List.set_cons_succ]
                          refine wpAnyT_last (i := 39) (by kernel_rfl) (by kernel_rfl) rfl (by kernel_rfl) (fun K hK => ?_)
                          go_simp
                          refine hK.out _ _ ?_
                          clear hK K
                          try simp only [Act.put, List.getElem_toArray, List.getElem_cons_succ, List.getElem_cons_zero, List.setIfInBounds_toArray, List.set_cons_zero, List.set_cons_succ]
                          clear hHeld fF cF cW cS k0
                          go_upto_region 32 with fail
                          obtain ⟨W6, hW6⟩ : ∃ W, (W5.setCell ⟨FR, k, none⟩ (.bool false)).drew = W := ⟨_, rfl⟩
                          rw [hW6] at HO7 HB7 HZ7 ⊢
                          have zF := HZ7.out
                          clear hW6
                          go_wp2_with fail
                          go_roundw
                          case rel => exact ⟨k + 1, by omega, by go_num, by rw [HCN2.out]; go_num, HO7.out, HB7.out⟩
                          case measure => simp [intOf]; omega
                    | false =>
                      as_aux_lemma =>
                        have hcw : decide (q0 < C) = aw := by rw [← HAF.out]; exact HAW.out
                        cases aw with
                        | true =>
                          go_upto_region 31 with fail
                          refine wp_region_T (S := (fun w' => w'.cell? ⟨WT, k, none⟩ = some (.int .i64 om) ∧ w'.cell? ⟨SZ, k, none⟩ = some (.int .i64 C) ∧ w'.cell? ⟨b, off + k * 5, none⟩ = some (.int .i64 q0))) 39 (by kernel_rfl) (⟨cW, cS, k0⟩) (fun hHeld => ?_)
                          refine wpAnyT_take (i := 0) (v := ?_) rfl (by decide +kernel) (by decide +kernel) (by decide +kernel) (by decide +kernel) (by decide +kernel) (fun _ _ _ h => h) (Or.inl ⟨by rfl, ?_⟩) (by assumption) ?_
                          rotate_left
                          · intro w hSw; (try dsimp only at hSw); first | (go_simp; done) | (go_simp; with_reducible rfl)
                          try simp only [Act.put, List.getElem_toArray, List.getElem_cons_succ, List.getElem_cons_zero, List.setIfInBounds_toArray, List.set_cons_zero, List.set_cons_succ]
                          refine wpAnyT_take (i := 1) (v := ?_) rfl (by decide +kernel) (by decide +kernel) (by decide +kernel) (by decide +kernel) (by decide +kernel) (fun _ _ _ h => h) (Or.inl ⟨by rfl, ?_⟩) (by assumption) ?_
                          rotate_left
                          · intro w hSw; (try dsimp only at hSw); first | (go_simp; done) | (go_simp; with_reducible rfl)
                          try simp only [Act.put, List.getElem_toArray, List.getElem_cons_succ, List.getElem_cons_zero, List.setIfInBounds_toArray, List.set_cons_zero, List.set_cons_succ]
                          refine wpAnyT_take (i := 2) (v := ?_) rfl (by decide +kernel) (by decide +kernel) (by decide +kernel) (by decide +kernel) (by decide +kernel) (fun _ _ _ h => h) (Or.inl ⟨by rfl, ?_⟩) (by assumption) ?_
                          rotate_left
                          · intro w hSw; (try dsimp only at hSw); first | (go_simp; done) | (go_simp; with_reducible rfl)
                          try simp only [Act.put, List.getElem_toArray, List.getElem_cons_succ, List.getElem_cons_zero, List.setIfInBounds_toArray, List.set_cons_zero, List.set_cons_succ]
                          refine wpAnyT_take (i := 3) (v := ?_) rfl (by decide +kernel) (by decide +kernel) (by decide +kernel) (by decide +kernel) (by decide +kernel) (fun _ _ _ h => h) (Or.inl ⟨by rfl, ?_⟩) (by assumption) ?_
                          rotate_left
                          · intro w hSw; (try dsimp only at hSw); first | (go_simp; done) | (go_simp; with_reducible rfl)
                          try simp only [Act.put, List.getElem_toArray, List.getElem_cons_succ, List.getElem_cons_zero, List.setIfInBounds_toArray, List.set_cons_zero, List.set_cons_succ]
                          refine wpAnyT_take (i := 4) (v := ?_) rfl (by decide +kernel) (by decide +kernel) (by decide +kernel) (by decide +kernel) (by decide +kernel) (fun _ _ _ h => h) (Or.inl ⟨by rfl, ?_⟩) (by assumption) ?_
                          rotate_left
                          · intro w hSw; (try dsimp only at hSw); first | (go_simp; done) | (go_simp; with_reducible rfl)
                          try simp only [Act.put, List.getElem_toArray, List.getElem_cons_succ, List.getElem_cons_zero, List.setIfInBounds_toArray, List.set_cons_zero, List.set_cons_succ]
                          refine wpAnyT_take (i := 5) (v := ?_) rfl (by decide +kernel) (by decide +kernel) (by decide +kernel) (by decide +kernel) (by decide +kernel) (fun _ _ _ h => h) (Or.inl ⟨by rfl, ?_⟩) (by assumption) ?_
                          rotate_left
                          · intro w hSw; (try dsimp only at hSw); first | (go_simp; done) | (go_simp; with_reducible rfl)
                          try simp only [Act.put, List.getElem_toArray, List.getElem_cons_succ, List.getElem_cons_zero, List.setIfInBounds_toArray, List.set_cons_zero, List.set_cons_succ]
                          refine wpAnyT_take (i := 6) (v := ?_) rfl (by decide +kernel) (by decide +kernel) (by decide +kernel) (by decide +kernel) (by decide +kernel) (fun _ _ _ h => h) (Or.inl ⟨by rfl, ?_⟩) (by assumption) ?_
                          rotate_left
                          · intro w hSw; (try dsimp only at hSw); first | (go_simp; done) | (go_simp; with_reducible rfl)
                          try simp only [Act.put, List.getElem_toArray, List.getElem_cons_succ, List.getElem_cons_zero, List.setIfInBounds_toArray, List.set_cons_zero, List.set_cons_succ]
                          refine wpAnyT_take (i := 7) (v := ?_) rfl (by decide +kernel) (by decide +kernel) (by decide +kernel) (by decide +kernel) (by decide +kernel) (fun _ _ _ h => h) (Or.inl ⟨by rfl, ?_⟩) (by assumption) ?_
                          rotate_left
                          · intro w hSw; (try dsimp only at hSw); first | (go_simp; done) | (go_simp; with_reducible rfl)
                          try simp only [Act.put, List.getElem_toArray, List.getElem_cons_succ, List.getElem_cons_zero, List.setIfInBounds_toArray, List.set_cons_zero, List.set_cons_succ]
                          refine wpAnyT_take (i := 8) (v := ?_) rfl (by decide +kernel) (by decide +kernel) (by decide +kernel) (by decide +kernel) (by decide +kernel) (fun _ _ _ h => h) (Or.inl ⟨by rfl, ?_⟩) (by assumption) ?_
                          rotate_left
                          · intro w hSw; (try dsimp only at hSw); first | (go_simp; done) | (go_simp; with_reducible rfl)
                          try simp only [Act.put, List.getElem_toArray, List.getElem_cons_succ, List.getElem_cons_zero, List.setIfInBounds_toArray, List.set_cons_zero, List.set_cons_succ]
                          refine wpAnyT_take (i := 9) (v := ?_) rfl (by decide +kernel) (by decide +kernel) (by decide +kernel) (by decide +kernel) (by decide +kernel) (fun _ _ _ h => h) (Or.inl ⟨by rfl, ?_⟩) (by assumption) ?_
                          rotate_left
                          · intro w hSw; (try dsimp only at hSw); first | (go_simp; done) | (go_simp; with_reducible rfl)
                          try simp only [Act.put, List.getElem_toArray, List.getElem_cons_succ, List.getElem_cons_zero, List.setIfInBounds_toArray, List.set_cons_zero, List.set_cons_succ]
                          refine wpAnyT_take (i := 10) (v := undef) rfl (by decide +kernel) (by decide +kernel) (by decide +kernel) (by decide +kernel) (by decide +kernel) (fun _ _ _ h => h) (Or.inr ⟨by rfl, rfl⟩) (by assumption) ?_
                          try simp only [Act.put, List.getElem_toArray, List.getElem_cons_succ, List.getElem_cons_zero, List.setIfInBounds_toArray, List.set_cons_zero, List.set_cons_succ]
                          refine wpAnyT_take (i := 11) (v := undef) rfl (by decide +kernel) (by decide +kernel) (by decide +kernel) (by decide +kernel) (by decide +kernel) (fun _ _ _ h => h) (Or.inr ⟨by rfl, rfl⟩) (by assumption) ?_
                          try simp only [Act.put, List.getElem_toArray, List.getElem_cons_succ, List.getElem_cons_zero, List.setIfInBounds_toArray, List.set_cons_zero, List.set_cons_succ]
                          refine wpAnyT_take (i := 12) (v := undef) rfl (by decide +kernel) (by decide +kernel) (by decide +kernel) (by decide +kernel) (by decide +kernel) (fun _ _ _ h => h) (Or.inr ⟨by rfl, rfl⟩) (by assumption) ?_
                          try simp only [Act.put, List.getElem_toArray, List.getElem_cons_succ, List.getElem_cons_zero, List.setIfInBounds_toArray, List.set_cons_zero, List.set_cons_succ]
                          refine wpAnyT_take (i := 13) (v := undef) rfl (by decide +kernel) (by decide +kernel) (by decide +kernel) (by decide +kernel) (by decide +kernel) (fun _ _ _ h => h) (Or.inr ⟨by rfl, rfl⟩) (by assumption) ?_
                          try simp only [Act.put, List.getElem_toArray, List.getElem_cons_succ, List.getElem_cons_zero, List.setIfInBounds_toArray, List.set_cons_zero, List.set_cons_succ]
                          refine wpAnyT_take (i := 14) (v := undef) rfl (by decide +kernel) (by decide +kernel) (by decide +kernel) (by decide +kernel) (by decide +kernel) (fun _ _ _ h => h) (Or.inr ⟨by rfl, rfl⟩) (by assumption) ?_
                          try simp only [Act.put, List.getElem_toArray, List.getElem_cons_succ, List.getElem_cons_zero, List.setIfInBounds_toArray, List.set_cons_zero, List.set_cons_succ]
                          refine wpAnyT_take (i := 15) (v := undef) rfl (by decide +kernel) (by decide +kernel) (by decide +kernel) (by decide +kernel) (by decide +kernel) (fun _ _ _ h => h) (Or.inr ⟨by rfl, rfl⟩) (by assumption) ?_
                          try simp only [Act.put, List.getElem_toArray, List.getElem_cons_succ, List.getElem_cons_zero, List.setIfInBounds_toArray, List.set_cons_zero, List.set_cons_succ]
                          refine wpAnyT_take (i := 16) (v := undef) rfl (by decide +kernel) (by decide +kernel) (by decide +kernel) (by decide +kernel) (by decide +kernel) (fun _ _ _ h => h) (Or.inr ⟨by rfl, rfl⟩) (by assumption) ?_
                          try simp only [Act.put, List.getElem_toArray, List.getElem_cons_succ, List.getElem_cons_zero, List.setIfInBounds_toArray, List.set_cons_zero, List.set_cons_succ]
                          refine wpAnyT_take (i := 17) (v := undef) rfl (by decide +kernel) (by decide +kernel) (by decide +kernel) (by decide +kernel) (by decide +kernel) (fun _ _ _ h => h) (Or.inr ⟨by rfl, rfl⟩) (by assumption) ?_
                          try simp only [Act.put, List.getElem_toArray, List.getElem_cons_succ, List.getElem_cons_zero, List.setIfInBounds_toArray, List.set_cons_zero, List.set_cons_succ]
                          refine wpAnyT_take (i := 18) (v := undef) rfl (by decide +kernel) (by decide +kernel) (by decide +kernel) (by decide +kernel) (by decide +kernel) (fun _ _ _ h => h) (Or.inr ⟨by rfl, rfl⟩) (by assumption) ?_
                          try simp only [Act.put, List.getElem_toArray, List.getElem_cons_succ, List.getElem_cons_zero, List.setIfInBounds_toArray, List.set_cons_zero, List.set_cons_succ]
                          refine wpAnyT_take (i := 19) (v := undef) rfl (by decide +kernel) (by decide +kernel) (by decide +kernel) (by decide +kernel) (by decide +kernel) (fun _ _ _ h => h) (Or.inr ⟨by rfl, rfl⟩) (by assumption) ?_
                          try simp only [Act.put, List.getElem_toArray, List.getElem_cons_succ, List.getElem_cons_zero, List.setIfInBounds_toArray, List.set_cons_zero, List.set_cons_succ]
                          refine wpAnyT_take (i := 20) (v := ?_) rfl (by decide +kernel) (by decide +kernel) (by decide +kernel) (by decide +kernel) (by decide +kernel) (fun _ _ _ h => h) (Or.inl ⟨by rfl, ?_⟩) (by assumption) ?_
                          rotate_left
                          · intro w hSw; (try dsimp only at hSw); first | (go_simp; done) | (go_simp; with_reducible rfl)
                          try simp only [Act.put, List.getElem_toArray, List.getElem_cons_succ, List.getElem_cons_zero, List.setIfInBounds_toArray, List.set_cons_zero, List.set_cons_succ]
                          refine wpAnyT_take (i := 21) (v := ?_) rfl (by decide +kernel) (by decide +kernel) (by decide +kernel) (by decide +kernel) (by decide +kernel) (fun _ _ _ h => h) (Or.inl ⟨by rfl, ?_⟩) (by assumption) ?_
                          rotate_left
                          · intro w hSw; (try dsimp only at hSw); first | (go_simp; done) | (go_simp; with_reducible rfl)
                          try simp only [Act.put, List.getElem_toArray, List.getElem_cons_succ, List.getElem_cons_zero, List.setIfInBounds_toArray, List.set_cons_zero, List.set_cons_succ]
                          refine wpAnyT_take (i := 22) (v := ?_) rfl (by decide +kernel) (by decide +kernel) (by decide +kernel) (by decide +kernel) (by decide +kernel) (fun _ _ _ h => h) (Or.inl ⟨by rfl, ?_⟩) (by assumption) ?_
                          rotate_left
                          · intro w hSw; (try dsimp only at hSw); first | (go_simp; done) | (go_simp; with_reducible rfl)
                          try simp only [Act.put, List.getElem_toArray, List.getElem_cons_succ, List.getElem_cons_zero, List.setIfInBounds_toArray, List.set_cons_zero, List.set_cons_succ]
                          refine wpAnyT_take (i := 23) (v := ?_) rfl (by decide +kernel) (by decide +kernel) (by decide +kernel) (by decide +kernel) (by decide +kernel) (fun _ _ _ h => h) (Or.inl ⟨by rfl, ?_⟩) (by assumption) ?_
                          rotate_left
                          · intro w hSw; (try dsimp only at hSw); first | (go_simp; done) | (go_simp; with_reducible rfl)
                          try simp only [Act.put, List.getElem_toArray, List.getElem_cons_succ, List.getElem_cons_zero, List.setIfInBounds_toArray, List.set_cons_zero, List.set_cons_succ]
                          refine wpAnyT_take (i := 24) (v := ?_) rfl (by decide +kernel) (by decide +kernel) (by decide +kernel) (by decide +kernel) (by decide +kernel) (fun _ _ _ h => h) (Or.inl ⟨by rfl, ?_⟩) (by assumption) ?_
                          rotate_left
                          · intro w hSw; (try dsimp only at hSw); first | (go_simp; done) | (go_simp; with_reducible rfl)
                          try simp only [Act.put, List.getElem_toArray, List.getElem_cons_succ, List.getElem_cons_zero, List.setIfInBounds_toArray, List.set_cons_zero, List.set_cons_succ]
                          refine wpAnyT_take (i := 25) (v := ?_) rfl (by decide +kernel) (by decide +kernel) (by decide +kernel) (by decide +kernel) (by decide +kernel) (fun _ _ _ h => h) (Or.inl ⟨by rfl, ?_⟩) (by assumption) ?_
                          rotate_left
                          · intro w hSw; (try dsimp only at hSw); first | (go_simp; done) | (go_simp; with_reducible rfl)
                          try simp only [Act.put, List.getElem_toArray, List.getElem_cons_succ, List.getElem_cons_zero, List.setIfInBounds_toArray, List.set_cons_zero, List.set_cons_succ]
                          refine wpAnyT_take (i := 26) (v := ?_) rfl (by decide +kernel) (by decide +kernel) (by decide +kernel) (by decide +kernel) (by decide +kernel) (fun _ _ _ h => h) (Or.inl ⟨by rfl, ?_⟩) (by assumption) ?_
                          rotate_left
                          · intro w hSw; (try dsimp only at hSw); first | (go_simp; done) | (go_simp; with_reducible rfl)
                          try simp only [Act.put, List.getElem_toArray, List.getElem_cons_succ, List.getElem_cons_zero, List.setIfInBounds_toArray, List.set_cons_zero, List.set_cons_succ]
                          refine wpAnyT_take (i := 27) (v := ?_) rfl (by decide +kernel) (by decide +kernel) (by decide +kernel) (by decide +kernel) (by decide +kernel) (fun _ _ _ h => h) (Or.inl ⟨by rfl, ?_⟩) (by assumption) ?_
                          rotate_left
                          · intro w hSw; (try dsimp only at hSw); first | (go_simp; done) | (go_simp; with_reducible rfl)
                          try simp only [Act.put, List.getElem_toArray, List.getElem_cons_succ, List.getElem_cons_zero, List.setIfInBounds_toArray, List.set_cons_zero, List.set_cons_succ]
                          refine wpAnyT_take (i := 28) (v := ?_) rfl (by decide +kernel) (by decide +kernel) (by decide +kernel) (by decide +kernel) (by decide +kernel) (fun _ _ _ h => h) (Or.inl ⟨by rfl, ?_⟩) (by assumption) ?_
                          rotate_left
                          · intro w hSw; (try dsimp only at hSw); first | (go_simp; done) | (go_simp; with_reducible rfl)
                          try simp only [Act.put, List.getElem_toArray, List.getElem_cons_succ, List.getElem_cons_zero, List.setIfInBounds_toArray, List.set_cons_zero, List.set_cons_succ]
                          refine wpAnyT_take (i := 29) (v := ?_) rfl (by decide +kernel) (by decide +kernel) (by decide +kernel) (by decide +kernel) (by decide +kernel) (fun _ _ _ h => h) (Or.inl ⟨by rfl, ?_⟩) (by assumption) ?_
                          rotate_left
                          · intro w hSw; (try dsimp only at hSw); first | (go_simp; done) | (go_simp; with_reducible rfl)
                          try simp only [Act.put, List.getElem_toArray, List.getElem_cons_succ, List.getElem_cons_zero, List.setIfInBounds_toArray, List.set_cons_zero, List.set_cons_succ]
                          refine wpAnyT_take (i := 30) (v := ?_) rfl (by decide +kernel) (by decide +kernel) (by decide +kernel) (by decide +kernel) (by decide +kernel) (fun _ _ _ h => h) (Or.inl ⟨by rfl, ?_⟩) (by assumption) ?_
                          rotate_left
                          · intro w hSw; (try dsimp only at hSw); first | (go_simp; done) | (go_simp; with_reducible rfl)
                          try simp only [Act.put, List.getElem_toArray, List.getElem_cons_succ, List.getElem_cons_zero, List.setIfInBounds_toArray, List.set_cons_zero, List.set_cons_succ]
                          refine wpAnyT_take (i := 31) (v := ?_) rfl (by decide +kernel) (by decide +kernel) (by decide +kernel) (by decide +kernel) (by decide +kernel) (fun _ _ _ h => h) (Or.inl ⟨by rfl, ?_⟩) (by assumption) ?_
                          rotate_left
                          · intro w hSw; (try dsimp only at hSw); first | (go_simp; done) | (go_simp; with_reducible rfl)
                          try simp only [Act.put, List.getElem_toArray, List.getElem_cons_succ, List.getElem_cons_zero, List.setIfInBounds_toArray, List.set_cons_zero, List.set_cons_succ]
                          refine wpAnyT_take (i := 32) (v := ?_) rfl (by decide +kernel) (by decide +kernel) (by decide +kernel) (by decide +kernel) (by decide +kernel) (fun _ _ _ h => h) (Or.inl ⟨by rfl, ?_⟩) (by assumption) ?_
                          rotate_left
                          · intro w hSw; (try dsimp only at hSw); first | (go_simp; done) | (go_simp; with_reducible rfl)
                          try simp only [Act.put, List.getElem_toArray, List.getElem_cons_succ, List.getElem_cons_zero, List.setIfInBounds_toArray, List.set_cons_zero, List.set_cons_succ]
                          refine wpAnyT_take (i := 33) (v := ?_) rfl (by decide +kernel) (by decide +kernel) (by decide +kernel) (by decide +kernel) (by decide +kernel) (fun _ _ _ h => h) (Or.inl ⟨by rfl, ?_⟩) (by assumption) ?_
                          rotate_left
                          · intro w hSw; (try dsimp only at hSw); first | (go_simp; done) | (go_simp; with_reducible rfl)
                          try simp only [Act.put, List.getElem_toArray, List.getElem_cons_succ, List.getElem_cons_zero, List.setIfInBounds_toArray, List.set_cons_zero, List.set_cons_succ]
                          refine wpAnyT_take (i := 34) (v := ?_) rfl (by decide +kernel) (by decide +kernel) (by decide +kernel) (by decide +kernel) (by decide +kernel) (fun _ _ _ h => h) (Or.inl ⟨by rfl, ?_⟩) (by assumption) ?_
                          rotate_left
                          · intro w hSw; (try dsimp only at hSw); first | (go_simp; done) | (go_simp; with_reducible rfl)
                          try simp only [Act.put, List.getElem_toArray, List.getElem_cons_succ, List.getElem_cons_zero, List.setIfInBounds_toArray, List.set_cons_zero, List.set_cons_succ]
                          refine wpAnyT_take (i := 35) (v := ?_) rfl (by decide +kernel) (by decide +kernel) (by decide +kernel) (by decide +kernel) (by decide +kernel) (fun _ _ _ h => h) (Or.inl ⟨by rfl, ?_⟩) (by assumption) ?_
                          rotate_left
                          · intro w hSw; (try dsimp only at hSw); first | (go_simp; done) | (go_simp; with_reducible rfl)
                          try simp only [Act.put, List.getElem_toArray, List.getElem_cons_succ, List.getElem_cons_zero, List.setIfInBounds_toArray, List.set_cons_zero, List.set_cons_succ]
                          refine wpAnyT_take (i := 36) (v := ?_) rfl (by decide +kernel) (by decide +kernel) (by decide +kernel) (by decide +kernel) (by decide +kernel) (fun _ _ _ h => h) (Or.inl ⟨by rfl, ?_⟩) (by assumption) ?_
                          rotate_left
                          · intro w hSw; (try dsimp only at hSw); first | (go_simp; done) | (go_simp; with_reducible rfl)
                          try simp only [Act.put, List.getElem_toArray, List.getElem_cons_succ, List.getElem_cons_zero, List.setIfInBounds_toArray, List.set_cons_zero, List.set_cons_succ]
                          refine wpAnyT_take (i := 37) (v := ?_) rfl (by decide +kernel) (by decide +kernel) (by decide +kernel) (by decide +kernel) (by decide +kernel) (fun _ _ _ h => h) (Or.inl ⟨by rfl, ?_⟩) (by assumption) ?_
                          rotate_left
                          · intro w hSw; (try dsimp only at hSw); first | (go_simp; done) | (go_simp; with_reducible rfl)
                          try simp only [Act.put, List.getElem_toArray, List.getElem_cons_succ, List.getElem_cons_zero, List.setIfInBounds_toArray, List.set_cons_zero, List.set_cons_succ]
                          refine wpAnyT_take (i := 38) (v := ?_) rfl (by decide +kernel) (by decide +kernel) (by decide +kernel) (by decide +kernel) (by decide +kernel) (fun _ _ _ h => h) (Or.inl ⟨by rfl, ?_⟩) (by assumption) ?_
                          rotate_left
                          · intro w hSw; (try dsimp only at hSw); first | (go_simp; done) | (go_simp; with_reducible rfl)
                          try simp only [Act.put, List.getElem_toArray, List.getElem_cons_succ, List.getElem_cons_zero, List.setIfInBounds_toArray, List.set_cons_zero, List.set_cons_succ]
                          refine wpAnyT_last (i := 39) (by kernel_rfl) (by kernel_rfl) rfl (by kernel_rfl) (fun K hK => ?_)
                          go_simp
                          refine hK.out _ _ ?_
                          clear hK K
                          try simp only [Act.put, List.getElem_toArray, List.getElem_cons_succ, List.getElem_cons_zero, List.setIfInBounds_toArray, List.set_cons_zero, List.set_cons_succ]
                          clear hHeld fF cF cW cS k0
                          go_upto_region 32 with fail
                          obtain ⟨W6, hW6⟩ : ∃ W, (W5.setCell ⟨FR, k, none⟩ (.bool true)).drew = W := ⟨_, rfl⟩
                          rw [hW6] at HO7 HB7 HZ7 ⊢
                          have zF := HZ7.out
                          clear hW6
                          go_wp2_with fail
                          go_roundw
                          case rel => exact ⟨k + 1, by omega, by go_num, by rw [HCN2.out]; rfl, HO7.out, HB7.out⟩
                          case measure => simp [intOf]; omega
                        | false =>
                          go_upto_region 31 with fail
                          refine wp_region_T (S := (fun w' => w'.cell? ⟨WT, k, none⟩ = some (.int .i64 om) ∧ w'.cell? ⟨SZ, k, none⟩ = some (.int .i64 C) ∧ w'.cell? ⟨b, off + k * 5, none⟩ = some (.int .i64 q0))) 39 (by kernel_rfl) (⟨cW, cS, k0⟩) (fun hHeld => ?_)
                          refine wpAnyT_take (i := 0) (v := ?_) rfl (by decide +kernel) (by decide +kernel) (by decide +kernel) (by decide +kernel) (by decide +kernel) (fun _ _ _ h => h) (Or.inl ⟨by rfl, ?_⟩) (by assumption) ?_
                          rotate_left
                          · intro w hSw; (try dsimp only at hSw); first | (go_simp; done) | (go_simp; with_reducible rfl)
                          try simp only [Act.put, List.getElem_toArray, List.getElem_cons_succ, List.getElem_cons_zero, List.setIfInBounds_toArray, List.set_cons_zero, List.set_cons_succ]
                          refine wpAnyT_take (i := 1) (v := ?_) rfl (by decide +kernel) (by decide +kernel) (by decide +kernel) (by decide +kernel) (by decide +kernel) (fun _ _ _ h => h) (Or.inl ⟨by rfl, ?_⟩) (by assumption) ?_
                          rotate_left
                          · intro w hSw; (try dsimp only at hSw); first | (go_simp; done) | (go_simp; with_reducible rfl)
                          try simp only [Act.put, List.getElem_toArray, List.getElem_cons_succ, List.getElem_cons_zero, List.setIfInBounds_toArray, List.set_cons_zero, List.set_cons_succ]
                          refine wpAnyT_take (i := 2) (v := ?_) rfl (by decide +kernel) (by decide +kernel) (by decide +kernel) (by decide +kernel) (by decide +kernel) (fun _ _ _ h => h) (Or.inl ⟨by rfl, ?_⟩) (by assumption) ?_
                          rotate_left
                          · intro w hSw; (try dsimp only at hSw); first | (go_simp; done) | (go_simp; with_reducible rfl)
                          try simp only [Act.put, List.getElem_toArray, List.getElem_cons_succ, List.getElem_cons_zero, List.setIfInBounds_toArray, List.set_cons_zero, List.set_cons_succ]
                          refine wpAnyT_take (i := 3) (v := ?_) rfl (by decide +kernel) (by decide +kernel) (by decide +kernel) (by decide +kernel) (by decide +kernel) (fun _ _ _ h => h) (Or.inl ⟨by rfl, ?_⟩) (by assumption) ?_
                          rotate_left
                          · intro w hSw; (try dsimp only at hSw); first | (go_simp; done) | (go_simp; with_reducible rfl)
                          try simp only [Act.put, List.getElem_toArray, List.getElem_cons_succ, List.getElem_cons_zero, List.setIfInBounds_toArray, List.set_cons_zero, List.set_cons_succ]
                          refine wpAnyT_take (i := 4) (v := ?_) rfl (by decide +kernel) (by decide +kernel) (by decide +kernel) (by decide +kernel) (by decide +kernel) (fun _ _ _ h => h) (Or.inl ⟨by rfl, ?_⟩) (by assumption) ?_
                          rotate_left
                          · intro w hSw; (try dsimp only at hSw); first | (go_simp; done) | (go_simp; with_reducible rfl)
                          try simp only [Act.put, List.getElem_toArray, List.getElem_cons_succ, List.getElem_cons_zero, List.setIfInBounds_toArray, List.set_cons_zero, List.set_cons_succ]
                          refine wpAnyT_take (i := 5) (v := ?_) rfl (by decide +kernel) (by decide +kernel) (by decide +kernel) (by decide +kernel) (by decide +kernel) (fun _ _ _ h => h) (Or.inl ⟨by rfl, ?_⟩) (by assumption) ?_
                          rotate_left
                          · intro w hSw; (try dsimp only at hSw); first | (go_simp; done) | (go_simp; with_reducible rfl)
                          try simp only [Act.put, List.getElem_toArray, List.getElem_cons_succ, List.getElem_cons_zero, List.setIfInBounds_toArray, List.set_cons_zero, List.set_cons_succ]
                          refine wpAnyT_take (i := 6) (v := ?_) rfl (by decide +kernel) (by decide +kernel) (by decide +kernel) (by decide +kernel) (by decide +kernel) (fun _ _ _ h => h) (Or.inl ⟨by rfl, ?_⟩) (by assumption) ?_
                          rotate_left
                          · intro w hSw; (try dsimp only at hSw); first | (go_simp; done) | (go_simp; with_reducible rfl)
                          try simp only [Act.put, List.getElem_toArray, List.getElem_cons_succ, List.getElem_cons_zero, List.setIfInBounds_toArray, List.set_cons_zero, List.set_cons_succ]
                          refine wpAnyT_take (i := 7) (v := ?_) rfl (by decide +kernel) (by decide +kernel) (by decide +kernel) (by decide +kernel) (by decide +kernel) (fun _ _ _ h => h) (Or.inl ⟨by rfl, ?_⟩) (by assumption) ?_
                          rotate_left
                          · intro w hSw; (try dsimp only at hSw); first | (go_simp; done) | (go_simp; with_reducible rfl)
                          try simp only [Act.put, List.getElem_toArray, List.getElem_cons_succ, List.getElem_cons_zero, List.setIfInBounds_toArray, List.set_cons_zero, List.set_cons_succ]
                          refine wpAnyT_take (i := 8) (v := ?_) rfl (by decide +kernel) (by decide +kernel) (by decide +kernel) (by decide +kernel) (by decide +kernel) (fun _ _ _ h => h) (Or.inl ⟨by rfl, ?_⟩) (by assumption) ?_
                          rotate_left
                          · intro w hSw; (try dsimp only at hSw); first | (go_simp; done) | (go_simp; with_reducible rfl)
                          try simp only [Act.put, List.getElem_toArray, List.getElem_cons_succ, List.getElem_cons_zero, List.setIfInBounds_toArray, List.set_cons_zero, List.set_cons_succ]
                          refine wpAnyT_take (i := 9) (v := ?_) rfl (by decide +kernel) (by decide +kernel) (by decide +kernel) (by decide +kernel) (by decide +kernel) (fun _ _ _ h => h) (Or.inl ⟨by rfl, ?_⟩) (by assumption) ?_
                          rotate_left
                          · intro w hSw; (try dsimp only at hSw); first | (go_simp; done) | (go_simp; with_reducible rfl)
                          try simp only [Act.put, List.getElem_toArray, List.getElem_cons_succ, List.getElem_cons_zero, List.setIfInBounds_toArray, List.set_cons_zero, List.set_cons_succ]
                          refine wpAnyT_take (i := 10) (v := undef) rfl (by decide +kernel) (by decide +kernel) (by decide +kernel) (by decide +kernel) (by decide +kernel) (fun _ _ _ h => h) (Or.inr ⟨by rfl, rfl⟩) (by assumption) ?_
                          try simp only [Act.put, List.getElem_toArray, List.getElem_cons_succ, List.getElem_cons_zero, List.setIfInBounds_toArray, List.set_cons_zero, List.set_cons_succ]
                          refine wpAnyT_take (i := 11) (v := undef) rfl (by decide +kernel) (by decide +kernel) (by decide +kernel) (by decide +kernel) (by decide +kernel) (fun _ _ _ h => h) (Or.inr ⟨by rfl, rfl⟩) (by assumption) ?_
                          try simp only [Act.put, List.getElem_toArray, List.getElem_cons_succ, List.getElem_cons_zero, List.setIfInBounds_toArray, List.set_cons_zero, List.set_cons_succ]
                          refine wpAnyT_take (i := 12) (v := undef) rfl (by decide +kernel) (by decide +kernel) (by decide +kernel) (by decide +kernel) (by decide +kernel) (fun _ _ _ h => h) (Or.inr ⟨by rfl, rfl⟩) (by assumption) ?_
                          try simp only [Act.put, List.getElem_toArray, List.getElem_cons_succ, List.getElem_cons_zero, List.setIfInBounds_toArray, List.set_cons_zero, List.set_cons_succ]
                          refine wpAnyT_take (i := 13) (v := undef) rfl (by decide +kernel) (by decide +kernel) (by decide +kernel) (by decide +kernel) (by decide +kernel) (fun _ _ _ h => h) (Or.inr ⟨by rfl, rfl⟩) (by assumption) ?_
                          try simp only [Act.put, List.getElem_toArray, List.getElem_cons_succ, List.getElem_cons_zero, List.setIfInBounds_toArray, List.set_cons_zero, List.set_cons_succ]
                          refine wpAnyT_take (i := 14) (v := undef) rfl (by decide +kernel) (by decide +kernel) (by decide +kernel) (by decide +kernel) (by decide +kernel) (fun _ _ _ h => h) (Or.inr ⟨by rfl, rfl⟩) (by assumption) ?_
                          try simp only [Act.put, List.getElem_toArray, List.getElem_cons_succ, List.getElem_cons_zero, List.setIfInBounds_toArray, List.set_cons_zero, List.set_cons_succ]
                          refine wpAnyT_take (i := 15) (v := undef) rfl (by decide +kernel) (by decide +kernel) (by decide +kernel) (by decide +kernel) (by decide +kernel) (fun _ _ _ h => h) (Or.inr ⟨by rfl, rfl⟩) (by assumption) ?_
                          try simp only [Act.put, List.getElem_toArray, List.getElem_cons_succ, List.getElem_cons_zero, List.setIfInBounds_toArray, List.set_cons_zero, List.set_cons_succ]
                          refine wpAnyT_take (i := 16) (v := undef) rfl (by decide +kernel) (by decide +kernel) (by decide +kernel) (by decide +kernel) (by decide +kernel) (fun _ _ _ h => h) (Or.inr ⟨by rfl, rfl⟩) (by assumption) ?_
                          try simp only [Act.put, List.getElem_toArray, List.getElem_cons_succ, List.getElem_cons_zero, List.setIfInBounds_toArray, List.set_cons_zero, List.set_cons_succ]
                          refine wpAnyT_take (i := 17) (v := undef) rfl (by decide +kernel) (by decide +kernel) (by decide +kernel) (by decide +kernel) (by decide +kernel) (fun _ _ _ h => h) (Or.inr ⟨by rfl, rfl⟩) (by assumption) ?_
                          try simp only [Act.put, List.getElem_toArray, List.getElem_cons_succ, List.getElem_cons_zero, List.setIfInBounds_toArray, List.set_cons_zero, List.set_cons_succ]
                          refine wpAnyT_take (i := 18) (v := undef) rfl (by decide +kernel) (by decide +kernel) (by decide +kernel) (by decide +kernel) (by decide +kernel) (fun _ _ _ h => h) (Or.inr ⟨by rfl, rfl⟩) (by assumption) ?_
                          try simp only [Act.put, List.getElem_toArray, List.getElem_cons_succ, List.getElem_cons_zero, List.setIfInBounds_toArray, List.set_cons_zero, List.set_cons_succ]
                          refine wpAnyT_take (i := 19) (v := undef) rfl (by decide +kernel) (by decide +kernel) (by decide +kernel) (by decide +kernel) (by decide +kernel) (fun _ _ _ h => h) (Or.inr ⟨by rfl, rfl⟩) (by assumption) ?_
                          try simp only [Act.put, List.getElem_toArray, List.getElem_cons_succ, List.getElem_cons_zero, List.setIfInBounds_toArray, List.set_cons_zero, List.set_cons_succ]
                          refine wpAnyT_take (i := 20) (v := ?_) rfl (by decide +kernel) (by decide +kernel) (by decide +kernel) (by decide +kernel) (by decide +kernel) (fun _ _ _ h => h) (Or.inl ⟨by rfl, ?_⟩) (by assumption) ?_
                          rotate_left
                          · intro w hSw; (try dsimp only at hSw); first | (go_simp; done) | (go_simp; with_reducible rfl)
                          try simp only [Act.put, List.getElem_toArray, List.getElem_cons_succ, List.getElem_cons_zero, List.setIfInBounds_toArray, List.set_cons_zero, List.set_cons_succ]
                          refine wpAnyT_take (i := 21) (v := ?_) rfl (by decide +kernel) (by decide +kernel) (by decide +kernel) (by decide +kernel) (by decide +kernel) (fun _ _ _ h => h) (Or.inl ⟨by rfl, ?_⟩) (by assumption) ?_
                          rotate_left
                          · intro w hSw; (try dsimp only at hSw); first | (go_simp; done) | (go_simp; with_reducible rfl)
                          try simp only [Act.put, List.getElem_toArray, List.getElem_cons_succ, List.getElem_cons_zero, List.setIfInBounds_toArray, List.set_cons_zero, List.set_cons_succ]
                          refine wpAnyT_take (i := 22) (v := ?_) rfl (by decide +kernel) (by decide +kernel) (by decide +kernel) (by decide +kernel) (by decide +kernel) (fun _ _ _ h => h) (Or.inl ⟨by rfl, ?_⟩) (by assumption) ?_
                          rotate_left
                          · intro w hSw; (try dsimp only at hSw); first | (go_simp; done) | (go_simp; with_reducible rfl)
                          try simp only [Act.put, List.getElem_toArray, List.getElem_cons_succ, List.getElem_cons_zero, List.setIfInBounds_toArray, List.set_cons_zero, List.set_cons_succ]
                          refine wpAnyT_take (i := 23) (v := ?_) rfl (by decide +kernel) (by decide +kernel) (by decide +kernel) (by decide +kernel) (by decide +kernel) (fun _ _ _ h => h) (Or.inl ⟨by rfl, ?_⟩) (by assumption) ?_
                          rotate_left
                          · intro w hSw; (try dsimp only at hSw); first | (go_simp; done) | (go_simp; with_reducible rfl)
                          try simp only [Act.put, List.getElem_toArray, List.getElem_cons_succ, List.getElem_cons_zero, List.setIfInBounds_toArray, List.set_cons_zero, List.set_cons_succ]
                          refine wpAnyT_take (i := 24) (v := ?_) rfl (by decide +kernel) (by decide +kernel) (by decide +kernel) (by decide +kernel) (by decide +kernel) (fun _ _ _ h => h) (Or.inl ⟨by rfl, ?_⟩) (by assumption) ?_
                          rotate_left
                          · intro w hSw; (try dsimp only at hSw); first | (go_simp; done) | (go_simp; with_reducible rfl)
                          try simp only [Act.put, List.getElem_toArray, List.getElem_cons_succ, List.getElem_cons_zero, List.setIfInBounds_toArray, List.set_cons_zero, List.set_cons_succ]
                          refine wpAnyT_take (i := 25) (v := ?_) rfl (by decide +kernel) (by decide +kernel) (by decide +kernel) (by decide +kernel) (by decide +kernel) (fun _ _ _ h => h) (Or.inl ⟨by rfl, ?_⟩) (by assumption) ?_
                          rotate_left
                          · intro w hSw; (try dsimp only at hSw); first | (go_simp; done) | (go_simp; with_reducible rfl)
                          try simp only [Act.put, List.getElem_toArray, List.getElem_cons_succ, List.getElem_cons_zero, List.setIfInBounds_toArray, List.set_cons_zero, List.set_cons_succ]
                          refine wpAnyT_take (i := 26) (v := ?_) rfl (by decide +kernel) (by decide +kernel) (by decide +kernel) (by decide +kernel) (by decide +kernel) (fun _ _ _ h => h) (Or.inl ⟨by rfl, ?_⟩) (by assumption) ?_
                          rotate_left
                          · intro w hSw; (try dsimp only at hSw); first | (go_simp; done) | (go_simp; with_reducible rfl)
                          try simp only [Act.put, List.getElem_toArray, List.getElem_cons_succ, List.getElem_cons_zero, List.setIfInBounds_toArray, List.set_cons_zero, List.set_cons_succ]
                          refine wpAnyT_take (i := 27) (v := ?_) rfl (by decide +kernel) (by decide +kernel) (by decide +kernel) (by decide +kernel) (by decide +kernel) (fun _ _ _ h => h) (Or.inl ⟨by rfl, ?_⟩) (by assumption) ?_
                          rotate_left
                          · intro w hSw; (try dsimp only at hSw); first | (go_simp; done) | (go_simp; with_reducible rfl)
                          try simp only [Act.put, List.getElem_toArray, List.getElem_cons_succ, List.getElem_cons_zero, List.setIfInBounds_toArray, List.set_cons_zero, List.set_cons_succ]
                          refine wpAnyT_take (i := 28) (v := ?_) rfl (by decide +kernel) (by decide +kernel) (by decide +kernel) (by decide +kernel) (by decide +kernel) (fun _ _ _ h => h) (Or.inl ⟨by rfl, ?_⟩) (by assumption) ?_
                          rotate_left
                          · intro w hSw; (try dsimp only at hSw); first | (go_simp; done) | (go_simp; with_reducible rfl)
                          try simp only [Act.put, List.getElem_toArray, List.getElem_cons_succ, List.getElem_cons_zero, List.setIfInBounds_toArray, List.set_cons_zero, List.set_cons_succ]
                          refine wpAnyT_take (i := 29) (v := ?_) rfl (by decide +kernel) (by decide +kernel) (by decide +kernel) (by decide +kernel) (by decide +kernel) (fun _ _ _ h => h) (Or.inl ⟨by rfl, ?_⟩) (by assumption) ?_
                          rotate_left
                          · intro w hSw; (try dsimp only at hSw); first | (go_simp; done) | (go_simp; with_reducible rfl)
                          try simp only [Act.put, List.getElem_toArray, List.getElem_cons_succ, List.getElem_cons_zero, List.setIfInBounds_toArray, List.set_cons_zero, List.set_cons_succ]
                          refine wpAnyT_take (i := 30) (v := ?_) rfl (by decide +kernel) (by decide +kernel) (by decide +kernel) (by decide +kernel) (by decide +kernel) (fun _ _ _ h => h) (Or.inl ⟨by rfl, ?_⟩) (by assumption) ?_
                          rotate_left
                          · intro w hSw; (try dsimp only at hSw); first | (go_simp; done) | (go_simp; with_reducible rfl)
                          try simp only [Act.put, List.getElem_toArray, List.getElem_cons_succ, List.getElem_cons_zero, List.setIfInBounds_toArray, List.set_cons_zero, List.set_cons_succ]
                          refine wpAnyT_take (i := 31) (v := ?_) rfl (by decide +kernel) (by decide +kernel) (by decide +kernel) (by decide +kernel) (by decide +kernel) (fun _ _ _ h => h) (Or.inl ⟨by rfl, ?_⟩) (by assumption) ?_
                          rotate_left
                          · intro w hSw; (try dsimp only at hSw); first | (go_simp; done) | (go_simp; with_reducible rfl)
                          try simp only [Act.put, List.getElem_toArray, List.getElem_cons_succ, List.getElem_cons_zero, List.setIfInBounds_toArray, List.set_cons_zero, List.set_cons_succ]
                          refine wpAnyT_take (i := 32) (v := ?_) rfl (by decide +kernel) (by decide +kernel) (by decide +kernel) (by decide +kernel) (by decide +kernel) (fun _ _ _ h => h) (Or.inl ⟨by rfl, ?_⟩) (by assumption) ?_
                          rotate_left
                          · intro w hSw; (try dsimp only at hSw); first | (go_simp; done) | (go_simp; with_reducible rfl)
                          try simp only [Act.put, List.getElem_toArray, List.getElem_cons_succ, List.getElem_cons_zero, List.setIfInBounds_toArray, List.set_cons_zero, List.set_cons_succ]
                          refine wpAnyT_take (i := 33) (v := ?_) rfl (by decide +kernel) (by decide +kernel) (by decide +kernel) (by decide +kernel) (by decide +kernel) (fun _ _ _ h => h) (Or.inl ⟨by rfl, ?_⟩) (by assumption) ?_
                          rotate_left
                          · intro w hSw; (try dsimp only at hSw); first | (go_simp; done) | (go_simp; with_reducible rfl)
                          try simp only [Act.put, List.getElem_toArray, List.getElem_cons_succ, List.getElem_cons_zero, List.setIfInBounds_toArray, List.set_cons_zero, List.set_cons_succ]
                          refine wpAnyT_take (i := 34) (v := ?_) rfl (by decide +kernel) (by decide +kernel) (by decide +kernel) (by decide +kernel) (by decide +kernel) (fun _ _ _ h => h) (Or.inl ⟨by rfl, ?_⟩) (by assumption) ?_
                          rotate_left
                          · intro w hSw; (try dsimp only at hSw); first | (go_simp; done) | (go_simp; with_reducible rfl)
                          try simp only [Act.put, List.getElem_toArray, List.getElem_cons_succ, List.getElem_cons_zero, List.setIfInBounds_toArray, List.set_cons_zero, List.set_cons_succ]
                          refine wpAnyT_take (i := 35) (v := ?_) rfl (by decide +kernel) (by decide +kernel) (by decide +kernel) (by decide +kernel) (by decide +kernel) (fun _ _ _ h => h) (Or.inl ⟨by rfl, ?_⟩) (by assumption) ?_
                          rotate_left
                          · intro w hSw; (try dsimp only at hSw); first | (go_simp; done) | (go_simp; with_reducible rfl)
                          try simp only [Act.put, List.getElem_toArray, List.getElem_cons_succ, List.getElem_cons_zero, List.setIfInBounds_toArray, List.set_cons_zero, List.set_cons_succ]
                          refine wpAnyT_take (i := 36) (v := ?_) rfl (by decide +kernel) (by decide +kernel) (by decide +kernel) (by decide +kernel) (by decide +kernel) (fun _ _ _ h => h) (Or.inl ⟨by rfl, ?_⟩) (by assumption) ?_
                          rotate_left
                          · intro w hSw; (try dsimp only at hSw); first | (go_simp; done) | (go_simp; with_reducible rfl)
                          try simp only [Act.put, List.getElem_toArray, List.getElem_cons_succ, List.getElem_cons_zero, List.setIfInBounds_toArray, List.set_cons_zero, List.set_cons_succ]
                          refine wpAnyT_take (i := 37) (v := ?_) rfl (by decide +kernel) (by decide +kernel) (by decide +kernel) (by decide +kernel) (by decide +kernel) (fun _ _ _ h => h) (Or.inl ⟨by rfl, ?_⟩) (by assumption) ?_
                          rotate_left
                          · intro w hSw; (try dsimp only at hSw); first | (go_simp; done) | (go_simp; with_reducible rfl)
                          try simp only [Act.put, List.getElem_toArray, List.getElem_cons_succ, List.getElem_cons_zero, List.setIfInBounds_toArray, List.set_cons_zero, List.set_cons_succ]
                          refine wpAnyT_take (i := 38) (v := ?_) rfl (by decide +kernel) (by decide +kernel) (by decide +kernel) (by decide +kernel) (by decide +kernel) (fun _ _ _ h => h) (Or.inl ⟨by rfl, ?_⟩) (by assumption) ?_
                          rotate_left
                          · intro w hSw; (try dsimp only at hSw); first | (go_simp; done) | (go_simp; with_reducible rfl)
                          try simp only [Act.put, List.getElem_toArray, List.getElem_cons_succ, List.getElem_cons_zero, List.setIfInBounds_toArray, List.set_cons_zero, List.set_cons_succ]
                          refine wpAnyT_last (i := 39) (by kernel_rfl) (by kernel_rfl) rfl (by kernel_rfl) (fun K hK => ?_)
                          go_simp
                          refine hK.out _ _ ?_
                          clear hK K
                          try simp only [Act.put, List.getElem_toArray, List.getElem_cons_succ, List.getElem_cons_zero, List.setIfInBounds_toArray, List.set_cons_zero, List.set_cons_succ]
                          clear hHeld fF cF cW cS k0
                          go_upto_region 32 with fail
                          obtain ⟨W6, hW6⟩ : ∃ W, (W5.setCell ⟨FR, k, none⟩ (.bool false)).drew = W := ⟨_, rfl⟩
                          rw [hW6] at HO7 HB7 HZ7 ⊢
                          have zF := HZ7.out
                          clear hW6
                          go_wp2_with fail
                          go_roundw
                          case rel => exact ⟨k + 1, by omega, by go_num, by rw [HCN2.out]; go_num, HO7.out, HB7.out⟩
                          case measure => simp [intOf]; omega
            ·
              as_aux_lemma =>
                obtain rfl : n = k := by omega
                have HSA : Hid (stage (wTo l G n) n = wTo l G n) := by have := stage_all (wTo l G n); rwa [HWL.out] at this
                have HSB2 : Hid (stageB (frozen0 l G) n = frozen0 l G) := by have := stageB_all (frozen0 l G); rwa [HFL.out] at this
                have HO8 : Hid (RLn SZ FR WT (size0 l, frozen0 l G) (wTo l G n) wr) := by
                  have := HO.out
                  rwa [HSA.out, HSB2.out] at this
                have HCN1 : Hid ((opensTo (frozen0 l G) n).length = (frozen0 l G).count false) := by
                  have := opens_count (frozen0 l G)
                  unfold opens at this
                  rwa [HFL.out] at this
                have HST : Hid (StOk n (size0 l, frozen0 l G)) := by have := StOk.start HF.out G; rwa [HN.out] at this
                have HRF : Hid (finB l G sp n (size0 l, frozen0 l G) = resOk av gp l) := by show _ = _; unfold resOk; rw [HG.out, HN.out, HSPN.out]
                have HCN0 : Hid ((frozen0 l G).count false ≤ n) := by have := List.count_le_length (a := false) (l := frozen0 l G); rwa [HFL.out] at this
                have hsp := HSPB.out n (Nat.le_refl _)
                rw [HSPN.out] at hsp
                have HSPD := Lib.hid hsp
                clear hsp
                go_wp2_with fail
                obtain ⟨w4, rfl⟩ : ∃ x : World, x = wr := ⟨_, rfl⟩
                go_loopw [17] (fun lf wr => ∃ (gk : Nat) (st : St), lf = .int .i64 (st.2.count false : Nat) ∧ StOk n st ∧ RLn SZ FR WT st (wTo l G n) wr ∧ Hid (st.2.count false ≤ gk) ∧ Hid (finB l G sp gk st = resOk av gp l) ∧ Below w.heap.size w wr) (fun lf _ => (intOf lf).toNat)
                case atStart => exact ⟨n, _, by rw [HCN1.out], HST.out, HO8.out, HCN0, HRF, HB.out⟩
                case round =>
                  obtain ⟨gk, st, rfl, hst, hLs, HCN, HFI, hbs⟩ := hrel
                  have HSTs := Lib.hid hst
                  have HLs := Lib.hid hLs
                  have HBs := Lib.hid hbs
                  clear hst hLs hbs HO8 HO HB
                  by_cases hc : st.2.count false = 0
                  ·
                    as_aux_lemma =>
                      have HRR : Hid (resL av gp l = st.1) := by show _ = _; rw [HR.out, ← HFI.out, finB_end hc]
                      rw [hc]
                      clear hc
                      go_wp2_with fail
                      go_ret2
                      refine ⟨.slice (some ⟨SZ, 0, none⟩) n n, by rw [HE.out]; rfl, ?_, HBs.out, freshV.mk HSZ.out⟩
                      rw [HRR.out]
                      have := HLs.out.s.isInts (by rw [HSTs.out.ls]; unfold maxLen; omega)
                      rwa [HSTs.out.ls] at this
                  · have hnp : 0 < n := by have := List.count_le_length (a := false) (l := st.2); rw [HSTs.out.lf] at this; omega
                    obtain ⟨nx1, nx2, nx3⟩ := finB_next (l := l) (g := G) (sp := sp) HCN.out hc
                    have HNX : Hid ((stepB l G sp st).2.count false ≤ gk - 1 ∧ finB l G sp (gk - 1) (stepB l G sp st) = resOk av gp l) := ⟨nx1, by rw [← nx2]; exact HFI.out⟩
                    have HDEC : Hid ((stepB l G sp st).2.count false < st.2.count false) := step_count hc
                    obtain ⟨b, off, rfl, hlt, hcell⟩ := H3.out hnp
                    have HCELL : Hid (∀ W, Below w.heap.size w W → ∀ i, i < n → ∀ j, j < 5 → W.cell? ⟨b, off + i * 5 + j, none⟩ = some (.int .i64 (gf l i j))) := fun W hW i hi j hj => (hW.cell (p := ⟨b, off + i * 5 + j, none⟩) hlt).trans (hcell i hi j hj)
                    have HLB : Hid (b < w.heap.size) := hlt
                    obtain ⟨c, hcc⟩ : ∃ c, st.2.count false = c := ⟨_, rfl⟩
                    have HCC := Lib.hid hcc
                    have hcp : (0 : Int) < (c : Int) := by omega
                    have hcb : c ≤ 100 := by have := List.count_le_length (a := false) (l := st.2); rw [HSTs.out.lf] at this; omega
                    rw [hcc]
                    have hcp0 : 0 < c := by omega
                    have HCB := Lib.hid hcb
                    have HSTF : Hid (st.2.length = n) := HSTs.out.lf
                    clear hc nx1 nx2 nx3 hcell hlt hcc hcb
                    go_wp2_with fail
                    as_aux_lemma =>
                      clear hcp hcp0
                      obtain ⟨wo, rfl⟩ : ∃ wo : World, wo = wr := ⟨_, rfl⟩
                      go_loopw [19, 20, 21] (fun fr wt i wr => ∃ k : Nat, k ≤ n ∧ i = .int .i64 k ∧ fr = .int .i64 (freeTo l sp st.1 st.2 k) ∧ wr.ownsRow wo.heap.size 3 1 wt (opensTo st.2 k).length ((wts l G (opensTo st.2 k)).map (Value.int .i64)) ∧ Below wo.heap.size wo wr) (fun _ _ i _ => n - (intOf i).toNat)
                      case atStart => exact ⟨0, Nat.zero_le _, rfl, rfl, World.ownsRow_nil _ _ _ _, Below.refl _ _⟩
                      case round =>
                        obtain ⟨k, hk, rfl, rfl, hW, hbl⟩ := hrel
                        have HW := Lib.hid hW
                        have HB := Lib.hid hbl
                        have hfb := freeTo_bd (sp := sp) HSTs.out HN.out HF.out k hk
                        have hsd := HSPD.out
                        obtain ⟨fr, hfr⟩ : ∃ q, freeTo l sp st.1 st.2 k = q := ⟨_, rfl⟩
                        rw [hfr] at hfb ⊢
                        have HFR := Lib.hid hfr
                        have HLk := Lib.hid (HLs.out.below HB.out (Nat.le_refl _))
                        have HBW : Hid (Below w.heap.size w wr) := HBs.out.trans (HB.out.mono HBs.out.size)
                        clear hW hbl hfr
                        by_cases hkn : k < n
                        ·
                          as_aux_lemma =>
                            have hkn' : (k : Int) < (n : Int) := by omega
                            have hk0 : (0 : Int) ≤ (k : Int) := by omega
                            have cF := HLk.out.f.cell (i := k) (by rw [HSTF.out]; exact hkn)
                            have hfx := (flexB_iff.1 (HF.out k (by rw [HN.out]; exact hkn))).1
                            have hsb := HSTs.out.bd k hkn
                            have HFN : Hid (freeTo l sp st.1 st.2 (k + 1) = fr - (if gb st.2 k then gz st.1 k else gf l k 0)) := by show _ = _; rw [← HFR.out]; rfl
                            cases hz : gb st.2 k with
                            | true =>
                              rw [hz] at cF
                              have cS := HLk.out.s.cell (i := k) (by rw [HSTs.out.ls]; exact hkn)
                              obtain ⟨s, hs⟩ : ∃ q, gz st.1 k = q := ⟨_, rfl⟩
                              rw [hs] at cS hsb
                              have HFN2 : Hid (freeTo l sp st.1 st.2 (k + 1) = fr - s) := by show _ = _; rw [HFN.out, hz, hs]; rfl
                              have HON : Hid (opensTo st.2 (k + 1) = opensTo st.2 k) := opensTo_yes hz
                              have hw1 : IntKind.i64.wrap (fr - s) = fr - s := IntWalk.i64_in _ (by omega)
                              clear hz hs hfb hfx hsb hsd
                              go_wp2_with fail
                              go_roundw
                              case rel => exact ⟨k + 1, by omega, by go_num, by rw [HFN2.out], by rw [HON.out]; exact HW.out, HB.out⟩
                              case measure => simp [intOf]; omega
                            | false =>
                              rw [hz] at cF
                              have k0 := HCELL.out wr HBW.out k hkn 0 (by omega)
                              rw [Nat.add_zero] at k0
                              have cW := HLk.out.t.cell (i := k) (by rw [HWL.out]; exact hkn)
                              rw [wTo_at hkn] at cW
                              have HON : Hid (opensTo st.2 (k + 1) = opensTo st.2 k ++ [k]) := opensTo_no hz
                              have hol := opensTo_le st.2 k
                              obtain ⟨q0, hq0⟩ : ∃ q, gf l k 0 = q := ⟨_, rfl⟩
                              obtain ⟨om, hom⟩ : ∃ q, wOf l G k = q := ⟨_, rfl⟩
                              rw [hom] at cW
                              rw [hq0] at k0 hfx
                              have HFN2 : Hid (freeTo l sp st.1 st.2 (k + 1) = fr - q0) := by show _ = _; rw [HFN.out, hz, hq0]; rfl
                              have HWN : Hid ((wts l G (opensTo st.2 (k + 1))).map (Value.int .i64) = (wts l G (opensTo st.2 k)).map (Value.int .i64) ++ [.int .i64 om]) := by show _ = _; rw [HON.out]; simp [wts, hom]
                              have HLN : Hid ((opensTo st.2 (k + 1)).length = (opensTo st.2 k).length + 1) := by show _ = _; rw [HON.out]; simp
                              have hw1 : IntKind.i64.wrap (fr - q0) = fr - q0 := IntWalk.i64_in _ (by omega)
                              obtain ⟨m, hm⟩ : ∃ x, (opensTo st.2 k).length = x := ⟨_, rfl⟩
                              rw [hm] at HW hol HLN
                              have HHB : Hid (wo.heap.size ≤ wr.heap.size) := HB.out.size
                              have hm' : m ≤ 100 := by omega
                              clear hz hq0 hom hfb hfx hsb hsd hm
                              go_wp2_with (at_builtin; refine wpList_append_lies _ rfl _ _ 26 rfl wo.heap.size 3 i0 _ 1 8 Try.underlying26 hi0 hz0 hz1 hz2 rfl (by omega) _ m ((wts l G (opensTo st.2 k)).map (Value.int .i64)) rfl (HW.out.alloc _) ⟨wr.heap.size, 0, none⟩ 1 1 [.int .i64 om] rfl rfl (World.news_of_block (cs := #[.int .i64 om]) (t := 3) (fr := (0, 0)) (heap_alloc_new wr _)) (by simp [Value.oneCell']) (by omega) (by unfold maxLen; omega) (by omega) (by have := HHB.out; simp; omega) _ rfl ?_; intro gg cap' w6 hown6 hgrow6 hat6 hlt6; have HOW6 := Lib.hid hown6; have HB6 : Hid (Below wo.heap.size wo w6) := (HB.out.alloc HB.out.size _).grown hgrow6 (by have := HB.out.size; simp; omega) (fun q hq => (HW.out.lt q hq).1); clear hown6 hgrow6 hat6 hlt6)
                              go_roundw
                              case rel => exact ⟨k + 1, by omega, by go_num, by rw [HFN2.out], by rw [HLN.out, HWN.out]; exact HOW6.out, HB6.out⟩
                              case measure => simp [intOf]; omega
                        · obtain rfl : n = k := by omega
                          have HOI : Hid (opens st.2 = opensTo st.2 n) := by show _ = _; unfold opens; rw [HSTF.out]
                          have HTOT : Hid (tot l G sp st.1 st.2 = max (sgn G * fr) 0) := by show _ = _; unfold tot; rw [HSTF.out, HFR.out]
                          have HWI := Lib.hid (ownsRow_isInts HW.out)
                          as_aux_lemma =>
                            go_upto_if 247 with fail
                            go_cut [22] (fun s7 wx => s7 = .int .i64 (sgn G) ∧ wx = wr)
                            case first =>
                              cases G
                              all_goals
                                go_wp2
                                go_meet
                                exact ⟨rfl, rfl⟩
                            case rest =>
                              obtain ⟨rfl, rfl⟩ := hcut
                              obtain ⟨wa, rfl⟩ : ∃ x : World, x = wc := ⟨_, rfl⟩
                              go_upto_region 47 with fail
                              go_cut [22, 23] (fun s7 s8 wx => s7 = .int .i64 (sgn G) ∧ IsInts wx s8 (prts l G sp st.1 st.2) ∧ Below wa.heap.size wa wx)
                              case first =>
                                as_aux_lemma =>
                                  obtain ⟨sg, hsg⟩ : ∃ q, sgn G = q := ⟨_, rfl⟩
                                  have hs1 : sg = 1 ∨ sg = -1 := by rw [← hsg]; cases G <;> simp [sgn]
                                  have HSG := Lib.hid hsg
                                  have hsd := HSPD.out
                                  rw [hsg] at HTOT ⊢
                                  have HPR : Hid (prts l G sp st.1 st.2 = shareParts (max (sg * fr) 0) (wts l G (opensTo st.2 n))) := by show _ = _; unfold prts; rw [HTOT.out, HOI.out]
                                  clear hsg
                                  by_cases hp : 0 < sg * fr
                                  · have HMX : Hid (max (sg * fr) 0 = sg * fr) := by show _ = _; omega
                                    rcases hs1 with rfl | rfl
                                    all_goals
                                      go_wp2_with (go_at_call 36; refine (rshare_any _ _ (wts l G (opensTo st.2 n)) _ HWI.out).mono ?_; rintro e w3 ⟨v, rfl, hv, hb3⟩)
                                      go_meet
                                      exact ⟨by rw [HSG.out], by rw [HPR.out, HMX.out]; first | exact hv | simpa using hv, hb3⟩
                                  · have HMX : Hid (max (sg * fr) 0 = 0) := by show _ = _; omega
                                    by_cases hp0 : sg * fr < 0
                                    · clear hp
                                      rcases hs1 with rfl | rfl
                                      all_goals
                                        go_wp2_with (go_at_call 36; refine (rshare_any _ _ (wts l G (opensTo st.2 n)) _ HWI.out).mono ?_; rintro e w3 ⟨v, rfl, hv, hb3⟩)
                                        go_meet
                                        exact ⟨by rw [HSG.out], by rw [HPR.out, HMX.out]; exact hv, hb3⟩
                                    · have hz : fr = 0 := by rcases hs1 with rfl | rfl <;> omega
                                      subst hz
                                      clear hp hp0
                                      rcases hs1 with rfl | rfl
                                      all_goals
                                        go_wp2_with (go_at_call 36; refine (rshare_any _ _ (wts l G (opensTo st.2 n)) _ HWI.out).mono ?_; rintro e w3 ⟨v, rfl, hv, hb3⟩)
                                        go_meet
                                        exact ⟨by rw [HSG.out], by rw [HPR.out, HMX.out]; exact hv, hb3⟩
                              case rest =>
                                obtain ⟨rfl, hP, hb3⟩ := hcut
                                obtain ⟨w3, rfl⟩ : ∃ x : World, x = wc := ⟨_, rfl⟩
                                have HB3 : Hid (Below w.heap.size w w3) := HBW.out.trans (hb3.mono HBW.out.size)
                                have hpf := prts_facts (g := G) HSTs.out HN.out HF.out hn HSPD.out
                                rw [HOI.out] at hpf
                                have HPF := Lib.hid hpf
                                obtain ⟨P, hPe⟩ : ∃ P, prts l G sp st.1 st.2 = P := ⟨_, rfl⟩
                                rw [hPe] at hP HPF
                                have HPE := Lib.hid hPe
                                have HLr3 := Lib.hid (HLk.out.below hb3 (Nat.le_refl _))
                                obtain ⟨O, hOe⟩ : ∃ O, opensTo st.2 n = O := ⟨_, rfl⟩
                                rw [hOe] at HOI HPF
                                have HOE := Lib.hid hOe
                                have HRK : Hid (∀ j, j < n → gb st.2 j = false → (opensTo st.2 j).length < O.length ∧ gn O (opensTo st.2 j).length = j) := fun j hj h => by
                                  have := opens_at (f := st.2) (i := j) (by rw [HSTF.out]; exact hj) h
                                  rwa [HOI.out] at this
                                have HON : Hid (O.length = (opensTo st.2 n).length) := by show _ = _; rw [HOE.out]
                                have HOLE : Hid (O.length ≤ n) := by have := opensTo_le st.2 n; rw [← HON.out] at this; exact this
                                have HTG : Hid (∀ r, r < O.length → gz (tgTo n l G P O O.length) (gn O r) = tg l G P O r) := fun r hr => by
                                  have := tgTo_at (n := n) (l := l) (g := G) (P := P) (f := st.2) (m := n) (Nat.le_refl _) (k := O.length) (j := r) hr (by rw [HOE.out]; exact Nat.le_refl _)
                                  rwa [HOE.out] at this
                                have HVB : Hid (∀ j, j ≤ O.length → -2147483648 * (j : Int) ≤ vTo l G P O j ∧ vTo l G P O j ≤ 2147483648 * (j : Int)) := fun j hj => by
                                  have := vTo_bd (l := l) (g := G) (P := P) (f := st.2) (m := n) (by rw [HN.out]; exact Nat.le_refl _) HF.out (by rw [HOE.out]; exact HPF.out.2) j (by rw [HOE.out]; exact hj)
                                  rwa [HOE.out] at this
                                have HTB : Hid (∀ j, j < O.length → -1073741824 ≤ tg l G P O j ∧ tg l G P O j ≤ 1074790400) := fun j hj => by
                                  have := tg_bd (l := l) (g := G) (P := P) (f := st.2) (m := n) (k := j) (by rw [HN.out]; exact Nat.le_refl _) HF.out (by rw [HOE.out]; exact hj) (HPF.out.2 j hj)
                                  rwa [HOE.out] at this
                                obtain ⟨pa, pc, rfl, -, -, p3⟩ := hP
                                rw [HPF.out.1] at p3
                                have P3 := Lib.hid p3
                                have HPL : Hid (P.length = O.length) := HPF.out.1
                                rw [HPL.out]
                                obtain ⟨sg, hsg⟩ : ∃ q, sgn G = q := ⟨_, rfl⟩
                                have hs1 : sg = 1 ∨ sg = -1 := by rw [← hsg]; cases G <;> simp [sgn]
                                have HSG := Lib.hid hsg
                                rw [hsg]
                                have HS1 := Lib.hid hs1
                                clear hpf hPe hOe hb3 p3 hsg hs1 HB HLk HWI HTOT HBW HW hfb hsd
                                as_aux_lemma =>
                                  have hmk := make_ints n (by omega) w3
                                  have HT0 : Hid (OwnI (w3.alloc (.cells (madeCells #[.int .i64 0] n) 3)) w3.heap.size (tgTo n l G P O 0)) := OwnI.made w3 n
                                  have HBT0 : Hid (Below w3.heap.size w3 (w3.alloc (.cells (madeCells #[.int .i64 0] n) 3))) := (Below.refl _ _).alloc (Nat.le_refl _) _
                                  have HLT3 := Lib.hid HLr3.out.lt
                                  go_wp2_with fail
                                  clear hmk
                                  go_loopw [26, 27, 28] (fun v i kk wr => ∃ j : Nat, j ≤ n ∧ i = .int .i64 j ∧ kk = .int .i64 ((opensTo st.2 j).length : Nat) ∧ v = .int .i64 (vTo l G P O (opensTo st.2 j).length) ∧ OwnI wr w3.heap.size (tgTo n l G P O (opensTo st.2 j).length) ∧ Below w3.heap.size w3 wr) (fun _ i _ _ => n - (intOf i).toNat)
                                  case atStart => exact ⟨0, Nat.zero_le _, rfl, rfl, rfl, HT0.out, HBT0.out⟩
                                  case round =>
                                    obtain ⟨j, hj, rfl, rfl, rfl, hT, hbl⟩ := hrel
                                    have HT := Lib.hid hT
                                    have HB := Lib.hid hbl
                                    have HLj := Lib.hid (HLr3.out.below HB.out (Nat.le_refl _))
                                    have HBW : Hid (Below w.heap.size w wr) := HB3.out.trans (HB.out.mono HB3.out.size)
                                    clear hT hbl
                                    by_cases hjn : j < n
                                    ·
                                      as_aux_lemma =>
                                        have hjn' : (j : Int) < (n : Int) := by omega
                                        have hj0 : (0 : Int) ≤ (j : Int) := by omega
                                        have cF := HLj.out.f.cell (i := j) (by rw [HSTF.out]; exact hjn)
                                        cases hz : gb st.2 j with
                                        | true =>
                                          rw [hz] at cF
                                          have HONX : Hid (opensTo st.2 (j + 1) = opensTo st.2 j) := opensTo_yes hz
                                          clear hz
                                          go_wp2_with fail
                                          go_roundw
                                          case rel => exact ⟨j + 1, by omega, by go_num, by rw [HONX.out], by rw [HONX.out], by rw [HONX.out]; exact HT.out, HB.out⟩
                                          case measure => simp [intOf]; omega
                                        | false =>
                                          rw [hz] at cF
                                          obtain ⟨hr1, hr2⟩ := HRK.out j hjn hz
                                          have HLN : Hid ((opensTo st.2 (j + 1)).length = (opensTo st.2 j).length + 1) := by show _ = _; rw [opensTo_no hz]; simp
                                          have htg : tg l G P O (opensTo st.2 j).length = gf l j 0 + sg * gz P (opensTo st.2 j).length := by unfold tg; rw [hr2, HSG.out]
                                          obtain ⟨r, hr⟩ : ∃ r, (opensTo st.2 j).length = r := ⟨_, rfl⟩
                                          rw [hr] at hr1 hr2 HLN htg HT ⊢
                                          have htb := HTB.out r hr1
                                          have hvb := HVB.out r (by omega)
                                          have hpb := HPF.out.2 r hr1
                                          have hrn : r ≤ 100 := by have := HOLE.out; omega
                                          obtain ⟨pb, po, rfl, pb1, pcell⟩ := P3.out (by omega)
                                          have cp := (HB.out.cell (p := ⟨pb, po + r, none⟩) pb1).trans (pcell r hr1)
                                          have kk : ∀ q, q < 5 → wr.cell? ⟨b, off + j * 5 + q, none⟩ = some (.int .i64 (gf l j q)) := fun q hq => HCELL.out wr HBW.out j hjn q hq
                                          have k0 := kk 0 (by omega)
                                          have k1 := kk 1 (by omega)
                                          have k2 := kk 2 (by omega)
                                          rw [Nat.add_zero] at k0
                                          have hfx := (flexB_iff.1 (HF.out j (by rw [HN.out]; exact hjn))).1
                                          have hcb := cl_bd (HF.out j (by rw [HN.out]; exact hjn)) (tg l G P O r)
                                          unfold cl at hcb
                                          have HVN : Hid (vTo l G P O (r + 1) = vTo l G P O r + (clampZ (tg l G P O r) (gf l j 1) (gf l j 2) - tg l G P O r)) := by
                                            show _ = _
                                            show vTo l G P O r + (cl l (gn O r) (tg l G P O r) - tg l G P O r) = _
                                            rw [hr2]; rfl
                                          have HTN : Hid (tgTo n l G P O (r + 1) = (tgTo n l G P O r).set j (tg l G P O r)) := by
                                            show (tgTo n l G P O r).set (gn O r) (tg l G P O r) = _
                                            rw [hr2]
                                          obtain ⟨t, ht⟩ : ∃ t, tg l G P O r = t := ⟨_, rfl⟩
                                          rw [ht] at htb hcb HVN HTN htg
                                          obtain ⟨V, hV⟩ : ∃ V, vTo l G P O r = V := ⟨_, rfl⟩
                                          rw [hV] at hvb HVN ⊢
                                          obtain ⟨p, hp⟩ : ∃ p, gz P r = p := ⟨_, rfl⟩
                                          rw [hp] at cp hpb htg
                                          obtain ⟨B0, hB0⟩ : ∃ p, gf l j 0 = p := ⟨_, rfl⟩
                                          rw [hB0] at k0 hfx htg
                                          obtain ⟨lo, hlo⟩ : ∃ p, gf l j 1 = p := ⟨_, rfl⟩
                                          rw [hlo] at k1 hcb HVN
                                          obtain ⟨hh, hhi⟩ : ∃ p, gf l j 2 = p := ⟨_, rfl⟩
                                          rw [hhi] at k2 hcb HVN
                                          obtain ⟨C, hC⟩ : ∃ C, clampZ t lo hh = C := ⟨_, rfl⟩
                                          rw [hC] at hcb HVN
                                          have HCC2 := Lib.hid hC
                                          have HT0' : Hid (B0 + sg * p = t) := htg.symm
                                          have hrm : (r : Int) < (O.length : Int) := by omega
                                          have hr0 : (0 : Int) ≤ (r : Int) := by omega
                                          have ctg := HT.out.cell (i := j) (by rw [tgTo_len]; exact hjn)
                                          have ftg := HT.out.free j
                                          have hs1 := HS1.out
                                          have hw1 : IntKind.i64.wrap (sg * p) = sg * p := IntWalk.i64_in _ (by rcases hs1 with rfl | rfl <;> omega)
                                          have hw2 : IntKind.i64.wrap (B0 + sg * p) = t := by rw [IntWalk.i64_in _ (by have := HT0'.out; omega)]; exact HT0'.out
                                          have HT6 : Hid (OwnI (wr.setCell ⟨w3.heap.size, j, none⟩ (.int .i64 t)).drew w3.heap.size (tgTo n l G P O (r + 1))) := by
                                            show OwnI _ _ _
                                            rw [HTN.out]; exact (HT.out.set j t).drew
                                          have HB6 : Hid (Below w3.heap.size w3 (wr.setCell ⟨w3.heap.size, j, none⟩ (.int .i64 t)).drew) := (HB.out.setCell (p := ⟨w3.heap.size, j, none⟩) (Nat.le_refl _) _).drew
                                          have hk6 : (wr.setCell ⟨w3.heap.size, j, none⟩ (.int .i64 t)).drew.cell? ⟨b, off + j * 5 + 1, none⟩ = some (.int .i64 lo) ∧ (wr.setCell ⟨w3.heap.size, j, none⟩ (.int .i64 t)).drew.cell? ⟨b, off + j * 5 + 2, none⟩ = some (.int .i64 hh) := by
                                            have hlt : b < w3.heap.size := by have := HLB.out; have := HB3.out.size; omega
                                            exact ⟨(HB6.out.cell (p := ⟨b, off + j * 5 + 1, none⟩) hlt).trans ((HB.out.cell (p := ⟨b, off + j * 5 + 1, none⟩) hlt).symm.trans k1), (HB6.out.cell (p := ⟨b, off + j * 5 + 2, none⟩) hlt).trans ((HB.out.cell (p := ⟨b, off + j * 5 + 2, none⟩) hlt).symm.trans k2)⟩
                                          have HK6 := Lib.hid hk6
                                          have HCT : Hid ((wr.setCell ⟨w3.heap.size, j, none⟩ (.int .i64 t)).drew.cell? ⟨w3.heap.size, j, none⟩ = some (.int .i64 t)) := by
                                            have := (HT.out.set j t).cell (i := j) (by rw [List.length_set, tgTo_len]; exact hjn)
                                            rw [gz_set_same _ _ _ (by rw [tgTo_len]; exact hjn)] at this
                                            exact this
                                          have HWB : Hid (-9223372036854775808 ≤ C - t ∧ C - t ≤ 9223372036854775807 ∧ -9223372036854775808 ≤ V + (C - t) ∧ V + (C - t) ≤ 9223372036854775807) := ⟨by omega, by omega, by omega, by omega⟩
                                          clear hk6 kk k1 k2 hz ht hV hp hB0 hlo hhi hC pcell hfx hpb htg hr hs1 hr2 htb hvb hcb pb1
                                          go_wp2_with fail
                                          refine wp_region_T (S := (fun w' => w'.cell? ⟨b, off + j * 5, none⟩ = some (.int .i64 B0) ∧ w'.cell? ⟨pb, po + r, none⟩ = some (.int .i64 p))) 15 (by kernel_rfl) (⟨k0, cp⟩) (fun hHeld => ?_)
                                          refine wpAnyT_take (i := 0) (v := ?_) rfl (by decide +kernel) (by decide +kernel) (by decide +kernel) (by decide +kernel) (by decide +kernel) (fun _ _ _ h => h) (Or.inl ⟨by rfl, ?_⟩) (by assumption) ?_
                                          rotate_left
                                          · intro w hSw; (try dsimp only at hSw); first | (go_simp; done) | (go_simp; with_reducible rfl)
                                          try simp only [Act.put, List.getElem_toArray, List.getElem_cons_succ, List.getElem_cons_zero, List.setIfInBounds_toArray, List.set_cons_zero, List.set_cons_succ]
                                          refine wpAnyT_take (i := 1) (v := ?_) rfl (by decide +kernel) (by decide +kernel) (by decide +kernel) (by decide +kernel) (by decide +kernel) (fun _ _ _ h => h) (Or.inl ⟨by rfl, ?_⟩) (by assumption) ?_
                                          rotate_left
                                          · intro w hSw; (try dsimp only at hSw); first | (go_simp; done) | (go_simp; with_reducible rfl)
                                          try simp only [Act.put, List.getElem_toArray, List.getElem_cons_succ, List.getElem_cons_zero, List.setIfInBounds_toArray, List.set_cons_zero, List.set_cons_succ]
                                          refine wpAnyT_take (i := 2) (v := ?_) rfl (by decide +kernel) (by decide +kernel) (by decide +kernel) (by decide +kernel) (by decide +kernel) (fun _ _ _ h => h) (Or.inl ⟨by rfl, ?_⟩) (by assumption) ?_
                                          rotate_left
                                          · intro w hSw; (try dsimp only at hSw); first | (go_simp; done) | (go_simp; with_reducible rfl)
                                          try simp only [Act.put, List.getElem_toArray, List.getElem_cons_succ, List.getElem_cons_zero, List.setIfInBounds_toArray, List.set_cons_zero, List.set_cons_succ]
                                          refine wpAnyT_take (i := 3) (v := ?_) rfl (by decide +kernel) (by decide +kernel) (by decide +kernel) (by decide +kernel) (by decide +kernel) (fun _ _ _ h => h) (Or.inl ⟨by rfl, ?_⟩) (by assumption) ?_
                                          rotate_left
                                          · intro w hSw; (try dsimp only at hSw); first | (go_simp; done) | (go_simp; with_reducible rfl)
                                          try simp only [Act.put, List.getElem_toArray, List.getElem_cons_succ, List.getElem_cons_zero, List.setIfInBounds_toArray, List.set_cons_zero, List.set_cons_succ]
                                          refine wpAnyT_take (i := 4) (v := ?_) rfl (by decide +kernel) (by decide +kernel) (by decide +kernel) (by decide +kernel) (by decide +kernel) (fun _ _ _ h => h) (Or.inl ⟨by rfl, ?_⟩) (by assumption) ?_
                                          rotate_left
                                          · intro w hSw; (try dsimp only at hSw); first | (go_simp; done) | (go_simp; with_reducible rfl)
                                          try simp only [Act.put, List.getElem_toArray, List.getElem_cons_succ, List.getElem_cons_zero, List.setIfInBounds_toArray, List.set_cons_zero, List.set_cons_succ]
                                          refine wpAnyT_take (i := 5) (v := ?_) rfl (by decide +kernel) (by decide +kernel) (by decide +kernel) (by decide +kernel) (by decide +kernel) (fun _ _ _ h => h) (Or.inl ⟨by rfl, ?_⟩) (by assumption) ?_
                                          rotate_left
                                          · intro w hSw; (try dsimp only at hSw); first | (go_simp; done) | (go_simp; with_reducible rfl)
                                          try simp only [Act.put, List.getElem_toArray, List.getElem_cons_succ, List.getElem_cons_zero, List.setIfInBounds_toArray, List.set_cons_zero, List.set_cons_succ]
                                          refine wpAnyT_take (i := 6) (v := ?_) rfl (by decide +kernel) (by decide +kernel) (by decide +kernel) (by decide +kernel) (by decide +kernel) (fun _ _ _ h => h) (Or.inl ⟨by rfl, ?_⟩) (by assumption) ?_
                                          rotate_left
                                          · intro w hSw; (try dsimp only at hSw); first | (go_simp; done) | (go_simp; with_reducible rfl)
                                          try simp only [Act.put, List.getElem_toArray, List.getElem_cons_succ, List.getElem_cons_zero, List.setIfInBounds_toArray, List.set_cons_zero, List.set_cons_succ]
                                          refine wpAnyT_take (i := 7) (v := ?_) rfl (by decide +kernel) (by decide +kernel) (by decide +kernel) (by decide +kernel) (by decide +kernel) (fun _ _ _ h => h) (Or.inl ⟨by rfl, ?_⟩) (by assumption) ?_
                                          rotate_left
                                          · intro w hSw; (try dsimp only at hSw); first | (go_simp; done) | (go_simp; with_reducible rfl)
                                          try simp only [Act.put, List.getElem_toArray, List.getElem_cons_succ, List.getElem_cons_zero, List.setIfInBounds_toArray, List.set_cons_zero, List.set_cons_succ]
                                          refine wpAnyT_take (i := 8) (v := ?_) rfl (by decide +kernel) (by decide +kernel) (by decide +kernel) (by decide +kernel) (by decide +kernel) (fun _ _ _ h => h) (Or.inl ⟨by rfl, ?_⟩) (by assumption) ?_
                                          rotate_left
                                          · intro w hSw; (try dsimp only at hSw); first | (go_simp; done) | (go_simp; with_reducible rfl)
                                          try simp only [Act.put, List.getElem_toArray, List.getElem_cons_succ, List.getElem_cons_zero, List.setIfInBounds_toArray, List.set_cons_zero, List.set_cons_succ]
                                          refine wpAnyT_take (i := 9) (v := ?_) rfl (by decide +kernel) (by decide +kernel) (by decide +kernel) (by decide +kernel) (by decide +kernel) (fun _ _ _ h => h) (Or.inl ⟨by rfl, ?_⟩) (by assumption) ?_
                                          rotate_left
                                          · intro w hSw; (try dsimp only at hSw); first | (go_simp; done) | (go_simp; with_reducible rfl)
                                          try simp only [Act.put, List.getElem_toArray, List.getElem_cons_succ, List.getElem_cons_zero, List.setIfInBounds_toArray, List.set_cons_zero, List.set_cons_succ]
                                          refine wpAnyT_take (i := 10) (v := ?_) rfl (by decide +kernel) (by decide +kernel) (by decide +kernel) (by decide +kernel) (by decide +kernel) (fun _ _ _ h => h) (Or.inl ⟨by rfl, ?_⟩) (by assumption) ?_
                                          rotate_left
                                          · intro w hSw; (try dsimp only at hSw); first | (go_simp; done) | (go_simp; with_reducible rfl)
                                          try simp only [Act.put, List.getElem_toArray, List.getElem_cons_succ, List.getElem_cons_zero, List.setIfInBounds_toArray, List.set_cons_zero, List.set_cons_succ]
                                          refine wpAnyT_take (i := 11) (v := ?_) rfl (by decide +kernel) (by decide +kernel) (by decide +kernel) (by decide +kernel) (by decide +kernel) (fun _ _ _ h => h) (Or.inl ⟨by rfl, ?_⟩) (by assumption) ?_
                                          rotate_left
                                          · intro w hSw; (try dsimp only at hSw); first | (go_simp; done) | (go_simp; with_reducible rfl)
                                          try simp only [Act.put, List.getElem_toArray, List.getElem_cons_succ, List.getElem_cons_zero, List.setIfInBounds_toArray, List.set_cons_zero, List.set_cons_succ]
                                          refine wpAnyT_take (i := 12) (v := ?_) rfl (by decide +kernel) (by decide +kernel) (by decide +kernel) (by decide +kernel) (by decide +kernel) (fun _ _ _ h => h) (Or.inl ⟨by rfl, ?_⟩) (by assumption) ?_
                                          rotate_left
                                          · intro w hSw; (try dsimp only at hSw); first | (go_simp; done) | (go_simp; with_reducible rfl)
                                          try simp only [Act.put, List.getElem_toArray, List.getElem_cons_succ, List.getElem_cons_zero, List.setIfInBounds_toArray, List.set_cons_zero, List.set_cons_succ]
                                          refine wpAnyT_take (i := 13) (v := ?_) rfl (by decide +kernel) (by decide +kernel) (by decide +kernel) (by decide +kernel) (by decide +kernel) (fun _ _ _ h => h) (Or.inl ⟨by rfl, ?_⟩) (by assumption) ?_
                                          rotate_left
                                          · intro w hSw; (try dsimp only at hSw); first | (go_simp; done) | (go_simp; with_reducible rfl)
                                          try simp only [Act.put, List.getElem_toArray, List.getElem_cons_succ, List.getElem_cons_zero, List.setIfInBounds_toArray, List.set_cons_zero, List.set_cons_succ]
                                          refine wpAnyT_take (i := 14) (v := ?_) rfl (by decide +kernel) (by decide +kernel) (by decide +kernel) (by decide +kernel) (by decide +kernel) (fun _ _ _ h => h) (Or.inl ⟨by rfl, ?_⟩) (by assumption) ?_
                                          rotate_left
                                          · intro w hSw; (try dsimp only at hSw); first | (go_simp; done) | (go_simp; with_reducible rfl)
                                          try simp only [Act.put, List.getElem_toArray, List.getElem_cons_succ, List.getElem_cons_zero, List.setIfInBounds_toArray, List.set_cons_zero, List.set_cons_succ]
                                          refine wpAnyT_last (i := 15) (by kernel_rfl) (by kernel_rfl) rfl (by kernel_rfl) (fun K hK => ?_)
                                          go_simp
                                          refine hK.out _ _ ?_
                                          clear hK K
                                          try simp only [Act.put, List.getElem_toArray, List.getElem_cons_succ, List.getElem_cons_zero, List.setIfInBounds_toArray, List.set_cons_zero, List.set_cons_succ]
                                          clear hHeld hw1 hw2 k0 cp cF ctg ftg
                                          go_upto_region 55 with fail
                                          obtain ⟨W5, hW5⟩ : ∃ W5, (wr.setCell ⟨w3.heap.size, j, none⟩ (.int .i64 t)).drew = W5 := ⟨_, rfl⟩
                                          rw [hW5] at HT6 HB6 HK6 HCT ⊢
                                          obtain ⟨k1, k2⟩ := HK6.out
                                          have hct := HCT.out
                                          clear hW5
                                          have hw3 : IntKind.i64.wrap (C - t) = C - t := IntWalk.i64_in _ (by have := HWB.out; omega)
                                          have hw4 : IntKind.i64.wrap (V + (C - t)) = V + (C - t) := IntWalk.i64_in _ (by have := HWB.out; omega)
                                          have HCLQ : Hid (∀ d, Calls Try.prog 27 #[.int .i64 t, .int .i64 lo, .int .i64 hh] (W5.drewN d) (fun e w' => e = .returned (.int .i64 C) ∧ w' = W5.drewN d)) := fun d => by
                                            have hq := rclamp_any t lo hh (W5.drewN d)
                                            rw [HCC2.out] at hq
                                            exact same_symm hq
                                          go_quiet ((go_at_call 27; exact Calls.quiet_of_same (HCLQ.out _)))
                                          clear hw3 hw4
                                          go_wp2_with fail
                                          go_roundw
                                          case rel => exact ⟨j + 1, by omega, by go_num, by rw [HLN.out]; go_num, by rw [HLN.out, HVN.out], by rw [HLN.out]; exact HT6.out, Below_drewN HB6.out _⟩
                                          case measure => simp [intOf]; omega
                                    · obtain rfl : n = j := by omega
                                      as_aux_lemma =>
                                        rw [← HON.out] at HT ⊢
                                        obtain ⟨V, hV⟩ : ∃ V, vTo l G P O O.length = V := ⟨_, rfl⟩
                                        rw [hV]
                                        have HV := Lib.hid hV
                                        have HFIN : Hid (stepB l G sp st = frz l G P O V st O.length) := by show _ = _; unfold stepB; rw [HPE.out, HOI.out, HV.out]
                                        have HFL2 : Hid (∀ q, (frz l G P O V st q).1.length = n ∧ (frz l G P O V st q).2.length = n) := fun q => by
                                          have := frz_len l G P O V st q
                                          rw [HSTs.out.ls, HSTF.out] at this; exact this
                                        have HTGB : Hid (w.heap.size ≤ w3.heap.size ∧ SZ < w3.heap.size ∧ FR < w3.heap.size ∧ b < w3.heap.size ∧ WT < w3.heap.size) := by
                                          have := HB3.out.size; have := HLB.out; have := HLT3.out; exact ⟨by omega, by omega, by omega, by omega, by omega⟩
                                        clear hV
                                        go_wp2_with fail
                                        obtain ⟨w4', rfl⟩ : ∃ x : World, x = wr := ⟨_, rfl⟩
                                        go_loopw [17, 29] (fun lf i wr => ∃ j : Nat, j ≤ n ∧ i = .int .i64 j ∧ lf = .int .i64 ((frz l G P O V st (opensTo st.2 j).length).2.count false : Nat) ∧ RLn SZ FR WT (frz l G P O V st (opensTo st.2 j).length) (wTo l G n) wr ∧ OwnI wr w3.heap.size (tgTo n l G P O O.length) ∧ Below w.heap.size w wr) (fun _ i _ => n - (intOf i).toNat)
                                        case atStart => exact ⟨0, Nat.zero_le _, rfl, by rw [← HCC.out]; rfl, HLj.out, HT.out, HBW.out⟩
                                        case round =>
                                          obtain ⟨j, hj, rfl, rfl, hLq, hTq, hbq⟩ := hrel
                                          clear HLj HT HBW HB
                                          have HLq := Lib.hid hLq
                                          have HTq := Lib.hid hTq
                                          have HBq := Lib.hid hbq
                                          clear hLq hTq hbq
                                          by_cases hjn : j < n
                                          ·
                                            as_aux_lemma =>
                                              have hjn' : (j : Int) < (n : Int) := by omega
                                              have hj0 : (0 : Int) ≤ (j : Int) := by omega
                                              have cF := HLq.out.f.cell (i := j) (by rw [(HFL2.out _).2]; exact hjn)
                                              have hfh := frz_here (l := l) (g := G) (P := P) (v := V) (st := st) (i := j) (by rw [HSTF.out]; omega)
                                              rw [HOI.out] at hfh
                                              rw [hfh] at cF
                                              clear hfh
                                              cases hz : gb st.2 j with
                                              | true =>
                                                rw [hz] at cF
                                                have HONX : Hid (opensTo st.2 (j + 1) = opensTo st.2 j) := opensTo_yes hz
                                                clear hz
                                                go_wp2_with fail
                                                go_roundw
                                                case rel => exact ⟨j + 1, by omega, by go_num, by rw [HONX.out], by rw [HONX.out]; exact HLq.out, HTq.out, HBq.out⟩
                                                case measure => simp [intOf]; omega
                                              | false =>
                                                rw [hz] at cF
                                                obtain ⟨hr1, hr2⟩ := HRK.out j hjn hz
                                                have HLN : Hid ((opensTo st.2 (j + 1)).length = (opensTo st.2 j).length + 1) := by show _ = _; rw [opensTo_no hz]; simp
                                                obtain ⟨r, hr⟩ : ∃ r, (opensTo st.2 j).length = r := ⟨_, rfl⟩
                                                rw [hr] at hr1 hr2 HLN HLq ⊢
                                                have htb := HTB.out r hr1
                                                have htg := HTG.out r hr1
                                                rw [hr2] at htg
                                                have ct := HTq.out.cell (i := j) (by rw [tgTo_len]; exact hjn)
                                                rw [htg] at ct
                                                have k1 := HCELL.out wr HBq.out j hjn 1 (by omega)
                                                have k2 := HCELL.out wr HBq.out j hjn 2 (by omega)
                                                have hcb := cl_bd (HF.out j (by rw [HN.out]; exact hjn)) (tg l G P O r)
                                                have HCH := frz_count_hit (l := l) (g := G) (P := P) (v := V) (st := st) (k := r) (by rw [HOI.out]; exact hr1)
                                                rw [HOI.out, hr2] at HCH
                                                have HYES : Hid (hitB V (cl l j (tg l G P O r)) (tg l G P O r) = true → frz l G P O V st (r + 1) = ((frz l G P O V st r).1.set j (cl l j (tg l G P O r)), (frz l G P O V st r).2.set j true)) := fun h => by
                                                  have := frz_hit (l := l) (g := G) (P := P) (o := O) (v := V) (st := st) (k := r) (by rw [hr2]; exact h)
                                                  rw [hr2] at this; exact this
                                                have HNO : Hid (hitB V (cl l j (tg l G P O r)) (tg l G P O r) = false → frz l G P O V st (r + 1) = frz l G P O V st r) := fun h => frz_miss (by rw [hr2]; exact h)
                                                have HCL : Hid (∀ t, cl l j t = clampZ t (gf l j 1) (gf l j 2)) := fun t => rfl
                                                obtain ⟨t, ht⟩ : ∃ t, tg l G P O r = t := ⟨_, rfl⟩
                                                rw [ht] at htb hcb ct HYES HNO HCH
                                                rw [HCL.out] at hcb HYES HNO HCH
                                                obtain ⟨lo, hlo⟩ : ∃ p, gf l j 1 = p := ⟨_, rfl⟩
                                                rw [hlo] at k1 hcb HYES HNO HCH
                                                obtain ⟨hh, hhi⟩ : ∃ p, gf l j 2 = p := ⟨_, rfl⟩
                                                rw [hhi] at k2 hcb HYES HNO HCH
                                                obtain ⟨C, hC⟩ : ∃ C, clampZ t lo hh = C := ⟨_, rfl⟩
                                                rw [hC] at hcb HYES HNO HCH
                                                have HCC2 := Lib.hid hC
                                                have HCH2 := Lib.hid HCH
                                                have fS := HLq.out.s.free j
                                                have fF := HLq.out.f.free j
                                                have cS := HLq.out.s.cell (i := j) (by rw [(HFL2.out r).1]; exact hjn)
                                                have HSF : Hid (SZ ≠ FR) := HLq.out.sf
                                                have HCB2 : Hid ((frz l G P O V st r).2.count false ≤ 100) := by
                                                  have := List.count_le_length (a := false) (l := (frz l G P O V st r).2); rw [(HFL2.out r).2] at this; show _ ≤ _; omega
                                                obtain ⟨cr, hcr⟩ : ∃ x, (frz l G P O V st r).2.count false = x := ⟨_, rfl⟩
                                                rw [hcr] at HCH2 HCB2 ⊢
                                                have HCR := Lib.hid hcr
                                                have HCLQ : Hid (∀ d, Calls Try.prog 27 #[.int .i64 t, .int .i64 lo, .int .i64 hh] (wr.drewN d) (fun e w' => e = .returned (.int .i64 C) ∧ w' = wr.drewN d)) := fun d => by
                                                  have hq := rclamp_any t lo hh (wr.drewN d)
                                                  rw [HCC2.out] at hq
                                                  exact same_symm hq
                                                clear hz htg hcr ht hlo hhi hC HCH hr2
                                                go_wp2_with fail
                                                go_quiet ((go_at_call 27; exact Calls.quiet_of_same (HCLQ.out _)))
                                                obtain (⟨hV0, hgo⟩ | ⟨hV0, hgo⟩) : ((V = 0 ∨ (0 < V ∧ t < C) ∨ (V < 0 ∧ C < t)) ∧ hitB V C t = true) ∨ (((0 < V ∧ C ≤ t) ∨ (V < 0 ∧ t ≤ C)) ∧ hitB V C t = false) := by
                                                  by_cases c0 : V = 0
                                                  · left; exact ⟨.inl c0, by simp [hitB, c0]⟩
                                                  · by_cases c1 : 0 < V
                                                    · by_cases c2 : t < C
                                                      · left; exact ⟨.inr (.inl ⟨c1, c2⟩), by simp [hitB, c1, c2]⟩
                                                      · right; refine ⟨.inl ⟨c1, by omega⟩, ?_⟩
                                                        simp [hitB, c0]; omega
                                                    · by_cases c2 : C < t
                                                      · left; exact ⟨.inr (.inr ⟨by omega, c2⟩), by simp [hitB, c2]; omega⟩
                                                      · right; refine ⟨.inr ⟨by omega, by omega⟩, ?_⟩
                                                        simp [hitB, c0]; omega
                                                · have HFN := Lib.hid (HYES.out hgo)
                                                  have HC1 : Hid ((frz l G P O V st (r + 1)).2.count false + 1 = cr) := HCH2.out hgo
                                                  have hcr1 : 1 ≤ cr := by have := HC1.out; omega
                                                  have hcr2 := HCB2.out
                                                  have HLO : Hid (∀ d, RLn SZ FR WT (frz l G P O V st (r + 1)) (wTo l G n) (((wr.drewN d).setCell ⟨SZ, j, none⟩ (.int .i64 C)).setCell ⟨FR, j, none⟩ (.bool true)) ∧ OwnI (((wr.drewN d).setCell ⟨SZ, j, none⟩ (.int .i64 C)).setCell ⟨FR, j, none⟩ (.bool true)) w3.heap.size (tgTo n l G P O O.length) ∧ Below w.heap.size w (((wr.drewN d).setCell ⟨SZ, j, none⟩ (.int .i64 C)).setCell ⟨FR, j, none⟩ (.bool true))) := fun d => by
                                                    have := HTGB.out
                                                    refine ⟨?_, ((HTq.out.drewN d).set_other (by omega) j _).set_other (by omega) j _, ((Below_drewN HBq.out d).setCell (p := ⟨SZ, j, none⟩) HSZ.out _).setCell (p := ⟨FR, j, none⟩) HFT.out _⟩
                                                    rw [HFN.out]
                                                    exact ((HLq.out.drewN d).setS j C).setF j true
                                                  have HCE : Hid ((((frz l G P O V st (r + 1)).2.count false : Nat) : Int) = (cr : Int) - 1) := by have := HC1.out; show _ = _; omega
                                                  have hsf := HSF.out
                                                  have hfs := HSF.out.symm
                                                  clear hgo
                                                  rcases hV0 with v0 | ⟨v0, v1⟩ | ⟨v0, v1⟩
                                                  · have e0 : (V == 0) = true := by simp [v0]
                                                    have e1 : decide (V < 0) = false := by simp; omega
                                                    clear v0
                                                    go_wp2_with fail
                                                    go_roundw
                                                    case rel => exact ⟨j + 1, by omega, by go_num, by rw [HLN.out, HCE.out] <;> go_num, by rw [HLN.out]; exact (HLO.out _).1, (HLO.out _).2.1, (HLO.out _).2.2⟩
                                                    case measure => simp [intOf]; omega
                                                  · have e0 : (V == 0) = false := by simp; omega
                                                    go_wp2_with fail
                                                    go_roundw
                                                    case rel => exact ⟨j + 1, by omega, by go_num, by rw [HLN.out, HCE.out] <;> go_num, by rw [HLN.out]; exact (HLO.out _).1, (HLO.out _).2.1, (HLO.out _).2.2⟩
                                                    case measure => simp [intOf]; omega
                                                  · have e0 : (V == 0) = false := by simp; omega
                                                    have e1 : decide (0 < V) = false := by simp; omega
                                                    go_wp2_with fail
                                                    go_roundw
                                                    case rel => exact ⟨j + 1, by omega, by go_num, by rw [HLN.out, HCE.out] <;> go_num, by rw [HLN.out]; exact (HLO.out _).1, (HLO.out _).2.1, (HLO.out _).2.2⟩
                                                    case measure => simp [intOf]; omega
                                                · have HFN := Lib.hid (HNO.out hgo)
                                                  clear hgo
                                                  rcases hV0 with ⟨v0, v1⟩ | ⟨v0, v1⟩
                                                  · have e0 : (V == 0) = false := by simp; omega
                                                    have e1 : decide (V < 0) = false := by simp; omega
                                                    have e2 : decide (t < C) = false := by simp; omega
                                                    go_wp2_with fail
                                                    go_roundw
                                                    case rel => exact ⟨j + 1, by omega, by go_num, by rw [HLN.out, HFN.out, HCR.out], by rw [HLN.out, HFN.out]; exact HLq.out.drewN _, HTq.out.drewN _, Below_drewN HBq.out _⟩
                                                    case measure => simp [intOf]; omega
                                                  · have e0 : (V == 0) = false := by simp; omega
                                                    have e1 : decide (0 < V) = false := by simp; omega
                                                    have e2 : decide (C < t) = false := by simp; omega
                                                    go_wp2_with fail
                                                    go_roundw
                                                    case rel => exact ⟨j + 1, by omega, by go_num, by rw [HLN.out, HFN.out, HCR.out], by rw [HLN.out, HFN.out]; exact HLq.out.drewN _, HTq.out.drewN _, Below_drewN HBq.out _⟩
                                                    case measure => simp [intOf]; omega
                                          · obtain rfl : n = j := by omega
                                            rw [← HON.out] at HLq ⊢
                                            go_wp2_with fail
                                            go_roundw
                                            case rel => exact ⟨gk - 1, stepB l G sp st, by rw [HFIN.out], HSTs.out.step HN.out HF.out, by rw [HFIN.out]; exact HLq.out, HNX.out.1, HNX.out.2, HBq.out⟩
                                            case measure =>
                                              have := HDEC.out
                                              rw [HFIN.out, HCC.out] at this
                                              simp [intOf]; omega
end Go.Proofs.Ytadkkkdecejkeaa

