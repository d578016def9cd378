/- Plain mathematics of the law GridFills: what the sizes of built tracks satisfy. No program in sight. -/
import Derived.Test.YtadkkkdecejkeaaTrkPlainB
import Derived.Test.YtadkkkdecejkeaaGBuild
namespace Go.Proofs.Ytadkkkdecejkeaa
set_option linter.unusedVariables false
set_option linter.unusedSimpArgs false

/-! ### finer bounds of the least sizes -/
theorem spr_up {l : List Rec} {gp : Int} {a m : Nat} {want M b : Int} {s : List Int} (hg : 0 ≤ gp ∧ gp ≤ 1048576) (h0 : 1 ≤ m) (hm : m ≤ 24) (hw : 0 ≤ want ∧ want ≤ M) (hM : M ≤ 1048576) (h : szTo s b) (hb : 0 ≤ b ∧ b ≤ 134217728) (ha : a + m ≤ s.length) (hn : s.length ≤ 24) :
    szTo (spr l gp a m want s) (b + M) ∧ ∀ i, i < s.length → gz s i ≤ gz (spr l gp a m want s) i ∧ (gf l i 0 = 0 → gz (spr l gp a m want s) i = gz s i) := by
  have hk := lack_bd hg h0 hm ⟨hw.1, by omega⟩ h hb ha
  unfold spr
  split
  · refine ⟨fun k hk2 => ?_, fun i hi => ⟨Int.le_refl _, fun _ => rfl⟩⟩
    have := h k hk2
    omega
  · have hle : (growSel l a m).length ≤ 100 := by have := sel_le l (growK l a m) a (a + m); unfold growSel; omega
    have hp := uni_parts (d := lack gp a m want s) (m := (growSel l a m).length) (by omega) (by omega) hle
    refine ⟨?_, fun i hi => ⟨?_, fun hz => ?_⟩⟩
    · have := addAt_bd (l := l) (a := a) (m := m) h ha (d := lack gp a m want s) (by omega) hp.2.2 _ (Nat.le_refl _)
      intro k hk2
      have := this k hk2
      omega
    · by_cases hex : ∃ j, j < (growSel l a m).length ∧ gn (growSel l a m) j = i
      · obtain ⟨j, hj, rfl⟩ := hex
        rw [addAt_in growSel_inj hj hi (Nat.le_refl _), if_pos hj]
        have := (hp.2.2 j hj).1
        omega
      · rw [addAt_out fun j hj h => hex ⟨j, hj, h⟩]
        exact Int.le_refl _
    · refine addAt_out fun j hj he => ?_
      have h1 := (sel_mem (l := l) (kd := growK l a m) (a := a) (b := a + m) (k := j) hj).2.2
      have h2 : gn (sel l (growK l a m) a (a + m)) j = i := he
      rw [h2, hz] at h1
      unfold growK at h1
      split at h1 <;> omega
theorem sprTo_up {l it : List Rec} {gp M b : Int} {s : List Int} (hg : 0 ≤ gp ∧ gp ≤ 1048576) (hn : s.length ≤ 24) (h : szTo s b) (hb0 : 0 ≤ b) (hM : 0 ≤ M ∧ M ≤ 1048576) (hw : ∀ i, i < it.length → gf it i 2 ≤ M) :
    ∀ j, j ≤ it.length → b + M * (j : Int) ≤ 134217728 → (∀ i, i < j → itB it s.length i = true) → szTo (sprTo l it gp 2 s j) (b + M * (j : Int)) ∧ ∀ i, i < s.length → gz s i ≤ gz (sprTo l it gp 2 s j) i ∧ (gf l i 0 = 0 → gz (sprTo l it gp 2 s j) i = gz s i)
  | 0, _, _, _ => ⟨by simpa [sprTo] using h, fun i hi => ⟨Int.le_refl _, fun _ => rfl⟩⟩
  | j + 1, hj, hb, hi => by
    have e : M * ((j + 1 : Nat) : Int) = M * (j : Int) + M := by rw [Int.natCast_add, Int.mul_add]; simp
    rw [e] at hb ⊢
    have ih := sprTo_up (l := l) hg hn h hb0 hM hw j (by omega) (by omega) (fun i h => hi i (by omega))
    have hbb := itB_out (hi j (by omega))
    have hb2 := itB_nat (hi j (by omega))
    have hmj : 0 ≤ M * (j : Int) := Int.mul_nonneg hM.1 (by omega)
    simp only [sprTo]
    split
    · have hu := spr_up (l := l) (gp := gp) (a := itA it j) (m := itS it j) (want := gf it j 2) (M := M) (b := b + M * (j : Int)) hg hb2.2.2.1 (by omega) ⟨by omega, hw j (by omega)⟩ hM.2 ih.1 ⟨by omega, by omega⟩ (by rw [sprTo_len]; omega) (by rw [sprTo_len]; exact hn)
      rw [sprTo_len] at hu
      refine ⟨fun k hk => ?_, fun i hi2 => ⟨?_, fun hz => ?_⟩⟩
      · have := hu.1 k hk
        omega
      · exact Int.le_trans (ih.2 i hi2).1 (hu.2 i hi2).1
      · rw [(hu.2 i hi2).2 hz, (ih.2 i hi2).2 hz]
    · refine ⟨fun k hk => ?_, ih.2⟩
      have := ih.1 k hk
      omega
theorem one_ge {it : List Rec} {c k i : Nat} : ∀ {j}, i < j → gf it i 1 = 1 → gf it i 0 = (k : Int) → gf it i c ≤ one it c j k
  | j + 1, h, h1, h2 => by
    simp only [one]
    by_cases e : i = j
    · subst e
      rw [if_pos ⟨h1, h2⟩]
      split <;> omega
    · have ih := one_ge (c := c) (j := j) (by omega) h1 h2
      split
      · split <;> omega
      · exact ih
theorem one_up {it : List Rec} {c k : Nat} {M : Int} (hM : 0 ≤ M) : ∀ {j}, (∀ i, i < j → gf it i c ≤ M) → 0 ≤ one it c j k ∧ one it c j k ≤ M
  | 0, _ => by simp [one, hM]
  | j + 1, h => by
    have ih := one_up (k := k) hM (j := j) (fun i hi => h i (by omega))
    have := h j (by omega)
    simp only [one]
    split
    · split <;> omega
    · exact ih
section
variable {l it : List Rec} {gp : Int}
theorem Built19.ls0 (h : Built19 l it) : szTo (ls0 l it) 1000 := fun k hk => by
  rw [ls0_len] at hk
  have h1 := (ls0_bd h.tb h.ib) k (by rw [ls0_len]; exact hk)
  refine ⟨h1.1, ?_⟩
  unfold Proofs.Ytadkkkdecejkeaa.ls0
  rw [dmL_at hk]
  unfold dmAt
  split
  · exact h.lo k hk
  · have := one_up (it := it) (c := 2) (k := k) (M := 49) (by omega) (j := it.length) h.im
    omega
theorem Built19.least (h : Built19 l it) (hg : 0 ≤ gp ∧ gp ≤ 1048576) : szTo (leastL l it gp) 2000 ∧ (∀ i, i < l.length → gf l i 0 = 0 → gz (leastL l it gp) i = gf l i 1) ∧
    ∀ j, j < it.length → gf it j 1 = 1 → gf l (itA it j) 0 ≠ 0 → gf it j 2 ≤ gz (leastL l it gp) (itA it j) := by
  have h1 := h.l1
  have h2 := h.i1
  have hu := sprTo_up (l := l) (it := it) (gp := gp) (M := 49) (b := 1000) (s := Proofs.Ytadkkkdecejkeaa.ls0 l it) hg (by rw [ls0_len]; omega) h.ls0 (by omega) ⟨by omega, by omega⟩ h.im it.length (Nat.le_refl _) (by omega) (fun i hi => by rw [ls0_len]; exact itsB_at h.ib hi)
  rw [ls0_len] at hu
  refine ⟨fun k hk => ?_, fun i hi hz => ?_, fun j hj h3 h4 => ?_⟩
  · have := hu.1 k hk
    unfold leastL
    omega
  · unfold leastL
    rw [(hu.2 i hi).2 hz]
    unfold Proofs.Ytadkkkdecejkeaa.ls0
    rw [dmL_at hi]
    unfold dmAt
    rw [if_pos hz]
  · have hb := itB_nat (itsB_at h.ib hj)
    have ha : itA it j < l.length := by omega
    have h5 := (hu.2 (itA it j) ha).1
    unfold leastL
    refine Int.le_trans ?_ h5
    unfold Proofs.Ytadkkkdecejkeaa.ls0
    rw [dmL_at ha]
    unfold dmAt
    rw [if_neg h4]
    exact one_ge hj h3 hb.1
end
/-! ### sums over kinds -/
theorem rk_sum (l : List Rec) (kd : Int) {s : List Int} {F : Nat → Int} (hF : ∀ k, k < (sel l kd 0 l.length).length → F k = gz s (gn (sel l kd 0 l.length) k)) : ∀ (f : Nat → Nat), f 0 = 0 → (∀ k, k < l.length → gf l k 0 = kd → f k < (sel l kd 0 l.length).length ∧ gn (sel l kd 0 l.length) (f k) = k ∧ f (k + 1) = f k + 1) →
    (∀ k, k < l.length → gf l k 0 ≠ kd → f (k + 1) = f k) → ∀ k, k ≤ l.length → sumF (fun i => if gf l i 0 = kd then gz s i else 0) k = sumF F (f k) := by
  intro f h0 hh hm k
  induction k with
  | zero => intro _; rw [h0]; rfl
  | succ k ih =>
    intro hk
    have ih := ih (by omega)
    simp only [sumF]
    by_cases c : gf l k 0 = kd
    · obtain ⟨h1, h2, h3⟩ := hh k (by omega) c
      rw [if_pos c, h3]
      simp only [sumF]
      rw [ih, hF _ h1, h2]
    · rw [if_neg c, hm k (by omega) c, ih]; omega
theorem ranks2 (l : List Rec) (kd : Int) : ∃ f : Nat → Nat, f 0 = 0 ∧ (∀ k, k < l.length → gf l k 0 = kd → f k < (sel l kd 0 l.length).length ∧ gn (sel l kd 0 l.length) (f k) = k ∧ f (k + 1) = f k + 1) ∧ (∀ k, k < l.length → gf l k 0 ≠ kd → f (k + 1) = f k) ∧ f l.length = (sel l kd 0 l.length).length :=
  ⟨fun k => (opensTo (msk l kd 0 l.length) k).length, rfl, fun k hk h => by
    have hb : gb (msk l kd 0 l.length) k = false := by rw [msk_in hk (Nat.zero_le _)]; simpa using h
    have h2 := opensTo_rank hk hb
    rw [sel_eq]
    exact ⟨h2.1, h2.2, by show (opensTo (msk l kd 0 l.length) (k + 1)).length = (opensTo (msk l kd 0 l.length) k).length + 1; rw [opensTo_no hb]; simp⟩, fun k hk h => by
    show (opensTo (msk l kd 0 l.length) (k + 1)).length = (opensTo (msk l kd 0 l.length) k).length
    rw [opensTo_yes (by rw [msk_in hk (Nat.zero_le _)]; simpa using h)], by rw [sel_eq]⟩
theorem kind_sum (l : List Rec) (kd : Int) {s : List Int} {F : Nat → Int} (hF : ∀ k, k < (sel l kd 0 l.length).length → F k = gz s (gn (sel l kd 0 l.length) k)) :
    sumF (fun i => if gf l i 0 = kd then gz s i else 0) l.length = sumF F (sel l kd 0 l.length).length := by
  obtain ⟨f, f0, fh, fm, fn⟩ := ranks2 l kd
  rw [rk_sum l kd hF f f0 fh fm l.length (Nat.le_refl _), fn]
theorem nonF_sum (l : List Rec) (s : List Int) : ∀ k, sumTo s k = nonF l s k + sumF (fun i => if gf l i 0 = 2 then gz s i else 0) k
  | 0 => rfl
  | k + 1 => by
    have ih := nonF_sum l s k
    simp only [sumTo, nonF, sumF]
    split <;> omega
theorem nonF_congr {l : List Rec} {s t : List Int} : ∀ k, (∀ i, i < k → gf l i 0 ≠ 2 → gz s i = gz t i) → nonF l s k = nonF l t k
  | 0, _ => rfl
  | k + 1, h => by
    simp only [nonF]
    rw [nonF_congr k fun i hi => h i (by omega)]
    split
    · rfl
    · rw [h k (by omega) (by assumption)]
theorem sumTo_le {s t : List Int} : ∀ k, (∀ i, i < k → gz s i ≤ gz t i) → sumTo s k ≤ sumTo t k
  | 0, _ => Int.le_refl _
  | k + 1, h => by
    have := sumTo_le k fun i hi => h i (by omega)
    have := h k (by omega)
    simp only [sumTo]
    omega
/-- Where tracks from the content alone have grown, by parts P. -/
theorem nonF_add {l : List Rec} {s P : List Int} (hs : s.length = l.length) : nonF l (addAt s (autos l) P (autos l).length) l.length = nonF l s l.length + sumTo P (autos l).length := by
  have hin : ∀ k, k < (autos l).length → gz (addAt s (autos l) P (autos l).length) (gn (autos l) k) = gz s (gn (autos l) k) + gz P k := fun k hk => by
    rw [addAt_in autos_inj hk (by rw [hs]; exact (autos_mem hk).1) (Nat.le_refl _), if_pos hk]
  have hout : ∀ i, gf l i 0 ≠ 1 → gz (addAt s (autos l) P (autos l).length) i = gz s i := fun i hi => addAt_out fun j hj e => by
    have := (autos_mem hj).2
    rw [e] at this; exact hi this
  obtain ⟨f, f0, fh, fm, fn⟩ := ranks2 l 1
  have key : ∀ k, k ≤ l.length → nonF l (addAt s (autos l) P (autos l).length) k = nonF l s k + sumTo P (f k) := by
    intro k
    induction k with
    | zero => intro _; rw [f0]; simp [nonF, sumTo]
    | succ k ih =>
      intro hk
      have ih := ih (by omega)
      simp only [nonF]
      by_cases c : gf l k 0 = 1
      · obtain ⟨h1, h2, h3⟩ := fh k (by omega) c
        have h4 := hin (f k) h1
        have h5 : gn (autos l) (f k) = k := h2
        rw [h5] at h4
        rw [if_neg (by omega), if_neg (by omega), h3, h4]
        simp only [sumTo]
        omega
      · rw [fm k (by omega) c, hout k c]
        split <;> omega
  rw [key l.length (Nat.le_refl _), fn]; rfl
section
variable {l it : List Rec} {q av : Int}
/-- What the sizes satisfy. -/
structure Filled (av q : Int) (l it : List Rec) : Prop where
  e : gErr av q l it = 0
  len : (trkL av q l it).length = l.length
  ge : ∀ i, i < l.length → 0 ≤ gz (trkL av q l it) i ∧ gz (trkL av q l it) i ≤ 268435456
  fx : ∀ i, i < l.length → gf l i 0 = 0 → gz (trkL av q l it) i = gf l i 1
  one : ∀ j, j < it.length → gf it j 1 = 1 → gf l (itA it j) 0 ≠ 0 → gf it j 2 ≤ gz (trkL av q l it) (itA it j)
  ls : leastS q l it ≤ sumTo (trkL av q l it) l.length + q * ((l.length - 1 : Nat) : Int)
  full : (∃ i, i < l.length ∧ gf l i 0 = 2) → leastS q l it ≤ av → sumTo (trkL av q l it) l.length + q * ((l.length - 1 : Nat) : Int) = av
theorem Built19.err (h : Built19 l it) (ha : 0 ≤ av ∧ av ≤ 1048576) (hq : 0 ≤ q ∧ q ≤ 1048576) : gErr av q l it = 0 := by
  have h1 := h.l1
  have h2 := h.i1
  unfold gErr
  rw [if_neg (by omega), if_pos]
  simp only [Bool.and_eq_true, lenB_iff]
  exact ⟨⟨⟨ha, hq⟩, h.tb⟩, h.ib⟩
theorem Built19.filled (h : Built19 l it) (ha : 0 ≤ av ∧ av ≤ 1048576) (hq : 0 ≤ q ∧ q ≤ 1000) : Filled av q l it := by
  have hn5 := h.l1
  have hE := h.err ha ⟨hq.1, by omega⟩
  have hE0 : gErr 0 q l it = 0 := h.err ⟨by omega, by omega⟩ ⟨hq.1, by omega⟩
  have hSZ : Sizes l.length (leastL l it q) (mostL l it q) := sizes_of ⟨hq.1, by omega⟩ (by omega) (by have := h.i1; omega) h.tb h.ib
  obtain ⟨hL1, hL2, hL3⟩ := h.least (gp := q) ⟨hq.1, by omega⟩
  have hT : trkL av q l it = putAt (grown l (leastL l it q) (mostL l it q) av q) (fracs l) (fracP l (grown l (leastL l it q) (mostL l it q) av q) av q) (fracs l).length := by unfold trkL; rw [if_pos hE]
  have hLS : leastS q l it = sumTo (leastL l it q) l.length + q * ((l.length - 1 : Nat) : Int) := by unfold leastS; rw [if_pos hE0]
  have hfr := hSZ.free_le ha ⟨hq.1, by omega⟩ (by omega)
  have hGB := hSZ.grown ha ⟨hq.1, by omega⟩ (by omega)
  have hGL : (grown l (leastL l it q) (mostL l it q) av q).length = l.length := by rw [grown_len, hSZ.l]
  -- the grown sizes are no less
  have hGE : ∀ i, i < l.length → gz (leastL l it q) i ≤ gz (grown l (leastL l it q) (mostL l it q) av q) i ∧ (gf l i 0 ≠ 1 → gz (grown l (leastL l it q) (mostL l it q) av q) i = gz (leastL l it q) i) := fun i hi => by
    unfold grown
    split
    · have hp := hSZ.parts (free := freeT av q (leastL l it q)) (by assumption) (by omega) (by omega)
      refine ⟨?_, fun hz => addAt_out fun j hj e => ?_⟩
      · by_cases hex : ∃ j, j < (autos l).length ∧ gn (autos l) j = i
        · obtain ⟨j, hj, rfl⟩ := hex
          rw [addAt_in autos_inj hj (by rw [hSZ.l]; exact hi) (Nat.le_refl _), if_pos hj]
          have := (hp.2.2.1 j hj).1
          omega
        · rw [addAt_out fun j hj e => hex ⟨j, hj, e⟩]
          exact Int.le_refl _
      · have := (autos_mem hj).2
        rw [e] at this; exact hz this
    · exact ⟨Int.le_refl _, fun _ => rfl⟩
  -- how much the others take
  have hNG : nonF l (grown l (leastL l it q) (mostL l it q) av q) l.length ≤ nonF l (leastL l it q) l.length + (if 0 < freeT av q (leastL l it q) then freeT av q (leastL l it q) else 0) := by
    unfold grown
    split
    · have hp := hSZ.parts (free := freeT av q (leastL l it q)) (by assumption) (by omega) (by omega)
      rw [nonF_add hSZ.l]
      have := hp.2.2.2
      omega
    · omega
  obtain ⟨GS, hGS⟩ : ∃ x, grown l (leastL l it q) (mostL l it q) av q = x := ⟨_, rfl⟩
  obtain ⟨ls, hls⟩ : ∃ x, leastL l it q = x := ⟨_, rfl⟩
  rw [hGS, hls] at hGE
  rw [hGS] at hT hGB hGL
  rw [hGS, hls] at hNG
  rw [hls] at hL1 hL2 hL3 hLS hfr
  have hlsl : ls.length = l.length := by rw [← hls, hSZ.l]
  obtain ⟨hfe, hpl, hpb⟩ := fracP_ok (l := l) (s := GS) (av := av) (gp := q) h.tb hGB hGL.symm (by omega)
  have hok := flexL_ok h.tb hGB hGL.symm (Nat.le_refl (fracs l).length)
  have hcl := fracs_le l
  have hPR : fracP l GS av q = resOk (clampZ (restT l GS av q) 0 1048576) 0 (flexL l GS (fracs l).length) := by unfold fracP resL; rw [if_pos hfe]
  have hPB := resOk_bounds (av := clampZ (restT l GS av q) 0 1048576) (gp := 0) hok
  rw [← hPR, flexL_len] at hPB
  have hPL : ∀ k, k < (fracs l).length → gz ls (gn (fracs l) k) ≤ gz (fracP l GS av q) k := fun k hk => by
    have h1 := (hPB.2 k hk).1.1
    rw [flexL_at hk] at h1
    have h2 := fracs_mem hk
    have h3 := (hGE _ h2.1).2 (by omega)
    have h4 := hL1 (gn (fracs l) k) (by rw [hlsl]; exact h2.1)
    unfold flexOf at h1
    simp only [List.getD_cons_zero, List.getD_cons_succ] at h1
    rw [h3, if_neg (by omega)] at h1
    exact h1
  have hIN : ∀ k, k < (fracs l).length → gz (trkL av q l it) (gn (fracs l) k) = gz (fracP l GS av q) k := fun k hk => by
    rw [hT, putAt_in fracs_inj hk (by rw [hGL]; exact (fracs_mem hk).1) (Nat.le_refl _), if_pos hk]
  have hOUT : ∀ i, gf l i 0 ≠ 2 → gz (trkL av q l it) i = gz GS i := fun i hi => by
    rw [hT]
    exact putAt_out fun j hj e => by
      have := (fracs_mem hj).2
      rw [e] at this; exact hi this
  have hFR : ∀ i, i < l.length → gf l i 0 = 2 → ∃ k, k < (fracs l).length ∧ gn (fracs l) k = i := fun i hi hz => by
    obtain ⟨f, f0, fh, fm, fn⟩ := ranks2 l 2
    obtain ⟨h1, h2, -⟩ := fh i hi hz
    exact ⟨f i, h1, h2⟩
  have hGEQ : ∀ i, i < l.length → gz ls i ≤ gz (trkL av q l it) i := fun i hi => by
    by_cases c : gf l i 0 = 2
    · obtain ⟨k, hk, rfl⟩ := hFR i hi c
      rw [hIN k hk]; exact hPL k hk
    · rw [hOUT i c]; exact (hGE i hi).1
  have hsum : sumTo ls l.length ≤ sumTo (trkL av q l it) l.length := sumTo_le l.length hGEQ
  refine ⟨hE, by rw [hT, putAt_len, hGL], fun i hi => ⟨?_, ?_⟩, fun i hi hz => ?_, fun j hj h1 h2 => ?_, by rw [hLS]; omega, fun hex hle => ?_⟩
  · have := (hL1 i (by rw [hlsl]; exact hi)).1
    have := hGEQ i hi
    omega
  · by_cases c : gf l i 0 = 2
    · obtain ⟨k, hk, rfl⟩ := hFR i hi c
      rw [hIN k hk]
      have := hpb k hk
      omega
    · rw [hOUT i c]
      exact (hGB i (by rw [hGL]; exact hi)).2
  · rw [hOUT i (by omega), (hGE i hi).2 (by omega), hL2 i hi hz]
  · have hb := itB_nat (itsB_at h.ib hj)
    exact Int.le_trans (hL3 j hj h1 h2) (hGEQ _ (by omega))
  · -- a fraction fills
    have hfree : freeT av q ls = spTo av q l.length - sumTo ls l.length := by unfold freeT; rw [hlsl]
    have hsp : spTo av q l.length = av - q * ((l.length - 1 : Nat) : Int) := rfl
    have hf0 : 0 ≤ freeT av q ls := by rw [hfree, hsp]; rw [hLS] at hle; omega
    have hng : nonF l GS l.length ≤ nonF l ls l.length + freeT av q ls := by
      refine Int.le_trans hNG ?_
      split <;> omega
    have hlsum := nonF_sum l ls l.length
    have hfs : sumF (fun i => if gf l i 0 = 2 then gz ls i else 0) l.length = sumF (fun k => gz ls (gn (fracs l) k)) (fracs l).length := kind_sum l 2 (s := ls) (F := fun k => gz ls (gn (fracs l) k)) (fun k hk => rfl)
    rw [hfs] at hlsum
    have hrest : restT l GS av q = spTo av q l.length - nonF l GS l.length := rfl
    have hnn : 0 ≤ nonF l GS l.length := (nonF_bd hGB l.length (by rw [hGL]; exact Nat.le_refl _)).1
    have hwl : sumF (wantF (flexL l GS (fracs l).length)) (fracs l).length = sumF (fun k => gz ls (gn (fracs l) k)) (fracs l).length := sumF_congr _ fun k hk => by
      unfold wantF
      rw [flexL_at hk, flexL_at hk]
      have h2 := fracs_mem hk
      have h3 := (hGE _ h2.1).2 (by omega)
      have h4 := hL1 (gn (fracs l) k) (by rw [hlsl]; exact h2.1)
      unfold flexOf
      simp only [List.getD_cons_zero, List.getD_cons_succ]
      rw [h3, if_neg (by omega)]
      omega
    have hFnn : 0 ≤ sumF (fun k => gz ls (gn (fracs l) k)) (fracs l).length := by
      have : ∀ m, m ≤ (fracs l).length → 0 ≤ sumF (fun k => gz ls (gn (fracs l) k)) m := by
        intro m
        induction m with
        | zero => intro _; exact Int.le_refl _
        | succ m ih =>
          intro hm
          have := ih (by omega)
          have h2 := fracs_mem (l := l) (k := m) (by omega)
          have h4 := (hL1 (gn (fracs l) m) (by rw [hlsl]; exact h2.1)).1
          simp only [sumF]
          omega
      exact this _ (Nat.le_refl _)
    have hR0 : sumF (fun k => gz ls (gn (fracs l) k)) (fracs l).length ≤ restT l GS av q := by rw [hrest]; omega
    have hR1 : restT l GS av q ≤ 1048576 := by rw [hrest]; omega
    have hcz : clampZ (restT l GS av q) 0 1048576 = restT l GS av q := by unfold clampZ; repeat' split <;> omega
    have hfill := resOk_fills (av := clampZ (restT l GS av q) 0 1048576) (gp := 0) hok (by rw [flexL_len]; omega) (flexL_low _ _ _) (clamp_bd _) ⟨by omega, by omega⟩ (by
      rw [flexL_len, hwl, hcz]
      unfold spTo
      omega) (by
      obtain ⟨i, hi, hz⟩ := hex
      obtain ⟨k, hk, rfl⟩ := hFR i hi hz
      refine ⟨k, by rw [flexL_len]; exact hk, ?_⟩
      rw [flexL_at hk]
      have h5 := trkB_kd (trksB_at h.tb hi)
      unfold flexOf
      simp only [List.getD_cons_zero, List.getD_cons_succ]
      omega)
    rw [← hPR, flexL_len, hcz] at hfill
    have hfill2 : sumTo (fracP l GS av q) (fracs l).length = restT l GS av q := by rw [hfill]; unfold spTo; omega
    have hA := nonF_sum l (trkL av q l it) l.length
    have hAF : sumF (fun i => if gf l i 0 = 2 then gz (trkL av q l it) i else 0) l.length = sumF (gz (fracP l GS av q)) (fracs l).length := kind_sum l 2 (s := trkL av q l it) (F := gz (fracP l GS av q)) (fun k hk => (hIN k hk).symm)
    rw [hAF, ← sumTo_sumF, hfill2, nonF_congr (t := GS) l.length (fun i _ hi => hOUT i hi), hrest] at hA
    rw [hA, hsp]
    omega
end
end Go.Proofs.Ytadkkkdecejkeaa
