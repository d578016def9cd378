/- Offsets of package box where the elements are justified between the ends and there is room. -/
import Derived.Test.YthmdagffhanagaaBoxOff
import Derived.Test.YthmdagffhanagaaRepeat
import Derived.Test.YthmdagffhanagaaPlainD
import Derived.Test.YthmdagffhanagaaEqualI
namespace Go.Proofs.Ythmdagffhanagaa
open Go.RowKit
set_option linter.unusedVariables false
set_option linter.unusedSimpArgs false

theorem betw_iff {ju fr : Int} {n : Nat} : betw ju fr n = true ↔ ju = 3 ∧ 0 < fr ∧ 1 < n := by simp [betw, and_assoc]
theorem ones_sum (m : Nat) : ∀ k, k ≤ m → sumTo (List.replicate m 1) k = (k : Int)
  | 0, _ => rfl
  | k + 1, h => by
    have := ones_sum m k (by omega)
    have e : gz (List.replicate m 1) k = 1 := by simp [gz, show k < m by omega]
    simp only [sumTo]
    rw [this, e]; omega
theorem ones_good (m : Nat) : goodTo (List.replicate m (1 : Int)) (List.replicate m (1 : Int)).length := by
  intro j hj
  simp at hj
  have e : gz (List.replicate m (1 : Int)) j = 1 := by simp [gz, hj]
  rw [e]; omega
theorem ones_parts {fr : Int} {m : Nat} (h0 : 0 < fr) (h1 : fr ≤ 1048576) (hm : m ≤ 100) :
    (shareParts fr (List.replicate m 1)).length = m ∧ (∀ k, k < m → 0 ≤ gz (shareParts fr (List.replicate m 1)) k ∧ gz (shareParts fr (List.replicate m 1)) k ≤ 1048576) ∧ shareErr fr (List.replicate m 1) = 0 := by
  obtain ⟨he, h2, h3, _⟩ := sums_facts (T := fr) (ws := List.replicate m 1) (by omega) (by omega) (by simp; omega) (ones_good m)
  simp only [List.length_replicate] at h2 h3
  exact ⟨h2, fun k hk => ⟨(h3 k hk).lo, Int.le_trans (h3 k hk).hi h1⟩, he⟩
theorem gz_snoc {P : List Int} {x : Int} {k : Nat} : gz (P ++ [x]) k = if k < P.length then gz P k else if k = P.length then x else 0 := by
  unfold gz
  by_cases h : k < P.length
  · rw [if_pos h]; simp [List.getElem?_append, h]
  · rw [if_neg h]
    by_cases e : k = P.length
    · rw [if_pos e]; subst e; simp
    · rw [if_neg e]
      have : (P ++ [x])[k]? = none := by simp; omega
      simp [this]
theorem snoc_bd {P : List Int} {m n : Nat} (h : ∀ k, k < m → 0 ≤ gz P k ∧ gz P k ≤ 1048576) (hl : P.length = m) (hm : m + 1 = n) (k : Nat) : 0 ≤ gz (P ++ [0]) k ∧ gz (P ++ [0]) k ≤ 1073741824 := by
  rw [gz_snoc]
  split
  · have := h k (by omega); omega
  · split <;> omega
theorem repeat_at (v : Value) (z : Int) (m : Nat) (w : World) (hv : IsInts w v [1]) (hz : z = (m : Int)) (h1 : 1 ≤ m) (hm : m ≤ 1000) :
    Calls Try.prog 34 #[v, .int .i64 z] w fun e w' => e = .returned (.slice (some ⟨w.heap.size, 0, none⟩) m m) ∧ OwnI w' w.heap.size (List.replicate m 1) ∧ Below w.heap.size w w' := by
  subst hz
  exact repeat_any v m w hv h1 hm
theorem copy_snoc {n : Nat} {P : List Int} (hP : P.length + 1 = n) : cpI (List.replicate n 0) 0 P (n - 1) = P ++ [0] := by
  apply ext_gz (by simp [cpI_len]; omega)
  intro i hi
  simp [cpI_len] at hi
  rw [cpI_at (by simpa using hi), gz_snoc]
  by_cases h : i < P.length
  · rw [if_pos ⟨by omega, by omega⟩, if_pos h]; rfl
  · rw [if_neg (by omega), if_neg h, gz_replicate]; split <;> rfl

set_option maxHeartbeats 8000000 in
set_option maxRecDepth 100000 in
theorem offs_betw (av gp ju : Int) (s : List Int) (right : Bool) (v : Value) (w : World) (hv : IsInts w v s) (hok : offOk av gp ju s = true) (hb : betw ju (offFree av gp s) s.length = true) :
    Calls Try.prog 20 #[.int .i64 av, .int .i64 gp, .int .i64 ju, v, .bool right] w (GivesI (offL av gp ju s right) w) := by
  obtain ⟨i0, hi0, hz0, hz1, hz2⟩ := info_parts info_int1
  have HR : Hid (offL av gp ju s right = offTo av gp s (moreL ju (offFree av gp s) s.length) (at0 ju (offFree av gp s)) right s.length) := by show _ = _; unfold offL; rw [if_pos hok]
  have HM0 : Hid (moreL ju (offFree av gp s) s.length = shareParts (offFree av gp s) (List.replicate (s.length - 1) 1) ++ [0]) := by show _ = _; unfold moreL; rw [if_pos hb]
  have hb' := hb
  have hok' := hok
  simp only [offOk, Bool.and_eq_true, decide_eq_true_iff] at hok'
  obtain ⟨⟨⟨hn, hag1, hag2⟩, hs⟩, hj0, hj1⟩ := hok'
  have ha := lenB_iff.1 hag1
  have hg := lenB_iff.1 hag2
  have HAG : Hid (lensB [av, gp] = true) := by show _ = _; rw [lensB_two, hag1, hag2]; rfl
  have HS := Lib.hid hs
  have HV := Lib.hid hv
  have hsp := spTo_bd (av := av) (gp := gp) ha.1 ha.2 hg.1 hg.2 hn
  have hsum := lens_sum hs s.length (Nat.le_refl _)
  have HSB : Hid (∀ k, k ≤ s.length → 0 ≤ sumTo s k ∧ sumTo s k ≤ 1048576 * (k : Int)) := lens_sum hs
  obtain ⟨a, cap, rfl, h1, h2, h3⟩ := hv
  obtain ⟨n, hn'⟩ : ∃ n, s.length = n := ⟨_, rfl⟩
  have HFR : Hid (offFree av gp s = spTo av gp n - sumTo s n) := by show _ = _; unfold offFree; rw [hn']
  rw [hn'] at h1 h3 hn HV HM0 HR HSB hsp hsum hb ⊢
  have HN := Lib.hid hn'
  have H3 := Lib.hid h3
  obtain ⟨fr, hfr⟩ : ∃ x, offFree av gp s = x := ⟨_, rfl⟩
  rw [hfr] at HR HM0 HFR hb
  have hfb : -1073741824 ≤ fr ∧ fr ≤ 1048576 := by have := HFR.out; omega
  have HIB : Hid (IsInts (w.alloc (.cells #[.int .i64 av, .int .i64 gp] 3)) (.slice (some ⟨w.heap.size, 0, none⟩) 2 2) [av, gp]) := lit_ints [av, gp] rfl (by simp [maxLen]) 2 rfl
  have HVB : Hid (IsInts (w.alloc (.cells #[.int .i64 av, .int .i64 gp] 3)) (.slice a n cap) s) := HV.out.of_below ((Below.refl _ _).alloc (Nat.le_refl _) _)
  have HBA : Hid (Below w.heap.size w (w.alloc (.cells #[.int .i64 av, .int .i64 gp] 3))) := (Below.refl _ _).alloc (Nat.le_refl _) _
  have hn2 : (n : Int) ≤ 100 := by omega
  have HB := Lib.hid hb
  unfold maxLen at h2
  clear hok hs h3 hn' hfr hb hb' hag1 hag2 hsum
  go_enter Try.func20, Try.ntmps20
  go_wp2_with fail
  refine (length_any _ [av, gp] _ HIB.out).mono ?_
  rw [HAG.out]
  rintro e w' ⟨rfl, rfl⟩
  go_wp2_with fail
  refine (length_any _ s _ HVB.out).mono ?_
  rw [HS.out]
  rintro e w' ⟨rfl, rfl⟩
  obtain ⟨W, hW⟩ : ∃ W, w.alloc (.cells #[.int .i64 av, .int .i64 gp] 3) = W := ⟨_, rfl⟩
  rw [hW] at HBA HVB ⊢
  clear hW
  go_upto_region 3 with fail
  go_cut [11] (fun s11 wx => s11 = .int .i64 (spTo av gp n) ∧ wx = W)
  case first =>
    by_cases hp : 0 < n
    · have hp' : (1 : Int) ≤ (n : Int) := by omega
      have hse : Hid (spTo av gp n = av - gp * ((n : Int) - 1)) := by show _ = _; unfold spTo; congr 2; omega
      have hmul := mul_bd (a := gp) (b := (n : Int) - 1) (m := 1048576) (k := 100) hg.1 (by omega) hg.2 (by omega)
      obtain ⟨hg0, hg1⟩ := hg
      obtain ⟨ha0, ha1⟩ := ha
      go_wp2
      go_meet
      exact ⟨by rw [hse.out], rfl⟩
    · obtain rfl : n = 0 := by omega
      have hse : Hid (spTo av gp 0 = av) := by show _ = _; simp [spTo]
      go_wp2
      go_meet
      exact ⟨by rw [hse.out], rfl⟩
  case rest =>
    obtain ⟨rfl, rfl⟩ := hcut
    obtain ⟨W, rfl⟩ : ∃ x : World, x = wc := ⟨_, rfl⟩
    obtain ⟨SP, hSP⟩ : ∃ x, spTo av gp n = x := ⟨_, rfl⟩
    rw [hSP] at hsp HFR ⊢
    clear hSP
    go_wp2_with fail
    go_loop [11, 56] (fun f i => ∃ k : Nat, k ≤ n ∧ i = .int .i64 k ∧ f = .int .i64 (SP - sumTo s k)) (fun _ i => n - (intOf i).toNat)
    case atStart => exact ⟨0, Nat.zero_le _, rfl, by simp [sumTo]⟩
    case round =>
      obtain ⟨k, hk, rfl, rfl⟩ := hrel
      have hsb := HSB.out k hk
      by_cases hkn : k < n
      · obtain ⟨b, off, rfl, hlt, hcell⟩ := H3.out (by omega)
        have hc := (HBA.out.cell (p := ⟨b, off + k, none⟩) hlt).trans (hcell k hkn)
        have hsk := lensB_at HS.out (k := k) (by rw [HN.out]; exact hkn)
        have hkn' : (k : Int) < (n : Int) := by omega
        have HSN : Hid (SP - sumTo s (k + 1) = SP - sumTo s k - gz s k) := by show _ = _; simp only [sumTo]; omega
        clear hcell
        go_wp2
        go_round
        case rel => exact ⟨k + 1, by omega, by go_num, by rw [HSN.out]⟩
        case measure => simp [intOf]; omega
      · obtain rfl : n = k := by omega
        rw [← HFR.out]
        obtain ⟨hj3, hfp, hn1⟩ := betw_iff.1 HB.out
        subst hj3
        have HN1 := Lib.hid hn1
        obtain ⟨hP1, hP2, hP3⟩ := ones_parts (fr := fr) (m := n - 1) (by omega) (by omega) (by omega)
        obtain ⟨P, hPe⟩ : ∃ P, shareParts fr (List.replicate (n - 1) 1) = P := ⟨_, rfl⟩
        have HPE := Lib.hid hPe
        rw [hPe] at hP1 hP2 HM0
        have HP3 := Lib.hid hP3
        have HPL := Lib.hid hP1
        have HP2 := Lib.hid hP2
        clear hPe hP1 hP2 hP3
        have hn1' : (1 : Int) < (n : Int) := by omega
        have hmk := make_ints n (by omega) W
        have HMD : Hid (OwnI (W.alloc (.cells (madeCells #[.int .i64 0] n) 3)) W.heap.size (List.replicate n 0)) := OwnI.made W n
        have HBM : Hid (Below W.heap.size W (W.alloc (.cells (madeCells #[.int .i64 0] n) 3))) := (Below.refl _ _).alloc (Nat.le_refl _) _
        obtain ⟨W1, hW1⟩ : ∃ W1, (W.alloc (.cells (madeCells #[.int .i64 0] n) 3)) = W1 := ⟨_, rfl⟩
        rw [hW1] at HMD HBM hmk
        clear hW1
        have HAT : Hid (at0 3 fr = 0) := by show _ = _; simp [at0]
        go_upto_block 2 with fail
        go_cut [14] (fun s14 wx => s14 = .int .i64 (at0 3 fr) ∧ OwnI wx W.heap.size (moreL 3 fr n) ∧ Below W.heap.size W wx)
        case first =>
          go_wp2_with fail
          have HO1 : Hid (IsInts (W1.alloc (.cells #[.int .i64 1] 3)) (.slice (some ⟨W1.heap.size, 0, none⟩) 1 1) [1]) := lit_ints [1] rfl (by simp [maxLen]) 1 rfl
          refine (repeat_at _ _ (n - 1) _ HO1.out (by omega) (by omega) (by omega)).mono ?_
          rintro e w2 ⟨rfl, ho2, hb2⟩
          obtain ⟨G2, hG2⟩ : ∃ G2, (W1.alloc (.cells #[.int .i64 1] 3)).heap.size = G2 := ⟨_, rfl⟩
          have HBW1 : Hid (Below W1.heap.size W1 (W1.alloc (.cells #[.int .i64 1] 3))) := (Below.refl _ _).alloc (Nat.le_refl _) _
          have HB2 : Hid (Below W1.heap.size W1 w2) := HBW1.out.trans (hb2.mono HBW1.out.size)
          rw [hG2] at ho2 ⊢
          have HI2 : Hid (IsInts w2 (.slice (some ⟨G2, 0, none⟩) (n - 1) (n - 1)) (List.replicate (n - 1) 1)) := by
            have := ho2.isInts (by simp [maxLen]; omega)
            simp only [List.length_replicate] at this
            exact this
          clear ho2 hb2 hG2
          go_wp2_with fail
          refine (share_any _ _ (List.replicate (n - 1) 1) _ HI2.out).mono ?_
          rintro e w3 ⟨v3, rfl, hv3, hb3⟩
          rw [HPE.out] at hv3
          rw [HP3.out]
          have HB3 : Hid (Below W1.heap.size W1 w3) := HB2.out.trans (hb3.mono HB2.out.size)
          obtain ⟨pa, pc, rfl, p1, p2, p3⟩ := hv3
          rw [HPL.out] at p1 p3 ⊢
          obtain ⟨pb, po, rfl, plt, pcell⟩ := p3 (by omega)
          have HO3 : Hid (OwnI w3 W.heap.size (List.replicate n 0)) := HMD.out.of_below HB3.out HMD.out.lt
          have HCF : Hid (CopyFit w3 W.heap.size 0 n pb po (n - 1) (List.replicate n 0) P (n - 1)) := ⟨HO3.out, pcell, by rw [HPL.out]; exact Nat.le_refl _, by simp [Nat.min_def], by simp⟩
          have HBW : Hid (Below W.heap.size W w3) := HBM.out.trans (HB3.out.mono HBM.out.size)
          clear p3 pcell hb3
          go_wp2_with ((refine wpList_copy_ints (o := ⟨some 101, _, _, _, _, _⟩) rfl (.tmp 99) (.tmp 100) rfl W.heap.size 0 n n pb po (n - 1) pc (by rfl) (by rfl) (List.replicate n 0) P (n - 1) HCF W.heap.size W HBW.out (Nat.le_refl _) ?_; intro w4 HO4 HB4))
          have HO5 : Hid (OwnI w4 W.heap.size (moreL 3 fr n)) := by
            have h := HO4.out
            rw [copy_snoc (by rw [HPL.out]; omega)] at h
            rw [HM0.out]
            exact h
          go_meet
          exact ⟨by rw [HAT.out], HO5.out, HB4.out⟩
        case rest =>
          obtain ⟨rfl, hM, hbm⟩ := hcut
          obtain ⟨W2, rfl⟩ : ∃ x : World, x = wc := ⟨_, rfl⟩
          obtain ⟨M, hMe⟩ : ∃ M, moreL 3 fr n = M := ⟨_, rfl⟩
          have hMl : M.length = n := by rw [← hMe, HM0.out]; simp [HPL.out]; omega
          have hMb : ∀ k, k < n → 0 ≤ gz M k ∧ gz M k ≤ 1073741824 := fun k hk => by rw [← hMe, HM0.out]; exact snoc_bd (n := n) HP2.out HPL.out (by have := HN1.out; omega) k
          have hab : -1073741824 ≤ at0 3 fr ∧ at0 3 fr ≤ 1073741824 := by
            unfold at0
            split
            · omega
            · split
              · exact floor2_bd (by omega) (by omega)
              · omega
          obtain ⟨A0, hA0⟩ : ∃ x, at0 3 fr = x := ⟨_, rfl⟩
          rw [hMe] at hM HR
          rw [hA0] at hab HR ⊢
          have HPB : Hid (∀ k, k ≤ n → -1073741824 ≤ posTo gp s M A0 k ∧ posTo gp s M A0 k ≤ 1073741824 + 2147483648 * (k : Int)) := fun k hk => posTo_bd HS.out hg (fun k hk => hMb k (by rw [← HN.out]; exact hk)) hab k (by rw [HN.out]; exact hk)
          have HM := Lib.hid hM
          have HMB := Lib.hid hMb
          have HML := Lib.hid hMl
          have HBM2 := Lib.hid hbm
          clear hMe hM hMb hMl hbm hA0 hab hmk HMD HBM
          have HBW2 : Hid (Below w.heap.size w W2) := HBA.out.trans (HBM2.out.mono HBA.out.size)
          have HMLT : Hid (W.heap.size < W2.heap.size) := HM.out.lt
          go_wp2_with fail
          go_loopw [14, 19, 104] (fun p u i wr => ∃ k : Nat, k ≤ n ∧ i = .int .i64 k ∧ p = .int .i64 (posTo gp s M A0 k) ∧ wr.ownsRow W2.heap.size 3 1 u k ((offTo av gp s M A0 right k).map (Value.int .i64)) ∧ Below W2.heap.size W2 wr) (fun _ _ i _ => n - (intOf i).toNat)
          case atStart => exact ⟨0, Nat.zero_le _, rfl, rfl, World.ownsRow_nil _ _ _ _, Below.refl _ _⟩
          case round =>
            obtain ⟨k, hk2, rfl, rfl, hO, hbl⟩ := hrel
            have HO := Lib.hid hO
            have HBL := Lib.hid hbl
            have hpb := HPB.out k hk2
            obtain ⟨p, hp⟩ : ∃ x, posTo gp s M A0 k = x := ⟨_, rfl⟩
            rw [hp] at hpb ⊢
            have HP := Lib.hid hp
            clear hO hbl hp
            by_cases hkn2 : k < n
            · obtain ⟨b, off, rfl, hlt, hcell⟩ := H3.out (by omega)
              have hc := ((HBL.out.cell (p := ⟨b, off + k, none⟩) (Nat.lt_of_lt_of_le hlt HBW2.out.size)).trans (HBW2.out.cell (p := ⟨b, off + k, none⟩) hlt)).trans (hcell k hkn2)
              have hm := (HBL.out.cell (p := ⟨W.heap.size, k, none⟩) HMLT.out).trans (HM.out.cell (i := k) (by rw [HML.out]; exact hkn2))
              have hsk := lensB_at HS.out (k := k) (by rw [HN.out]; exact hkn2)
              have hmk := HMB.out k hkn2
              have hkn' : (k : Int) < (n : Int) := by omega
              have hk0 : (0 : Int) ≤ (k : Int) := by omega
              obtain ⟨sk, hske⟩ : ∃ x, gz s k = x := ⟨_, rfl⟩
              obtain ⟨mk, hmke⟩ : ∃ x, gz M k = x := ⟨_, rfl⟩
              rw [hske] at hc hsk
              rw [hmke] at hm hmk
              have HPN : Hid (posTo gp s M A0 (k + 1) = p + (sk + gp + mk)) := by show _ = _; simp only [posTo]; rw [HP.out, hske, hmke]
              have HHB : Hid (W2.heap.size ≤ wr.heap.size) := HBL.out.size
              obtain ⟨hg0, hg1⟩ := hg
              obtain ⟨ha0, ha1⟩ := ha
              have HON : Hid ((offTo av gp s M A0 right (k + 1)).map (Value.int .i64) = (offTo av gp s M A0 right k).map (Value.int .i64) ++ [.int .i64 (if right then av - sk - p else p)]) := by
                show _ = _
                rw [offTo_succ, List.map_append, offAt, HP.out, hske]; rfl
              have HMK := Lib.hid hmke
              clear hcell hske hmke
              cases right with
              | true =>
                go_wp2_with (at_builtin; refine wpList_append_lies _ rfl _ _ 23 rfl W2.heap.size 3 i0 _ 1 8 Try.underlying23 hi0 hz0 hz1 hz2 rfl (by omega) _ k ((offTo av gp s M A0 true k).map (Value.int .i64)) rfl (HO.out.alloc _) ⟨wr.heap.size, 0, none⟩ 1 1 [.int .i64 (av - sk - p)] rfl rfl (World.news_of_block (cs := #[.int .i64 (av - sk - p)]) (t := 3) (fr := (0, 0)) (heap_alloc_new wr _)) (by simp [Value.oneCell']) (by omega) (by unfold maxLen; omega) (by omega) (by have := HHB.out; simp; omega) _ rfl ?_; intro gg cap' w6 hown6 hgrow6 hat6 hlt6; have HOW6 := Lib.hid hown6; have HG6 := Lib.hid hgrow6; have HB6 : Hid (Below W2.heap.size W2 w6) := (HBL.out.alloc HBL.out.size _).grown HG6.out (by have := HBL.out.size; simp; omega) (fun q hq => (HO.out.lt q hq).1); clear hown6 hgrow6 hat6 hlt6 hm hc; have hm := (HB6.out.cell (p := ⟨W.heap.size, k, none⟩) HMLT.out).trans (HM.out.cell (i := k) (by rw [HML.out]; exact hkn2)); rw [HMK.out] at hm)
                go_roundw
                case rel => exact ⟨k + 1, by omega, by go_num, by rw [HPN.out], by rw [HON.out]; exact HOW6.out, HB6.out⟩
                case measure => simp [intOf]; omega
              | false =>
                go_wp2_with (at_builtin; refine wpList_append_lies _ rfl _ _ 23 rfl W2.heap.size 3 i0 _ 1 8 Try.underlying23 hi0 hz0 hz1 hz2 rfl (by omega) _ k ((offTo av gp s M A0 false k).map (Value.int .i64)) rfl (HO.out.alloc _) ⟨wr.heap.size, 0, none⟩ 1 1 [.int .i64 p] rfl rfl (World.news_of_block (cs := #[.int .i64 p]) (t := 3) (fr := (0, 0)) (heap_alloc_new wr _)) (by simp [Value.oneCell']) (by omega) (by unfold maxLen; omega) (by omega) (by have := HHB.out; simp; omega) _ rfl ?_; intro gg cap' w6 hown6 hgrow6 hat6 hlt6; have HOW6 := Lib.hid hown6; have HG6 := Lib.hid hgrow6; have HB6 : Hid (Below W2.heap.size W2 w6) := (HBL.out.alloc HBL.out.size _).grown HG6.out (by have := HBL.out.size; simp; omega) (fun q hq => (HO.out.lt q hq).1); clear hown6 hgrow6 hat6 hlt6 hm hc; have hm := (HB6.out.cell (p := ⟨W.heap.size, k, none⟩) HMLT.out).trans (HM.out.cell (i := k) (by rw [HML.out]; exact hkn2)); rw [HMK.out] at hm)
                go_roundw
                case rel => exact ⟨k + 1, by omega, by go_num, by rw [HPN.out], by rw [HON.out]; exact HOW6.out, HB6.out⟩
                case measure => simp [intOf]; omega
            · obtain rfl : n = k := by omega
              have HF := Lib.hid (ownsRow_isInts HO.out)
              go_wp2
              go_ret
              exact ⟨_, rfl, by rw [HR.out]; exact HF.out, HBW2.out.trans (HBL.out.mono HBW2.out.size)⟩

/-- OFFSETS: for valid arguments. -/
theorem offs_ok (av gp ju : Int) (s : List Int) (right : Bool) (v : Value) (w : World) (hv : IsInts w v s) (hok : offOk av gp ju s = true) :
    Calls Try.prog 20 #[.int .i64 av, .int .i64 gp, .int .i64 ju, v, .bool right] w (GivesI (offL av gp ju s right) w) := by
  cases hb : betw ju (offFree av gp s) s.length with
  | true => exact offs_betw av gp ju s right v w hv hok hb
  | false => exact offs_plain av gp ju s right v w hv hok hb
end Go.Proofs.Ythmdagffhanagaa

