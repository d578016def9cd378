/- Offsets of package box: the positions of the elements. -/
import Derived.Test.YthmdagffhanagaaBoxRes
import Derived.Test.YthmdagffhanagaaFloorP
import Derived.Deep.CutBlock
namespace Go.Proofs.Ythmdagffhanagaa
open Go.RowKit
set_option linter.unusedVariables false
set_option linter.unusedSimpArgs false

def offFree (av gp : Int) (s : List Int) : Int := spTo av gp s.length - sumTo s s.length
def betw (ju fr : Int) (n : Nat) : Bool := decide (ju = 3) && decide (0 < fr) && decide (1 < n)
def moreL (ju fr : Int) (n : Nat) : List Int := if betw ju fr n then shareParts fr (List.replicate (n - 1) 1) ++ [0] else List.replicate n 0
def at0 (ju fr : Int) : Int := if ju = 1 then fr else if ju = 2 then floorZ fr 2 else 0
def posTo (gp : Int) (s M : List Int) (a : Int) : Nat → Int
  | 0 => a
  | k + 1 => posTo gp s M a k + (gz s k + gp + gz M k)
def offAt (av gp : Int) (s M : List Int) (a : Int) (right : Bool) (k : Nat) : Int := if right then av - gz s k - posTo gp s M a k else posTo gp s M a k
def offTo (av gp : Int) (s M : List Int) (a : Int) (right : Bool) (k : Nat) : List Int := (List.range k).map (offAt av gp s M a right)
theorem offTo_len (av gp : Int) (s M : List Int) (a : Int) (right : Bool) (k : Nat) : (offTo av gp s M a right k).length = k := by simp [offTo]
theorem offTo_succ (av gp : Int) (s M : List Int) (a : Int) (right : Bool) (k : Nat) : offTo av gp s M a right (k + 1) = offTo av gp s M a right k ++ [offAt av gp s M a right k] := by simp [offTo, List.range_succ]
theorem offTo_at {av gp : Int} {s M : List Int} {a : Int} {right : Bool} {k i : Nat} (h : i < k) : gz (offTo av gp s M a right k) i = offAt av gp s M a right i := by simp [offTo, gz, h]
def offOk (av gp ju : Int) (s : List Int) : Bool := decide (s.length ≤ 100) && (lenB av && lenB gp) && lensB s && (decide (0 ≤ ju) && decide (ju ≤ 3))
def offL (av gp ju : Int) (s : List Int) (right : Bool) : List Int :=
  if offOk av gp ju s then offTo av gp s (moreL ju (offFree av gp s) s.length) (at0 ju (offFree av gp s)) right s.length else []
theorem lensB_at {s : List Int} (h : lensB s = true) {k : Nat} (hk : k < s.length) : 0 ≤ gz s k ∧ gz s k ≤ 1048576 := by
  have := List.all_eq_true.1 h s[k] (List.getElem_mem hk)
  have e : gz s k = s[k] := by simp [gz, hk]
  rw [e]; exact lenB_iff.1 this
theorem lens_sum {s : List Int} (h : lensB s = true) : ∀ k, k ≤ s.length → 0 ≤ sumTo s k ∧ sumTo s k ≤ 1048576 * (k : Int)
  | 0, _ => by simp [sumTo]
  | k + 1, hk => by
    have := lens_sum h k (by omega)
    have := lensB_at h (k := k) (by omega)
    simp only [sumTo]; omega
theorem floor2_bd {x : Int} (h0 : -1073741824 ≤ x) (h1 : x ≤ 1073741824) : -1073741824 ≤ floorZ x 2 ∧ floorZ x 2 ≤ 1073741824 := by
  unfold floorZ
  split
  · rw [if_neg (by omega)]; omega
  · omega
theorem posTo_bd {gp : Int} {s M : List Int} {a : Int} (hs : lensB s = true) (hg : 0 ≤ gp ∧ gp ≤ 1048576) (hM : ∀ k, k < s.length → 0 ≤ gz M k ∧ gz M k ≤ 1073741824) (ha : -1073741824 ≤ a ∧ a ≤ 1073741824) :
    ∀ k, k ≤ s.length → -1073741824 ≤ posTo gp s M a k ∧ posTo gp s M a k ≤ 1073741824 + 2147483648 * (k : Int)
  | 0, _ => by simp [posTo]; omega
  | k + 1, hk => by
    have := posTo_bd hs hg hM ha k (by omega)
    have := lensB_at hs (k := k) (by omega)
    have := hM k (by omega)
    simp only [posTo]; omega

/-- A list of numbers comes back. -/
def GivesI (xs : List Int) (w : World) (e : Ending) (w' : World) : Prop := ∃ v, e = .returned v ∧ IsInts w' v xs ∧ Below w.heap.size w w'

set_option maxHeartbeats 8000000 in
set_option maxRecDepth 100000 in
theorem offs_plain (av gp ju : Int) (s : List Int) (right : Bool) (v : Value) (w : World) (hv : IsInts w v s) (hok : offOk av gp ju s = true) (hb : betw ju (offFree av gp s) s.length = false) :
    Calls Try.prog 20 #[.int .i64 av, .int .i64 gp, .int .i64 ju, v, .bool right] w (GivesI (offL av gp ju s right) w) := by
  obtain ⟨i0, hi0, hz0, hz1, hz2⟩ := info_parts info_int1
  have HR : Hid (offL av gp ju s right = offTo av gp s (moreL ju (offFree av gp s) s.length) (at0 ju (offFree av gp s)) right s.length) := by show _ = _; unfold offL; rw [if_pos hok]
  have HM0 : Hid (moreL ju (offFree av gp s) s.length = List.replicate s.length 0) := by show _ = _; unfold moreL; rw [if_neg (by rw [hb]; simp)]
  have hb' := hb
  have hok' := hok
  simp only [offOk, Bool.and_eq_true, decide_eq_true_iff] at hok'
  obtain ⟨⟨⟨hn, hag1, hag2⟩, hs⟩, hj0, hj1⟩ := hok'
  have ha := lenB_iff.1 hag1
  have hg := lenB_iff.1 hag2
  have HAG : Hid (lensB [av, gp] = true) := by show _ = _; rw [lensB_two, hag1, hag2]; rfl
  have HS := Lib.hid hs
  have HV := Lib.hid hv
  have hsp := spTo_bd (av := av) (gp := gp) ha.1 ha.2 hg.1 hg.2 hn
  have hsum := lens_sum hs s.length (Nat.le_refl _)
  have HSB : Hid (∀ k, k ≤ s.length → 0 ≤ sumTo s k ∧ sumTo s k ≤ 1048576 * (k : Int)) := lens_sum hs
  obtain ⟨a, cap, rfl, h1, h2, h3⟩ := hv
  obtain ⟨n, hn'⟩ : ∃ n, s.length = n := ⟨_, rfl⟩
  have HFR : Hid (offFree av gp s = spTo av gp n - sumTo s n) := by show _ = _; unfold offFree; rw [hn']
  rw [hn'] at h1 h3 hn HV HM0 HR HSB hsp hsum hb ⊢
  have HN := Lib.hid hn'
  have H3 := Lib.hid h3
  obtain ⟨fr, hfr⟩ : ∃ x, offFree av gp s = x := ⟨_, rfl⟩
  rw [hfr] at HR HM0 HFR hb
  have hfb : -1073741824 ≤ fr ∧ fr ≤ 1048576 := by have := HFR.out; omega
  have HIB : Hid (IsInts (w.alloc (.cells #[.int .i64 av, .int .i64 gp] 3)) (.slice (some ⟨w.heap.size, 0, none⟩) 2 2) [av, gp]) := lit_ints [av, gp] rfl (by simp [maxLen]) 2 rfl
  have HVB : Hid (IsInts (w.alloc (.cells #[.int .i64 av, .int .i64 gp] 3)) (.slice a n cap) s) := HV.out.of_below ((Below.refl _ _).alloc (Nat.le_refl _) _)
  have HBA : Hid (Below w.heap.size w (w.alloc (.cells #[.int .i64 av, .int .i64 gp] 3))) := (Below.refl _ _).alloc (Nat.le_refl _) _
  have hn2 : (n : Int) ≤ 100 := by omega
  have HB := Lib.hid hb
  unfold maxLen at h2
  clear hok hs h3 hn' hfr hb hb' hag1 hag2 hsum
  go_enter Try.func20, Try.ntmps20
  go_wp2_with fail
  refine (length_any _ [av, gp] _ HIB.out).mono ?_
  rw [HAG.out]
  rintro e w' ⟨rfl, rfl⟩
  go_wp2_with fail
  refine (length_any _ s _ HVB.out).mono ?_
  rw [HS.out]
  rintro e w' ⟨rfl, rfl⟩
  obtain ⟨W, hW⟩ : ∃ W, w.alloc (.cells #[.int .i64 av, .int .i64 gp] 3) = W := ⟨_, rfl⟩
  rw [hW] at HBA HVB ⊢
  clear hW
  go_upto_region 3 with fail
  go_cut [11] (fun s11 wx => s11 = .int .i64 (spTo av gp n) ∧ wx = W)
  case first =>
    by_cases hp : 0 < n
    · have hp' : (1 : Int) ≤ (n : Int) := by omega
      have hse : Hid (spTo av gp n = av - gp * ((n : Int) - 1)) := by show _ = _; unfold spTo; congr 2; omega
      have hmul := mul_bd (a := gp) (b := (n : Int) - 1) (m := 1048576) (k := 100) hg.1 (by omega) hg.2 (by omega)
      obtain ⟨hg0, hg1⟩ := hg
      obtain ⟨ha0, ha1⟩ := ha
      go_wp2
      go_meet
      exact ⟨by rw [hse.out], rfl⟩
    · obtain rfl : n = 0 := by omega
      have hse : Hid (spTo av gp 0 = av) := by show _ = _; simp [spTo]
      go_wp2
      go_meet
      exact ⟨by rw [hse.out], rfl⟩
  case rest =>
    obtain ⟨rfl, rfl⟩ := hcut
    obtain ⟨W, rfl⟩ : ∃ x : World, x = wc := ⟨_, rfl⟩
    obtain ⟨SP, hSP⟩ : ∃ x, spTo av gp n = x := ⟨_, rfl⟩
    rw [hSP] at hsp HFR ⊢
    clear hSP
    go_wp2_with fail
    go_loop [11, 56] (fun f i => ∃ k : Nat, k ≤ n ∧ i = .int .i64 k ∧ f = .int .i64 (SP - sumTo s k)) (fun _ i => n - (intOf i).toNat)
    case atStart => exact ⟨0, Nat.zero_le _, rfl, by simp [sumTo]⟩
    case round =>
      obtain ⟨k, hk, rfl, rfl⟩ := hrel
      have hsb := HSB.out k hk
      by_cases hkn : k < n
      · obtain ⟨b, off, rfl, hlt, hcell⟩ := H3.out (by omega)
        have hc := (HBA.out.cell (p := ⟨b, off + k, none⟩) hlt).trans (hcell k hkn)
        have hsk := lensB_at HS.out (k := k) (by rw [HN.out]; exact hkn)
        have hkn' : (k : Int) < (n : Int) := by omega
        have HSN : Hid (SP - sumTo s (k + 1) = SP - sumTo s k - gz s k) := by show _ = _; simp only [sumTo]; omega
        clear hcell
        go_wp2
        go_round
        case rel => exact ⟨k + 1, by omega, by go_num, by rw [HSN.out]⟩
        case measure => simp [intOf]; omega
      · obtain rfl : n = k := by omega
        rw [← HFR.out]
        have hmk := make_ints n (by omega)
        have HMD : Hid (OwnI (W.alloc (.cells (madeCells #[.int .i64 0] n) 3)) W.heap.size (moreL ju fr n)) := by
          show OwnI _ _ _
          rw [HM0.out]; exact OwnI.made W n
        have HBM : Hid (Below W.heap.size W (W.alloc (.cells (madeCells #[.int .i64 0] n) 3))) := (Below.refl _ _).alloc (Nat.le_refl _) _
        go_upto_block 2 with fail
        go_cut [14] (fun s14 wx => s14 = .int .i64 (at0 ju fr) ∧ OwnI wx W.heap.size (moreL ju fr n) ∧ Below W.heap.size W wx)
        case first =>
          by_cases j1 : ju = 1
          · have e1 : (ju == 1) = true := by simp [j1]
            have HA0 : Hid (at0 ju fr = fr) := by show _ = _; simp [at0, j1]
            clear j1
            go_wp2
            go_meet
            exact ⟨by rw [HA0.out], HMD.out, HBM.out⟩
          · have e1 : (ju == 1) = false := by simpa using j1
            by_cases j2 : ju = 2
            · have e2 : (ju == 2) = true := by simp [j2]
              have HA0 : Hid (at0 ju fr = floorZ fr 2) := by show _ = _; simp [at0, j2]
              clear j1 j2
              go_wp2_with (go_at_call 33; refine (Floor_any _ _ _).mono ?_; rintro e w' ⟨rfl, rfl⟩)
              go_meet
              exact ⟨by rw [HA0.out], HMD.out, HBM.out⟩
            · have e2 : (ju == 2) = false := by simpa using j2
              have HA0 : Hid (at0 ju fr = 0) := by show _ = _; simp [at0, j1, j2]
              clear j1 j2
              by_cases j3 : ju = 3
              · have e3 : (ju == 3) = true := by simp [j3]
                by_cases jf : 0 < fr
                · have jn : (n : Int) ≤ 1 := by
                    have := HB.out
                    simp [betw, j3, jf] at this
                    omega
                  clear j3
                  go_wp2
                  go_meet
                  exact ⟨by rw [HA0.out], HMD.out, HBM.out⟩
                · have jf' : decide (0 < fr) = false := by simpa using jf
                  clear j3 jf
                  go_wp2
                  go_meet
                  exact ⟨by rw [HA0.out], HMD.out, HBM.out⟩
              · have e3 : (ju == 3) = false := by simpa using j3
                clear j3
                go_wp2
                go_meet
                exact ⟨by rw [HA0.out], HMD.out, HBM.out⟩
        case rest =>
          obtain ⟨rfl, hM, hbm⟩ := hcut
          obtain ⟨W2, rfl⟩ : ∃ x : World, x = wc := ⟨_, rfl⟩
          obtain ⟨M, hMe⟩ : ∃ M, moreL ju fr n = M := ⟨_, rfl⟩
          have hMl : M.length = n := by rw [← hMe, HM0.out]; simp
          have hMb : ∀ k, k < n → 0 ≤ gz M k ∧ gz M k ≤ 1073741824 := fun k hk => by rw [← hMe, HM0.out, gz_replicate]; omega
          have hab : -1073741824 ≤ at0 ju fr ∧ at0 ju fr ≤ 1073741824 := by
            unfold at0
            split
            · omega
            · split
              · exact floor2_bd (by omega) (by omega)
              · omega
          obtain ⟨A0, hA0⟩ : ∃ x, at0 ju fr = x := ⟨_, rfl⟩
          rw [hMe] at hM HR
          rw [hA0] at hab HR ⊢
          have HPB : Hid (∀ k, k ≤ n → -1073741824 ≤ posTo gp s M A0 k ∧ posTo gp s M A0 k ≤ 1073741824 + 2147483648 * (k : Int)) := fun k hk => posTo_bd HS.out hg (fun k hk => hMb k (by rw [← HN.out]; exact hk)) hab k (by rw [HN.out]; exact hk)
          have HM := Lib.hid hM
          have HMB := Lib.hid hMb
          have HML := Lib.hid hMl
          have HBM2 := Lib.hid hbm
          clear hMe hM hMb hMl hbm hA0 hab hmk HMD HBM
          have HBW2 : Hid (Below w.heap.size w W2) := HBA.out.trans (HBM2.out.mono HBA.out.size)
          have HMLT : Hid (W.heap.size < W2.heap.size) := HM.out.lt
          go_wp2_with fail
          go_loopw [14, 19, 104] (fun p u i wr => ∃ k : Nat, k ≤ n ∧ i = .int .i64 k ∧ p = .int .i64 (posTo gp s M A0 k) ∧ wr.ownsRow W2.heap.size 3 1 u k ((offTo av gp s M A0 right k).map (Value.int .i64)) ∧ Below W2.heap.size W2 wr) (fun _ _ i _ => n - (intOf i).toNat)
          case atStart => exact ⟨0, Nat.zero_le _, rfl, rfl, World.ownsRow_nil _ _ _ _, Below.refl _ _⟩
          case round =>
            obtain ⟨k, hk2, rfl, rfl, hO, hbl⟩ := hrel
            have HO := Lib.hid hO
            have HBL := Lib.hid hbl
            have hpb := HPB.out k hk2
            obtain ⟨p, hp⟩ : ∃ x, posTo gp s M A0 k = x := ⟨_, rfl⟩
            rw [hp] at hpb ⊢
            have HP := Lib.hid hp
            clear hO hbl hp
            by_cases hkn2 : k < n
            · obtain ⟨b, off, rfl, hlt, hcell⟩ := H3.out (by omega)
              have hc := ((HBL.out.cell (p := ⟨b, off + k, none⟩) (Nat.lt_of_lt_of_le hlt HBW2.out.size)).trans (HBW2.out.cell (p := ⟨b, off + k, none⟩) hlt)).trans (hcell k hkn2)
              have hm := (HBL.out.cell (p := ⟨W.heap.size, k, none⟩) HMLT.out).trans (HM.out.cell (i := k) (by rw [HML.out]; exact hkn2))
              have hsk := lensB_at HS.out (k := k) (by rw [HN.out]; exact hkn2)
              have hmk := HMB.out k hkn2
              have hkn' : (k : Int) < (n : Int) := by omega
              have hk0 : (0 : Int) ≤ (k : Int) := by omega
              obtain ⟨sk, hske⟩ : ∃ x, gz s k = x := ⟨_, rfl⟩
              obtain ⟨mk, hmke⟩ : ∃ x, gz M k = x := ⟨_, rfl⟩
              rw [hske] at hc hsk
              rw [hmke] at hm hmk
              have HPN : Hid (posTo gp s M A0 (k + 1) = p + (sk + gp + mk)) := by show _ = _; simp only [posTo]; rw [HP.out, hske, hmke]
              have HHB : Hid (W2.heap.size ≤ wr.heap.size) := HBL.out.size
              obtain ⟨hg0, hg1⟩ := hg
              obtain ⟨ha0, ha1⟩ := ha
              have HON : Hid ((offTo av gp s M A0 right (k + 1)).map (Value.int .i64) = (offTo av gp s M A0 right k).map (Value.int .i64) ++ [.int .i64 (if right then av - sk - p else p)]) := by
                show _ = _
                rw [offTo_succ, List.map_append, offAt, HP.out, hske]; rfl
              have HMK := Lib.hid hmke
              clear hcell hske hmke
              cases right with
              | true =>
                go_wp2_with (at_builtin; refine wpList_append_lies _ rfl _ _ 23 rfl W2.heap.size 3 i0 _ 1 8 Try.underlying23 hi0 hz0 hz1 hz2 rfl (by omega) _ k ((offTo av gp s M A0 true k).map (Value.int .i64)) rfl (HO.out.alloc _) ⟨wr.heap.size, 0, none⟩ 1 1 [.int .i64 (av - sk - p)] rfl rfl (World.news_of_block (cs := #[.int .i64 (av - sk - p)]) (t := 3) (fr := (0, 0)) (heap_alloc_new wr _)) (by simp [Value.oneCell']) (by omega) (by unfold maxLen; omega) (by omega) (by have := HHB.out; simp; omega) _ rfl ?_; intro gg cap' w6 hown6 hgrow6 hat6 hlt6; have HOW6 := Lib.hid hown6; have HG6 := Lib.hid hgrow6; have HB6 : Hid (Below W2.heap.size W2 w6) := (HBL.out.alloc HBL.out.size _).grown HG6.out (by have := HBL.out.size; simp; omega) (fun q hq => (HO.out.lt q hq).1); clear hown6 hgrow6 hat6 hlt6 hm hc; have hm := (HB6.out.cell (p := ⟨W.heap.size, k, none⟩) HMLT.out).trans (HM.out.cell (i := k) (by rw [HML.out]; exact hkn2)); rw [HMK.out] at hm)
                go_roundw
                case rel => exact ⟨k + 1, by omega, by go_num, by rw [HPN.out], by rw [HON.out]; exact HOW6.out, HB6.out⟩
                case measure => simp [intOf]; omega
              | false =>
                go_wp2_with (at_builtin; refine wpList_append_lies _ rfl _ _ 23 rfl W2.heap.size 3 i0 _ 1 8 Try.underlying23 hi0 hz0 hz1 hz2 rfl (by omega) _ k ((offTo av gp s M A0 false k).map (Value.int .i64)) rfl (HO.out.alloc _) ⟨wr.heap.size, 0, none⟩ 1 1 [.int .i64 p] rfl rfl (World.news_of_block (cs := #[.int .i64 p]) (t := 3) (fr := (0, 0)) (heap_alloc_new wr _)) (by simp [Value.oneCell']) (by omega) (by unfold maxLen; omega) (by omega) (by have := HHB.out; simp; omega) _ rfl ?_; intro gg cap' w6 hown6 hgrow6 hat6 hlt6; have HOW6 := Lib.hid hown6; have HG6 := Lib.hid hgrow6; have HB6 : Hid (Below W2.heap.size W2 w6) := (HBL.out.alloc HBL.out.size _).grown HG6.out (by have := HBL.out.size; simp; omega) (fun q hq => (HO.out.lt q hq).1); clear hown6 hgrow6 hat6 hlt6 hm hc; have hm := (HB6.out.cell (p := ⟨W.heap.size, k, none⟩) HMLT.out).trans (HM.out.cell (i := k) (by rw [HML.out]; exact hkn2)); rw [HMK.out] at hm)
                go_roundw
                case rel => exact ⟨k + 1, by omega, by go_num, by rw [HPN.out], by rw [HON.out]; exact HOW6.out, HB6.out⟩
                case measure => simp [intOf]; omega
            · obtain rfl : n = k := by omega
              have HF := Lib.hid (ownsRow_isInts HO.out)
              go_wp2
              go_ret
              exact ⟨_, rfl, by rw [HR.out]; exact HF.out, HBW2.out.trans (HBL.out.mono HBW2.out.size)⟩
end Go.Proofs.Ythmdagffhanagaa

