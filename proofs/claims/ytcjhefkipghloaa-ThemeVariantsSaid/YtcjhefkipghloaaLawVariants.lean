/- The walk of the law ThemeVariants (printed by wip/tgen.py). -/
import Derived.Test.YtcjhefkipghloaaSrcTheme
import Derived.Test.YtcjhefkipghloaaAwake16
import Derived.Test.YtcjhefkipghloaaOpen
namespace Go.Proofs.Ytcjhefkipghloaa
open Go.RowKit
set_option linter.unusedVariables false
set_option linter.unusedSimpArgs false

theorem nm3_ok : nameB (nm3 0) = true ∧ nameB (nm3 1) = true ∧ nameB (nm3 2) = true := by decide
theorem nm3_name {i : Nat} (h : i < 3) : nameB (nm3 i) = true := by
  match i, h with
  | 0, _ => exact nm3_ok.1
  | 1, _ => exact nm3_ok.2.1
  | 2, _ => exact nm3_ok.2.2
theorem nm3_size {i : Nat} (h : i < 3) : (nm3 i).size ≤ maxLen := by
  unfold maxLen
  match i, h with
  | 0, _ => decide
  | 1, _ => decide
  | 2, _ => decide
theorem nm3_inj {i j : Nat} (hi : i < 3) (hj : j < 3) (h : nm3 i = nm3 j) : i = j := by
  have e : (nm3 i).data = (nm3 j).data := by rw [h]
  match i, hi, j, hj with
  | 0, _, 0, _ => rfl
  | 1, _, 1, _ => rfl
  | 2, _, 2, _ => rfl
  | 0, _, 1, _ => simp [nm3] at e
  | 0, _, 2, _ => simp [nm3] at e
  | 1, _, 0, _ => simp [nm3] at e
  | 1, _, 2, _ => simp [nm3] at e
  | 2, _, 0, _ => simp [nm3] at e
  | 2, _, 1, _ => simp [nm3] at e
theorem toksOk_names {l : List Tok} (h : toksOk l) : namesOk l := fun i => by
  by_cases c : i < l.length
  · rw [(h.2 i c).1]; exact nm3_size (by have := h.1; omega)
  · have e : gt l i = tok0 := by simp [gt, c]
    rw [e]
    show ByteArray.size ByteArray.empty ≤ maxLen
    unfold maxLen; decide
theorem toksOk_dup {l : List Tok} (h : toksOk l) {j : Nat} (hj : j < l.length) : ∀ k, k ≤ j → dupTo l (gt l j).name k = false
  | 0, _ => rfl
  | k + 1, hk => by
    refine dupTo_next (toksOk_dup h hj k (by omega)) (fun e => ?_)
    have hl := h.1
    rw [(h.2 k (by omega)).1, (h.2 j hj).1] at e
    have := nm3_inj (by omega) (by omega) e
    omega
theorem toksOk_val {l : List Tok} (h : toksOk l) : valE l = 0 := by
  have hl := h.1
  refine valE_ok (by omega) ?_
  have : ∀ k, k ≤ l.length → firstE l k = 0 := by
    intro k
    induction k with
    | zero => intro _; rfl
    | succ k ih =>
      intro hk
      exact firstE_next (ih (by omega)) (tokE_ok (by rw [(h.2 k (by omega)).1]; exact nm3_name (by omega)) (toksOk_dup h (by omega) k (Nat.le_refl _)) (h.2 k (by omega)).2)
  exact this _ (Nat.le_refl _)
theorem toksOk_look {l : List Tok} (h : toksOk l) {j : Nat} (hj : j < l.length) (dk hi : Bool) : lookZ l dk hi (gt l j).name = ((gt l j).pick dk hi, true) := by
  refine look_hit (fun i hi e => ?_) hj rfl
  have hl := h.1
  rw [(h.2 i (by omega)).1, (h.2 j hj).1] at e
  have := nm3_inj (by omega) (by omega) e
  omega

set_option maxHeartbeats 8000000 in
set_option maxRecDepth 100000 in
theorem walk_ThemeVariants (u : Value) (xs : List Int) (w : World) (hu : InInts w u xs) : Calls Try.prog 7 #[u] w (True_ w) := by
  have HU := Lib.hid hu
  clear hu
  go_enter Try.func7, Try.ntmps7
  go_wp2_with fail
  refine (srcNew_any _ xs _ HU.out).mono ?_
  rintro e w1 ⟨g, rfl, hs, hg0, hg1, hb⟩
  have HG : Hid (w.heap.size ≤ g) := hg0
  have HS1 := Lib.hid hs
  have HB1 := Lib.hid hb
  clear hs hg0 hg1 hb
  go_wp2_with fail
  refine (srcTheme_any g _ HS1.out).mono ?_
  rintro e w2 ⟨v, l, rfl, hT, hok, hs2, hg2⟩
  have HB2 := Lib.hid (HB1.out.trans (grownBy_below hg2 HG.out HS1.out.lt))
  have HT := Lib.hid hT
  have HK := Lib.hid hok
  clear hs2 hg2
  obtain ⟨a, cap, rfl, h1, h2, h3⟩ := hT
  obtain ⟨n, hn⟩ : ∃ n, l.length = n := ⟨_, rfl⟩
  have hn3 : n ≤ 3 := by have := hok.1; omega
  rw [hn] at h1 h3 HT ⊢
  have H3 := Lib.hid h3
  have HN := Lib.hid hn
  unfold maxLen at h2
  clear h3 hn hok
  have HB3 := Lib.hid (HB2.out.alloc HB2.out.size (.cells #[.slice a n cap] 32))
  have hth : (w2.alloc (.cells #[.slice a n cap] 32)).cell? ⟨w2.heap.size, 0, none⟩ = some (.slice a n cap) := by go_simp
  have HTH := Lib.hid hth
  have hsz : (w2.alloc (.cells #[.slice a n cap] 32)).heap.size = w2.heap.size + 1 := by simp
  have HSZ := Lib.hid hsz
  have HT3 : Hid (IsToks (w2.alloc (.cells #[.slice a n cap] 32)) (.slice a n cap) l) := HT.out.of_below ((Below.refl _ _).alloc (Nat.le_refl _) _)
  clear hth hsz
  go_wp2_with fail
  refine (valid_any _ l _ (by exact HT3.out) (toksOk_names HK.out)).mono ?_
  rw [toksOk_val HK.out]
  obtain ⟨W3, hW3⟩ : ∃ W3, (w2.alloc (.cells #[.slice a n cap] 32)) = W3 := ⟨_, rfl⟩
  rw [hW3] at HB3 HTH HT3 HSZ ⊢
  clear hW3
  rintro e w4 ⟨rfl, hb4⟩
  have HBt : Hid (w2.heap.size < W3.heap.size) := by rw [HSZ.out]; exact Nat.lt_succ_self _
  have c4 := (hb4.cell (p := ⟨w2.heap.size, 0, none⟩) HBt.out).trans HTH.out
  have HC4 := Lib.hid c4
  have HT4 := Lib.hid (HT3.out.of_below hb4)
  have HB4 := Lib.hid (HB3.out.trans (hb4.mono HB3.out.size))
  have HBt4 : Hid (w2.heap.size < w4.heap.size) := Nat.lt_of_lt_of_le HBt.out hb4.size
  have H34 := Lib.hid hb4
  have HW2 : Hid (w2.heap.size ≤ W3.heap.size) := Nat.le_of_lt HBt.out
  have H23 : Hid (w.heap.size ≤ W3.heap.size) := HB3.out.size
  have HB23 := Lib.hid HT.out
  obtain ⟨BT, hBT⟩ : ∃ BT, w2.heap.size = BT := ⟨_, rfl⟩
  rw [hBT] at HC4 HBt4 c4 ⊢
  clear hb4 hBT
  go_wp2_with fail
  clear c4
  go_loopw [5] (fun i wr => ∃ j : Nat, j ≤ n ∧ i = .int .i64 j ∧ Below w4.heap.size w4 wr) (fun i _ => n - (intOf i).toNat)
  case atStart => exact ⟨0, Nat.zero_le _, rfl, Below.refl _ _⟩
  case round =>
    obtain ⟨j, hj, rfl, hbl⟩ := hrel
    have HB := Lib.hid hbl
    have c4 := (hbl.cell (p := ⟨BT, 0, none⟩) HBt4.out).trans HC4.out
    have HBr : Hid (Below w.heap.size w wr) := HB4.out.trans (Below.mono hbl HB4.out.size)
    by_cases hjn : j < n
    · obtain ⟨a', cap', hv, k1, k2, k3⟩ := HT4.out
      rw [HN.out] at k3
      obtain ⟨rfl⟩ : a' = a := by simp at hv; exact hv.1.symm
      obtain ⟨b, off, rfl, hlt, hcell⟩ := k3 (by omega)
      have hoff := (hcell j hjn).kept hbl hlt
      obtain ⟨t, ht⟩ : ∃ t, gt l j = t := ⟨_, rfl⟩
      have HTT := Lib.hid ht
      have hjn' : (j : Int) < (n : Int) := by omega
      rw [ht] at hoff
      obtain ⟨nm, t1, t2, t3, t4⟩ := t
      obtain ⟨c0, c1, c2, c3, c5⟩ := hoff
      simp only at c0 c1 c2 c3 c5
      have HLK : Hid (∀ dk hi, lookZ l dk hi nm = ((⟨nm, t1, t2, t3, t4⟩ : Tok).pick dk hi, true)) := fun dk hi => by
        have := toksOk_look HK.out (j := j) (by rw [HN.out]; exact hjn) dk hi
        rw [HTT.out] at this; exact this
      have HTr : Hid (IsToks wr (.slice (some ⟨b, off, none⟩) n cap) l) := HT4.out.of_below hbl
      have HBT : Hid (BT < wr.heap.size) := Nat.lt_of_lt_of_le HBt4.out hbl.size
      have HWN : Hid ((wr.alloc (.cells #[.string nm, .int .i64 t1, .int .i64 t2, .int .i64 t3, .int .i64 t4] 35)).cell? ⟨BT, 0, none⟩ = some (.slice (some ⟨b, off, none⟩) n cap) ∧ (wr.alloc (.cells #[.string nm, .int .i64 t1, .int .i64 t2, .int .i64 t3, .int .i64 t4] 35)).cell? ⟨wr.heap.size, 0, none⟩ = some (.string nm) ∧ (wr.alloc (.cells #[.string nm, .int .i64 t1, .int .i64 t2, .int .i64 t3, .int .i64 t4] 35)).cell? ⟨wr.heap.size, 1, none⟩ = some (.int .i64 t1) ∧ (wr.alloc (.cells #[.string nm, .int .i64 t1, .int .i64 t2, .int .i64 t3, .int .i64 t4] 35)).cell? ⟨wr.heap.size, 2, none⟩ = some (.int .i64 t2) ∧ (wr.alloc (.cells #[.string nm, .int .i64 t1, .int .i64 t2, .int .i64 t3, .int .i64 t4] 35)).cell? ⟨wr.heap.size, 3, none⟩ = some (.int .i64 t3) ∧ (wr.alloc (.cells #[.string nm, .int .i64 t1, .int .i64 t2, .int .i64 t3, .int .i64 t4] 35)).cell? ⟨wr.heap.size, 4, none⟩ = some (.int .i64 t4)) := ⟨(World.cell?_alloc_lt wr _ ⟨BT, 0, none⟩ HBT.out).trans c4, by go_simp, by go_simp, by go_simp, by go_simp, by go_simp⟩
      have HAB : Hid (Below wr.heap.size wr (wr.alloc (.cells #[.string nm, .int .i64 t1, .int .i64 t2, .int .i64 t3, .int .i64 t4] 35))) := (Below.refl _ _).alloc (Nat.le_refl _) _
      have HSZ2 : Hid (wr.heap.size < (wr.alloc (.cells #[.string nm, .int .i64 t1, .int .i64 t2, .int .i64 t3, .int .i64 t4] 35)).heap.size) := by simp [Hid]
      clear hcell hbl ht hlt hv k1 k2 k3
      obtain ⟨y0, y1, y2, y3, y4, y5⟩ := HWN.out
      go_wp2_with fail
      clear y0 y1 y2 y3 y4 y5
      obtain ⟨W5, hW5⟩ : ∃ W5, (wr.alloc (.cells #[.string nm, .int .i64 t1, .int .i64 t2, .int .i64 t3, .int .i64 t4] 35)) = W5 := ⟨_, rfl⟩
      rw [hW5] at HWN HAB HSZ2 ⊢
      clear hW5 c0 c1 c2 c3 c5 c4
      obtain ⟨G, hG⟩ : ∃ G, wr.heap.size = G := ⟨_, rfl⟩
      rw [hG] at HWN HSZ2 ⊢
      have HTA := Lib.hid (HTr.out.of_below HAB.out)
      have HBA := Lib.hid (HB.out.trans (HAB.out.mono HB.out.size))
      have HL5 : Hid (BT < W5.heap.size ∧ G < W5.heap.size) := ⟨by have := HBT.out; have := HSZ2.out; omega, HSZ2.out⟩
      clear hG
      obtain ⟨y0, y1, y2, y3, y4, y5⟩ := HWN.out
      refine (look_any _ l false false _ _ _ (by exact HTA.out)).mono ?_
      rw [show lookZ l false false nm = (t1, true) from HLK.out false false]
      rintro e W6 ⟨rfl, hb⟩
      have HTA' := Lib.hid (HTA.out.of_below hb)
      have HBA' := Lib.hid (HBA.out.trans (hb.mono HBA.out.size))
      have HL6 : Hid (BT < W6.heap.size ∧ G < W6.heap.size) := ⟨Nat.lt_of_lt_of_le HL5.out.1 hb.size, Nat.lt_of_lt_of_le HL5.out.2 hb.size⟩
      have x0 := (hb.cell (p := ⟨BT, 0, none⟩) HL5.out.1).trans y0
      have x1 := (hb.cell (p := ⟨G, 0, none⟩) HL5.out.2).trans y1
      have x2 := (hb.cell (p := ⟨G, 1, none⟩) HL5.out.2).trans y2
      have x3 := (hb.cell (p := ⟨G, 2, none⟩) HL5.out.2).trans y3
      have x4 := (hb.cell (p := ⟨G, 3, none⟩) HL5.out.2).trans y4
      have x5 := (hb.cell (p := ⟨G, 4, none⟩) HL5.out.2).trans y5
      clear y0 y1 y2 y3 y4 y5 hb HTA HBA
      have HTA := HTA'
      have HBA := HBA'
      have y0 := x0
      have y1 := x1
      have y2 := x2
      have y3 := x3
      have y4 := x4
      have y5 := x5
      clear x0 x1 x2 x3 x4 x5 HTA' HBA'
      go_wp2_with fail
      refine (look_any _ l true false _ _ _ (by exact HTA.out)).mono ?_
      rw [show lookZ l true false nm = (t2, true) from HLK.out true false]
      rintro e W7 ⟨rfl, hb⟩
      have HTA' := Lib.hid (HTA.out.of_below hb)
      have HBA' := Lib.hid (HBA.out.trans (hb.mono HBA.out.size))
      have HL7 : Hid (BT < W7.heap.size ∧ G < W7.heap.size) := ⟨Nat.lt_of_lt_of_le HL6.out.1 hb.size, Nat.lt_of_lt_of_le HL6.out.2 hb.size⟩
      have x0 := (hb.cell (p := ⟨BT, 0, none⟩) HL6.out.1).trans y0
      have x1 := (hb.cell (p := ⟨G, 0, none⟩) HL6.out.2).trans y1
      have x2 := (hb.cell (p := ⟨G, 1, none⟩) HL6.out.2).trans y2
      have x3 := (hb.cell (p := ⟨G, 2, none⟩) HL6.out.2).trans y3
      have x4 := (hb.cell (p := ⟨G, 3, none⟩) HL6.out.2).trans y4
      have x5 := (hb.cell (p := ⟨G, 4, none⟩) HL6.out.2).trans y5
      clear y0 y1 y2 y3 y4 y5 hb HTA HBA
      have HTA := HTA'
      have HBA := HBA'
      have y0 := x0
      have y1 := x1
      have y2 := x2
      have y3 := x3
      have y4 := x4
      have y5 := x5
      clear x0 x1 x2 x3 x4 x5 HTA' HBA'
      go_wp2_with fail
      refine (look_any _ l false true _ _ _ (by exact HTA.out)).mono ?_
      rw [show lookZ l false true nm = (t3, true) from HLK.out false true]
      rintro e W8 ⟨rfl, hb⟩
      have HTA' := Lib.hid (HTA.out.of_below hb)
      have HBA' := Lib.hid (HBA.out.trans (hb.mono HBA.out.size))
      have HL8 : Hid (BT < W8.heap.size ∧ G < W8.heap.size) := ⟨Nat.lt_of_lt_of_le HL7.out.1 hb.size, Nat.lt_of_lt_of_le HL7.out.2 hb.size⟩
      have x0 := (hb.cell (p := ⟨BT, 0, none⟩) HL7.out.1).trans y0
      have x1 := (hb.cell (p := ⟨G, 0, none⟩) HL7.out.2).trans y1
      have x2 := (hb.cell (p := ⟨G, 1, none⟩) HL7.out.2).trans y2
      have x3 := (hb.cell (p := ⟨G, 2, none⟩) HL7.out.2).trans y3
      have x4 := (hb.cell (p := ⟨G, 3, none⟩) HL7.out.2).trans y4
      have x5 := (hb.cell (p := ⟨G, 4, none⟩) HL7.out.2).trans y5
      clear y0 y1 y2 y3 y4 y5 hb HTA HBA
      have HTA := HTA'
      have HBA := HBA'
      have y0 := x0
      have y1 := x1
      have y2 := x2
      have y3 := x3
      have y4 := x4
      have y5 := x5
      clear x0 x1 x2 x3 x4 x5 HTA' HBA'
      go_wp2_with fail
      refine (look_any _ l true true _ _ _ (by exact HTA.out)).mono ?_
      rw [show lookZ l true true nm = (t4, true) from HLK.out true true]
      rintro e W9 ⟨rfl, hb⟩
      have HTA' := Lib.hid (HTA.out.of_below hb)
      have HBA' := Lib.hid (HBA.out.trans (hb.mono HBA.out.size))
      have HL9 : Hid (BT < W9.heap.size ∧ G < W9.heap.size) := ⟨Nat.lt_of_lt_of_le HL8.out.1 hb.size, Nat.lt_of_lt_of_le HL8.out.2 hb.size⟩
      have x0 := (hb.cell (p := ⟨BT, 0, none⟩) HL8.out.1).trans y0
      have x1 := (hb.cell (p := ⟨G, 0, none⟩) HL8.out.2).trans y1
      have x2 := (hb.cell (p := ⟨G, 1, none⟩) HL8.out.2).trans y2
      have x3 := (hb.cell (p := ⟨G, 2, none⟩) HL8.out.2).trans y3
      have x4 := (hb.cell (p := ⟨G, 3, none⟩) HL8.out.2).trans y4
      have x5 := (hb.cell (p := ⟨G, 4, none⟩) HL8.out.2).trans y5
      clear y0 y1 y2 y3 y4 y5 hb HTA HBA
      have HTA := HTA'
      have HBA := HBA'
      have y0 := x0
      have y1 := x1
      have y2 := x2
      have y3 := x3
      have y4 := x4
      have y5 := x5
      clear x0 x1 x2 x3 x4 x5 HTA' HBA'
      go_wp2_with fail
      go_roundw
      case rel => exact ⟨j + 1, by omega, by go_num, HBA.out⟩
      case measure => simp [intOf]; omega
    · obtain rfl : j = n := by omega
      go_wp2_with (go_at_call 10; refine (awake_any _).mono ?_; rintro e w5 ⟨rfl, hb5⟩)
      go_ret
      exact ⟨rfl, HBr.out.trans (hb5.mono HBr.out.size)⟩
end Go.Proofs.Ytcjhefkipghloaa

