/- short of package widgetrylaw23: rows with small heights. -/
import Derived.Test.YtchlnelpgjjmgaaAwake23
import Derived.Test.YtchlnelpgjjmgaaBits
import Derived.WalkSmall
namespace Go.Proofs.Ytchlnelpgjjmgaa
open Go.RowKit

def shortKey (s : ByteArray) : ByteArray := if 1 < s.size then s.extract 0 1 else s
def shortS (s : Strip) : Strip := (shortKey s.1, s.2 % 64)
def shortTo (l : List Strip) (k : Nat) : List Strip := (l.take k).map shortS
def shortL (l : List Strip) : List Strip := shortTo l 60

theorem shortTo_len {l : List Strip} {k : Nat} (h : k ≤ l.length) : (shortTo l k).length = k := by simp [shortTo]; omega
theorem shortTo_succ {l : List Strip} {k : Nat} (h : k < l.length) : shortTo l (k + 1) = shortTo l k ++ [(shortKey (gk l k), gh l k % 64)] := by
  have e : l.take (k + 1) = l.take k ++ [l[k]] := by rw [List.take_succ_eq_append_getElem h]
  rw [shortTo, e, List.map_append, ← shortTo]
  simp [shortS, gk, gh, h]
theorem shortL_eq {l : List Strip} {k : Nat} (h : k = min l.length 60) : shortL l = shortTo l k := by
  subst h
  simp [shortL, shortTo, List.take_eq_take_iff]; omega
theorem shortL_len (l : List Strip) : (shortL l).length ≤ 60 := by simp [shortL, shortTo]; omega
theorem gh_short (l : List Strip) (j : Nat) : 0 ≤ gh (shortL l) j ∧ gh (shortL l) j < 64 := by
  simp only [gh, shortL, shortTo, List.getD_eq_getElem?_getD, List.getElem?_map]
  cases (l.take 60)[j]? with
  | none => simp
  | some s => simp [shortS]; omega
theorem stripCells_append (a b : List Strip) : stripCells (a ++ b) = stripCells a ++ stripCells b := by simp [stripCells]

theorem info_strip : (Try.prog.info? 32).map (fun i => (i.zero, i.size, i.bytes)) = some (some (.agg #[.string ByteArray.empty, .int .i64 0]), 2, 24) := by kernel_rfl

theorem ownsRow_isStrips {w : World} {base : Nat} {v : Value} {n : Nat} {l : List Strip} (h : w.ownsRow base 32 2 v n (stripCells l)) (hn : n = l.length) : IsStrips w v l := by
  subst hn
  obtain ⟨h1, h2⟩ := h
  rcases h2 with ⟨rfl, h0⟩ | ⟨g, cap, cur, rfl, _, hg, hc, hm, hsz, htake⟩
  · exact ⟨none, 0, by rw [h0], by omega, by unfold maxLen; simp, fun hp => by omega⟩
  · refine ⟨_, cap, rfl, hc, hm, fun _ => ⟨g, 0, rfl, lt_of_block hg, fun i hi => ?_⟩⟩
    have := stripCells_at l i hi
    rw [← htake] at this
    rw [List.getElem?_take, if_pos (by omega), List.getElem?_take, if_pos (by omega)] at this
    simp only [Array.getElem?_toList] at this
    rw [cell_of_row w g _ cur 32 (0, 0) hg, cell_of_row w g _ cur 32 (0, 0) hg]
    simpa using this

/-- What a call of short leaves. -/
def Shortened (l : List Strip) (w : World) (e : Ending) (w' : World) : Prop := ∃ v, e = .returned v ∧ IsStrips w' v (shortL l) ∧ Below w.heap.size w w'

set_option maxHeartbeats 1000000 in
theorem short_any (v : Value) (l : List Strip) (w : World) (hv : IsStrips w v l) :
    Calls Try.prog 13 #[v] w (Shortened l w) := by
  obtain ⟨i0, hi0, hz0, hz1, hz2⟩ := info_parts info_strip
  obtain ⟨a, cap, rfl, h1, h2, h3⟩ := hv
  obtain ⟨n, hn⟩ : ∃ n, l.length = n := ⟨_, rfl⟩
  rw [hn] at h1 h3 ⊢
  have H3 := Lib.hid h3
  have HN := Lib.hid hn
  clear h3 hn
  unfold maxLen at h2
  have hm := fun x => and_63 x
  go_enter Try.func13, Try.ntmps13
  go_wp2
  go_loopw [3, 4] (fun r i wr => ∃ k : Nat, k ≤ n ∧ k ≤ 60 ∧ i = .int .i64 k ∧ wr.ownsRow w.heap.size 32 2 r k (stripCells (shortTo l k)) ∧ Below w.heap.size w wr) (fun _ i _ => 60 - (intOf i).toNat)
  case atStart => exact ⟨0, Nat.zero_le _, Nat.zero_le _, rfl, World.ownsRow_nil _ _ _ _, Below.refl _ _⟩
  case round =>
    obtain ⟨k, hk, hk2, rfl, hown, hbl⟩ := hrel
    by_cases hkn : k < n ∧ k < 60
    · obtain ⟨hkn, hk6⟩ := hkn
      obtain ⟨b, off, rfl, hlt, hcell⟩ := H3.out (by omega)
      have hc1 := (hbl.cell (p := ⟨b, off + k * 2, none⟩) hlt).trans (hcell k hkn).1
      have hc2 := (hbl.cell (p := ⟨b, off + k * 2 + 1, none⟩) hlt).trans (hcell k hkn).2
      clear hcell
      have HO := Lib.hid hown
      have HB := Lib.hid hbl
      clear hown hbl
      have hkn' : (k : Int) < (n : Int) := by omega
      have hk6' : (k : Int) < 60 := by omega
      by_cases hs : 1 < (gk l k).size
      · have HK : Hid (shortKey (gk l k) = (gk l k).extract 0 1) := by show _ = _; rw [shortKey, if_pos hs]
        have hs' : (1 : Int) < ((gk l k).size : Int) := by omega
        go_wp2_with (at_builtin; refine wpList_append_own _ rfl _ _ 27 rfl w.heap.size 32 i0 _ 2 24 Try.underlying27 hi0 hz0 hz1 hz2 rfl (by decide) _ _ _ rfl (HO.out.alloc _) ⟨wr.heap.size, 0, none⟩ 1 1 [.string ((gk l k).extract 0 1), .int .i64 (gh l k % 64)] rfl rfl (cell_two_new _ _ _ _) ?c2 ?c3 ?c4 ?c5 ?_)
        case c2 => intro u hu; simp at hu; rcases hu with rfl | rfl <;> rfl
        case c3 => unfold maxLen; omega
        case c4 => omega
        case c5 => have := HB.out.size; simp; omega
        intro v' w1 hown1 hgrow _
        have hown2 : w1.ownsRow w.heap.size 32 2 v' (k + 1) (stripCells (shortTo l (k + 1))) := by
          rw [shortTo_succ (by rw [HN.out]; exact hkn), stripCells_append, HK.out]
          exact hown1
        have hb1 : Below w.heap.size w w1 := (HB.out.alloc HB.out.size _).grown hgrow (by have := HB.out.size; simp; omega) (fun q hq => (HO.out.lt q hq).1)
        have HO1 := Lib.hid hown2
        have HB1 := Lib.hid hb1
        clear hown1 hgrow hown2 hb1
        go_wp2
        go_roundw
        case rel => exact ⟨k + 1, by omega, by omega, by go_num, HO1.out, HB1.out⟩
        case measure => simp [intOf]; omega
      · have HK : Hid (shortKey (gk l k) = gk l k) := by show _ = _; rw [shortKey, if_neg hs]
        have hs' : ((gk l k).size : Int) ≤ 1 := by omega
        go_wp2_with (at_builtin; refine wpList_append_own _ rfl _ _ 27 rfl w.heap.size 32 i0 _ 2 24 Try.underlying27 hi0 hz0 hz1 hz2 rfl (by decide) _ _ _ rfl (HO.out.alloc _) ⟨wr.heap.size, 0, none⟩ 1 1 [.string (gk l k), .int .i64 (gh l k % 64)] rfl rfl (cell_two_new _ _ _ _) ?c2 ?c3 ?c4 ?c5 ?_)
        case c2 => intro u hu; simp at hu; rcases hu with rfl | rfl <;> rfl
        case c3 => unfold maxLen; omega
        case c4 => omega
        case c5 => have := HB.out.size; simp; omega
        intro v' w1 hown1 hgrow _
        have hown2 : w1.ownsRow w.heap.size 32 2 v' (k + 1) (stripCells (shortTo l (k + 1))) := by
          rw [shortTo_succ (by rw [HN.out]; exact hkn), stripCells_append, HK.out]
          exact hown1
        have hb1 : Below w.heap.size w w1 := (HB.out.alloc HB.out.size _).grown hgrow (by have := HB.out.size; simp; omega) (fun q hq => (HO.out.lt q hq).1)
        have HO1 := Lib.hid hown2
        have HB1 := Lib.hid hb1
        clear hown1 hgrow hown2 hb1
        go_wp2
        go_roundw
        case rel => exact ⟨k + 1, by omega, by omega, by go_num, HO1.out, HB1.out⟩
        case measure => simp [intOf]; omega
    · have e : shortL l = shortTo l k := shortL_eq (by rw [HN.out]; omega)
      have hs := ownsRow_isStrips (l := shortL l) (by rw [e]; exact hown) (by rw [e, shortTo_len (by rw [HN.out]; exact hk)])
      have HS := Lib.hid hs
      have HB := Lib.hid hbl
      clear hown hbl hs e
      by_cases hkn' : k < n
      · have h60 : ¬ (k : Int) < 60 := by omega
        clear hkn
        go_wp2
        go_ret
        exact ⟨_, rfl, HS.out, HB.out⟩
      · clear hkn
        go_wp2
        go_ret
        exact ⟨_, rfl, HS.out, HB.out⟩
end Go.Proofs.Ytchlnelpgjjmgaa
