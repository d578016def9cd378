/- Pinned of package scroll. -/
import Derived.Test.YtchlnelpgjjmgaaRecs
import Derived.Test.YtchlnelpgjjmgaaScrollC
namespace Go.Proofs.Ytchlnelpgjjmgaa
open Go.RowKit

/-- The position of a header. -/
def pinAt (o t h d : Int) : Int := if d ≤ h then max t (min o (t + h - d)) else t
def secOk (l : List Rec) (i : Nat) : Prop := inZ (gf l i 0) ∧ heightZ (gf l i 1) ∧ heightZ (gf l i 2)
def allSecs (l : List Rec) (n : Nat) : Prop := ∀ i, i < n → secOk l i
def pinsTo (l : List Rec) (o : Int) (k : Nat) : List Int := (List.range k).map fun i => pinAt o (gf l i 0) (gf l i 1) (gf l i 2)
theorem pinsTo_len (l : List Rec) (o : Int) (k : Nat) : (pinsTo l o k).length = k := by simp [pinsTo]
theorem pinsTo_succ (l : List Rec) (o : Int) (k : Nat) : pinsTo l o (k + 1) = pinsTo l o k ++ [pinAt o (gf l k 0) (gf l k 1) (gf l k 2)] := by simp [pinsTo, List.range_succ]
open Classical in
noncomputable def pinned (l : List Rec) (o : Int) : List Int := if l.length ≤ 10000 ∧ inZ o ∧ allSecs l l.length then pinsTo l o l.length else []
theorem pinned_yes {l : List Rec} {o : Int} (h : l.length ≤ 10000 ∧ inZ o ∧ allSecs l l.length) : pinned l o = pinsTo l o l.length := by unfold pinned; rw [if_pos h]
theorem pinned_no {l : List Rec} {o : Int} (h : ¬ (l.length ≤ 10000 ∧ inZ o ∧ allSecs l l.length)) : pinned l o = [] := by unfold pinned; rw [if_neg h]

def Pinned (l : List Rec) (o : Int) (w : World) (e : Ending) (w' : World) : Prop := ∃ v, e = .returned v ∧ IsInts w' v (pinned l o) ∧ Below w.heap.size w w'
theorem Pinned.no {l : List Rec} {o : Int} {w w' : World} (h : ¬ (l.length ≤ 10000 ∧ inZ o ∧ allSecs l l.length)) (hb : Below w.heap.size w w') : Pinned l o w (.returned (.slice none 0 0)) w' :=
  ⟨_, rfl, by rw [pinned_no h]; exact IsInts.nil _, hb⟩

set_option maxHeartbeats 400000 in
theorem pinned_long (a : Option Addr) (n cap : Nat) (l : List Rec) (o : Int) (w : World) (HN : Hid (l.length = n)) (hn : 10000 < n) (hm : n ≤ maxLen) :
    Calls Try.prog 15 #[.slice a n cap, .int .i64 o] w (Pinned l o w) := by
  unfold maxLen at hm
  have hn' : (10000 : Int) < (n : Int) := by omega
  go_enter Try.func15, Try.ntmps15
  go_wp2_with fail
  go_ret
  exact Pinned.no (fun h => by have := HN.out; omega) (Below.refl _ _)

set_option maxHeartbeats 400000 in
theorem pinned_far (a : Option Addr) (n cap : Nat) (l : List Rec) (o : Int) (w : World) (hn : n ≤ 10000) (ho : ¬ inZ o) :
    Calls Try.prog 15 #[.slice a n cap, .int .i64 o] w (Pinned l o w) := by
  have hn' : (n : Int) ≤ 10000 := by omega
  have HW : [o].any farZ = !false := by simp [far_true ho]
  have HO := Lib.hid ho
  clear ho
  go_enter Try.func15, Try.ntmps15
  go_wp2_with (go_at_call 22; refine (within_lit [o] false HW _ rfl (one_len _) _ rfl _ (by simp)).mono ?_; rintro e w' ⟨rfl, rfl⟩)
  go_ret
  exact Pinned.no (fun h => HO.out h.2.1) (below_one _ _)

theorem below_three {w wr : World} (h : Below w.heap.size w wr) (a b c : Obj) : Below w.heap.size w (((wr.alloc a).alloc b).alloc c) := by
  have := h.size
  exact ((h.alloc this a).alloc (by simp; omega) b).alloc (by simp; omega) c
theorem below_four {w wr : World} (h : Below w.heap.size w wr) (a b c d : Obj) : Below w.heap.size w ((((wr.alloc a).alloc b).alloc c).alloc d) := by
  have := h.size
  exact (below_three h a b c).alloc (by simp; omega) d
theorem cell_new_at {X : World} {x : Value} {t : TypeId} {g : Nat} (hg : g = X.heap.size) : ∀ (j : Nat) (u : Value), [x][j]? = some u → (X.alloc (.cells #[x] t)).cell? ((⟨g, 0, none⟩ : Addr).add j) = some u := by
  subst hg
  exact cell_one_new _ _ _

set_option maxHeartbeats 3000000 in
theorem pinned_in (v : Value) (l : List Rec) (o : Int) (w : World) (hv : IsRecs 3 w v l) (hn : l.length ≤ 10000) (ho : inZ o) :
    Calls Try.prog 15 #[v, .int .i64 o] w (Pinned l o w) := by
  obtain ⟨i0, hi0, hz0, hz1, hz2⟩ := info_parts info_int
  have HW : [o].any farZ = !true := by simp [(far_iff o).2 ho]
  have HO := Lib.hid ho
  obtain ⟨o0, o1⟩ := ho
  obtain ⟨a, cap, rfl, h1, h2, h3⟩ := hv
  obtain ⟨n, hn'⟩ : ∃ n, l.length = n := ⟨_, rfl⟩
  rw [hn'] at h1 h3 hn ⊢
  have H3 := Lib.hid h3
  have HN := Lib.hid hn'
  clear h3 hn' h2
  go_enter Try.func15, Try.ntmps15
  go_wp2_with (go_at_call 22; refine (within_lit [o] true HW _ rfl (one_len _) _ rfl _ (by simp)).mono ?_; rintro e w' ⟨rfl, rfl⟩)
  go_loopw [5, 20] (fun r i wr => ∃ k : Nat, k ≤ n ∧ i = .int .i64 k ∧ wr.ownsRow w.heap.size 3 1 r k ((pinsTo l o k).map (Value.int .i64)) ∧ Below w.heap.size w wr ∧ allSecs l k) (fun _ i _ => n - (intOf i).toNat)
  case atStart => exact ⟨0, Nat.zero_le _, rfl, World.ownsRow_nil _ _ _ _, below_one _ _, fun _ h => absurd h (Nat.not_lt_zero _)⟩
  case round =>
    obtain ⟨k, hk, rfl, hown, hbl, hall⟩ := hrel
    have HA := Lib.hid hown
    have HB := Lib.hid hbl
    have HS := Lib.hid hall
    by_cases hkn : k < n
    · obtain ⟨b, off, rfl, hlt, hcell⟩ := H3.out (by omega)
      have hc0 := (hbl.cell (p := ⟨b, off + k * 3 + 0, none⟩) hlt).trans (hcell k hkn 0 (by omega))
      have hc1 := (hbl.cell (p := ⟨b, off + k * 3 + 1, none⟩) hlt).trans (hcell k hkn 1 (by omega))
      have hc2 := (hbl.cell (p := ⟨b, off + k * 3 + 2, none⟩) hlt).trans (hcell k hkn 2 (by omega))
      rw [Nat.add_zero] at hc0
      obtain ⟨t, ht⟩ : ∃ t, gf l k 0 = t := ⟨_, rfl⟩
      obtain ⟨e, hh⟩ : ∃ e, gf l k 1 = e := ⟨_, rfl⟩
      obtain ⟨d, hd⟩ : ∃ d, gf l k 2 = d := ⟨_, rfl⟩
      rw [ht] at hc0
      rw [hh] at hc1
      rw [hd] at hc2
      have HT := Lib.hid ht
      have HH := Lib.hid hh
      have HD := Lib.hid hd
      clear hcell hown hbl hall ht hh hd
      by_cases hi : inZ t
      · have HW1 : [t].any farZ = !true := by simp [(far_iff t).2 hi]
        obtain ⟨t0, t1⟩ := hi
        by_cases hj : heightZ e ∧ heightZ d
        · have HW2 : [e, d].any noHeight = !true := by simp [(noHeight_iff e).2 hj.1, (noHeight_iff d).2 hj.2]
          obtain ⟨⟨p0, p1⟩, q0, q1⟩ := hj
          have HS1 : Hid (allSecs l (k + 1)) := by
            intro i hi
            by_cases ci : i = k
            · subst ci
              exact ⟨by rw [HT.out]; exact ⟨t0, t1⟩, by rw [HH.out]; exact ⟨p0, p1⟩, by rw [HD.out]; exact ⟨q0, q1⟩⟩
            · exact HS.out i (by omega)
          by_cases c1 : d ≤ e
          · by_cases c2 : o ≤ t + e - d
            · by_cases c3 : ¬ o ≤ t
              · have HM : Hid (pinAt o t e d = o) := by show _ = _; unfold pinAt; rw [if_pos c1]; omega
                go_wp2_with (first | (go_at_call 22; refine (within_lit [t] true HW1 _ rfl (one_len _) _ rfl _ (by simp)).mono ?_; rintro _ w' ⟨rfl, rfl⟩) | (go_at_call 23; refine (heights_lit [e, d] true HW2 _ rfl (two_len _ _) _ rfl _ (by simp)).mono ?_; rintro _ w' ⟨rfl, rfl⟩) | (at_builtin; refine wpList_append_own _ rfl _ _ 37 rfl w.heap.size 3 i0 (.int .i64 0) 1 8 Try.underlying37 hi0 hz0 hz1 hz2 rfl (by decide) _ k ((pinsTo l o k).map (Value.int .i64)) rfl ?hown ⟨wr.heap.size + 3, 0, none⟩ 1 1 [.int .i64 (o)] rfl rfl ?x1 ?x2 ?x3 ?x4 ?x5 ?_))
                case hown => exact (((HA.out.alloc _).alloc _).alloc _).alloc _
                case x1 => exact cell_new_at (by simp)
                case x2 => intro u hu; simp at hu; subst hu; rfl
                case x3 => unfold maxLen; omega
                case x4 => omega
                case x5 => have := HB.out.size; first | omega | (simp; omega)
                intro v' w1 hown1 hgrow _
                have hown2 : w1.ownsRow w.heap.size 3 1 v' (k + 1) ((pinsTo l o (k + 1)).map (Value.int .i64)) := by
                  rw [pinsTo_succ, List.map_append, HT.out, HH.out, HD.out, HM.out]; exact hown1
                have hb1 : Below w.heap.size w w1 := (below_four HB.out _ _ _ _).grown hgrow (by have := HB.out.size; first | omega | (simp; omega)) (fun q hq => (HA.out.lt q hq).1)
                have HO1 := Lib.hid hown2
                have HB1 := Lib.hid hb1
                clear hown1 hgrow hown2 hb1
                go_wp2
                go_roundw
                case rel => exact ⟨k + 1, by omega, by go_num, HO1.out, HB1.out, HS1.out⟩
                case measure => simp [intOf]; omega
              · have HM : Hid (pinAt o t e d = t) := by show _ = _; unfold pinAt; rw [if_pos c1]; omega
                go_wp2_with (first | (go_at_call 22; refine (within_lit [t] true HW1 _ rfl (one_len _) _ rfl _ (by simp)).mono ?_; rintro _ w' ⟨rfl, rfl⟩) | (go_at_call 23; refine (heights_lit [e, d] true HW2 _ rfl (two_len _ _) _ rfl _ (by simp)).mono ?_; rintro _ w' ⟨rfl, rfl⟩) | (at_builtin; refine wpList_append_own _ rfl _ _ 37 rfl w.heap.size 3 i0 (.int .i64 0) 1 8 Try.underlying37 hi0 hz0 hz1 hz2 rfl (by decide) _ k ((pinsTo l o k).map (Value.int .i64)) rfl ?hown ⟨wr.heap.size + 3, 0, none⟩ 1 1 [.int .i64 (t)] rfl rfl ?x1 ?x2 ?x3 ?x4 ?x5 ?_))
                case hown => exact (((HA.out.alloc _).alloc _).alloc _).alloc _
                case x1 => exact cell_new_at (by simp)
                case x2 => intro u hu; simp at hu; subst hu; rfl
                case x3 => unfold maxLen; omega
                case x4 => omega
                case x5 => have := HB.out.size; first | omega | (simp; omega)
                intro v' w1 hown1 hgrow _
                have hown2 : w1.ownsRow w.heap.size 3 1 v' (k + 1) ((pinsTo l o (k + 1)).map (Value.int .i64)) := by
                  rw [pinsTo_succ, List.map_append, HT.out, HH.out, HD.out, HM.out]; exact hown1
                have hb1 : Below w.heap.size w w1 := (below_four HB.out _ _ _ _).grown hgrow (by have := HB.out.size; first | omega | (simp; omega)) (fun q hq => (HA.out.lt q hq).1)
                have HO1 := Lib.hid hown2
                have HB1 := Lib.hid hb1
                clear hown1 hgrow hown2 hb1
                go_wp2
                go_roundw
                case rel => exact ⟨k + 1, by omega, by go_num, HO1.out, HB1.out, HS1.out⟩
                case measure => simp [intOf]; omega
            · by_cases c3 : ¬ t + e - d ≤ t
              · have HM : Hid (pinAt o t e d = t + e - d) := by show _ = _; unfold pinAt; rw [if_pos c1]; omega
                go_wp2_with (first | (go_at_call 22; refine (within_lit [t] true HW1 _ rfl (one_len _) _ rfl _ (by simp)).mono ?_; rintro _ w' ⟨rfl, rfl⟩) | (go_at_call 23; refine (heights_lit [e, d] true HW2 _ rfl (two_len _ _) _ rfl _ (by simp)).mono ?_; rintro _ w' ⟨rfl, rfl⟩) | (at_builtin; refine wpList_append_own _ rfl _ _ 37 rfl w.heap.size 3 i0 (.int .i64 0) 1 8 Try.underlying37 hi0 hz0 hz1 hz2 rfl (by decide) _ k ((pinsTo l o k).map (Value.int .i64)) rfl ?hown ⟨wr.heap.size + 3, 0, none⟩ 1 1 [.int .i64 (t + e - d)] rfl rfl ?x1 ?x2 ?x3 ?x4 ?x5 ?_))
                case hown => exact (((HA.out.alloc _).alloc _).alloc _).alloc _
                case x1 => exact cell_new_at (by simp)
                case x2 => intro u hu; simp at hu; subst hu; rfl
                case x3 => unfold maxLen; omega
                case x4 => omega
                case x5 => have := HB.out.size; first | omega | (simp; omega)
                intro v' w1 hown1 hgrow _
                have hown2 : w1.ownsRow w.heap.size 3 1 v' (k + 1) ((pinsTo l o (k + 1)).map (Value.int .i64)) := by
                  rw [pinsTo_succ, List.map_append, HT.out, HH.out, HD.out, HM.out]; exact hown1
                have hb1 : Below w.heap.size w w1 := (below_four HB.out _ _ _ _).grown hgrow (by have := HB.out.size; first | omega | (simp; omega)) (fun q hq => (HA.out.lt q hq).1)
                have HO1 := Lib.hid hown2
                have HB1 := Lib.hid hb1
                clear hown1 hgrow hown2 hb1
                go_wp2
                go_roundw
                case rel => exact ⟨k + 1, by omega, by go_num, HO1.out, HB1.out, HS1.out⟩
                case measure => simp [intOf]; omega
              · have HM : Hid (pinAt o t e d = t) := by show _ = _; unfold pinAt; rw [if_pos c1]; omega
                go_wp2_with (first | (go_at_call 22; refine (within_lit [t] true HW1 _ rfl (one_len _) _ rfl _ (by simp)).mono ?_; rintro _ w' ⟨rfl, rfl⟩) | (go_at_call 23; refine (heights_lit [e, d] true HW2 _ rfl (two_len _ _) _ rfl _ (by simp)).mono ?_; rintro _ w' ⟨rfl, rfl⟩) | (at_builtin; refine wpList_append_own _ rfl _ _ 37 rfl w.heap.size 3 i0 (.int .i64 0) 1 8 Try.underlying37 hi0 hz0 hz1 hz2 rfl (by decide) _ k ((pinsTo l o k).map (Value.int .i64)) rfl ?hown ⟨wr.heap.size + 3, 0, none⟩ 1 1 [.int .i64 (t)] rfl rfl ?x1 ?x2 ?x3 ?x4 ?x5 ?_))
                case hown => exact (((HA.out.alloc _).alloc _).alloc _).alloc _
                case x1 => exact cell_new_at (by simp)
                case x2 => intro u hu; simp at hu; subst hu; rfl
                case x3 => unfold maxLen; omega
                case x4 => omega
                case x5 => have := HB.out.size; first | omega | (simp; omega)
                intro v' w1 hown1 hgrow _
                have hown2 : w1.ownsRow w.heap.size 3 1 v' (k + 1) ((pinsTo l o (k + 1)).map (Value.int .i64)) := by
                  rw [pinsTo_succ, List.map_append, HT.out, HH.out, HD.out, HM.out]; exact hown1
                have hb1 : Below w.heap.size w w1 := (below_four HB.out _ _ _ _).grown hgrow (by have := HB.out.size; first | omega | (simp; omega)) (fun q hq => (HA.out.lt q hq).1)
                have HO1 := Lib.hid hown2
                have HB1 := Lib.hid hb1
                clear hown1 hgrow hown2 hb1
                go_wp2
                go_roundw
                case rel => exact ⟨k + 1, by omega, by go_num, HO1.out, HB1.out, HS1.out⟩
                case measure => simp [intOf]; omega
          · have HM : Hid (pinAt o t e d = t) := by show _ = _; unfold pinAt; rw [if_neg c1]
            go_wp2_with (first | (go_at_call 22; refine (within_lit [t] true HW1 _ rfl (one_len _) _ rfl _ (by simp)).mono ?_; rintro _ w' ⟨rfl, rfl⟩) | (go_at_call 23; refine (heights_lit [e, d] true HW2 _ rfl (two_len _ _) _ rfl _ (by simp)).mono ?_; rintro _ w' ⟨rfl, rfl⟩) | (at_builtin; refine wpList_append_own _ rfl _ _ 37 rfl w.heap.size 3 i0 (.int .i64 0) 1 8 Try.underlying37 hi0 hz0 hz1 hz2 rfl (by decide) _ k ((pinsTo l o k).map (Value.int .i64)) rfl ?hown ⟨wr.heap.size + 3, 0, none⟩ 1 1 [.int .i64 (t)] rfl rfl ?x1 ?x2 ?x3 ?x4 ?x5 ?_))
            case hown => exact (((HA.out.alloc _).alloc _).alloc _).alloc _
            case x1 => exact cell_new_at (by simp)
            case x2 => intro u hu; simp at hu; subst hu; rfl
            case x3 => unfold maxLen; omega
            case x4 => omega
            case x5 => have := HB.out.size; first | omega | (simp; omega)
            intro v' w1 hown1 hgrow _
            have hown2 : w1.ownsRow w.heap.size 3 1 v' (k + 1) ((pinsTo l o (k + 1)).map (Value.int .i64)) := by
              rw [pinsTo_succ, List.map_append, HT.out, HH.out, HD.out, HM.out]; exact hown1
            have hb1 : Below w.heap.size w w1 := (below_four HB.out _ _ _ _).grown hgrow (by have := HB.out.size; first | omega | (simp; omega)) (fun q hq => (HA.out.lt q hq).1)
            have HO1 := Lib.hid hown2
            have HB1 := Lib.hid hb1
            clear hown1 hgrow hown2 hb1
            go_wp2
            go_roundw
            case rel => exact ⟨k + 1, by omega, by go_num, HO1.out, HB1.out, HS1.out⟩
            case measure => simp [intOf]; omega
        · have HW2 : [e, d].any noHeight = !false := by
            by_cases z : heightZ e
            · simp [noHeight_true (fun y => hj ⟨z, y⟩)]
            · simp [noHeight_true z]
          have HNo : Hid (¬ (l.length ≤ 10000 ∧ inZ o ∧ allSecs l l.length)) := fun z => by
            have := z.2.2 k (by rw [HN.out]; exact hkn)
            rw [secOk, HH.out, HD.out] at this
            exact hj ⟨this.2.1, this.2.2⟩
          clear hj
          go_wp2_with (first | (go_at_call 22; refine (within_lit [t] true HW1 _ rfl (one_len _) _ rfl _ (by simp)).mono ?_; rintro _ w' ⟨rfl, rfl⟩) | (go_at_call 23; refine (heights_lit [e, d] false HW2 _ rfl (two_len _ _) _ rfl _ (by simp)).mono ?_; rintro _ w' ⟨rfl, rfl⟩))
          go_ret
          exact Pinned.no HNo.out (below_three HB.out _ _ _)
      · have HW1 : [t].any farZ = !false := by simp [far_true hi]
        have HNo : Hid (¬ (l.length ≤ 10000 ∧ inZ o ∧ allSecs l l.length)) := fun z => by
          have := z.2.2 k (by rw [HN.out]; exact hkn)
          rw [secOk, HT.out] at this
          exact hi this.1
        clear hi
        go_wp2_with (go_at_call 22; refine (within_lit [t] false HW1 _ rfl (one_len _) _ rfl _ (by simp)).mono ?_; rintro _ w' ⟨rfl, rfl⟩)
        go_ret
        exact Pinned.no HNo.out ((HB.out.alloc HB.out.size _).alloc (by have := HB.out.size; first | omega | (simp; omega)) _)
    · obtain rfl : k = n := by omega
      have hs := ownsRow_isInts hown
      have e : pinned l o = pinsTo l o k := by rw [pinned_yes ⟨by rw [HN.out]; exact hn, HO.out, by rw [HN.out]; exact hall⟩, HN.out]
      rw [← e] at hs
      have HI := Lib.hid hs
      clear hown hbl hall hs e
      go_wp2_with fail
      go_ret
      exact ⟨_, rfl, HI.out, HB.out⟩

/-- PINNED OF PACKAGE scroll. -/
theorem pinned_any (v : Value) (l : List Rec) (o : Int) (w : World) (hv : IsRecs 3 w v l) :
    Calls Try.prog 15 #[v, .int .i64 o] w (Pinned l o w) := by
  by_cases hn : l.length ≤ 10000
  · by_cases ho : inZ o
    · exact pinned_in v l o w hv hn ho
    · obtain ⟨a, cap, rfl, _, _, _⟩ := hv
      exact pinned_far a _ cap l o w hn ho
  · obtain ⟨a, cap, rfl, _, _, _⟩ := hv
    exact pinned_long a _ cap l o w rfl (by omega) (by omega)
end Go.Proofs.Ytchlnelpgjjmgaa
