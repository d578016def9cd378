/- Pinned of the reference. -/
import Derived.Test.YtchlnelpgjjmgaaPinned
import Derived.Test.YtchlnelpgjjmgaaRefClamp
import Derived.Deep.RegionHeld3
import Derived.Deep.AppendLies
namespace Go.Proofs.Ytchlnelpgjjmgaa
set_option linter.unusedVariables false
set_option linter.unusedSimpArgs false
open Go.RowKit

set_option maxHeartbeats 400000 in
theorem rpinned_far (v : Value) (l : List Rec) (o : Int) (w : World) (ho : ¬ inZ o) :
    Calls Try.prog 19 #[v, .int .i64 o] w (Pinned l o w) := by
  have D1 := Lib.hid (dec_no ho)
  have HO := Lib.hid ho
  clear ho
  go_enter Try.func19, Try.ntmps19
  go_wp2_with fail
  refine (rwithin_any _ false D1.out _).mono ?_
  rintro e w' ⟨rfl, rfl⟩
  go_wp2
  go_ret
  exact Pinned.no (fun h => HO.out h.2.1) (Below.refl _ _)

set_option maxHeartbeats 400000 in
theorem rpinned_long (a : Option Addr) (n cap : Nat) (l : List Rec) (o : Int) (w : World) (HN : Hid (l.length = n)) (ho : inZ o) (hn : 10000 < n) (hm : n ≤ maxLen) :
    Calls Try.prog 19 #[.slice a n cap, .int .i64 o] w (Pinned l o w) := by
  unfold maxLen at hm
  have D1 := Lib.hid (dec_yes ho)
  have hn' : (10000 : Int) < (n : Int) := by omega
  clear ho
  go_enter Try.func19, Try.ntmps19
  go_wp2_with fail
  refine (rwithin_any _ true D1.out _).mono ?_
  rintro e w' ⟨rfl, rfl⟩
  go_wp2
  go_ret
  exact Pinned.no (fun h => by have := HN.out; omega) (Below.refl _ _)

set_option maxHeartbeats 3000000 in
set_option maxRecDepth 100000 in
theorem rpinned_in (v : Value) (l : List Rec) (o : Int) (w : World) (hv : IsRecs 3 w v l) (hn : l.length ≤ 10000) (ho : inZ o) :
    Calls Try.prog 19 #[v, .int .i64 o] w (Pinned l o w) := by
  obtain ⟨i0, hi0, hz0, hz1, hz2⟩ := info_parts info_int
  have D1 := Lib.hid (dec_yes ho)
  have HO := Lib.hid ho
  obtain ⟨o0, o1⟩ := ho
  obtain ⟨a, cap, rfl, h1, h2, h3⟩ := hv
  obtain ⟨n, hn'⟩ : ∃ n, l.length = n := ⟨_, rfl⟩
  rw [hn'] at h1 h3 hn ⊢
  have H3 := Lib.hid h3
  have HN := Lib.hid hn'
  clear h3 hn' h2
  go_enter Try.func19, Try.ntmps19
  go_wp2_with fail
  refine (rwithin_any _ true D1.out _).mono ?_
  rintro e w' ⟨rfl, rfl⟩
  go_wp2_with fail
  go_loopw [5, 6] (fun r i wr => ∃ k : Nat, k ≤ n ∧ i = .int .i64 k ∧ wr.ownsRow w.heap.size 3 1 r k ((pinsTo l o k).map (Value.int .i64)) ∧ Below w.heap.size w wr ∧ allSecs l k) (fun _ i _ => n - (intOf i).toNat)
  case atStart => exact ⟨0, Nat.zero_le _, rfl, World.ownsRow_nil _ _ _ _, Below.refl _ _, fun _ h => absurd h (Nat.not_lt_zero _)⟩
  case round =>
    obtain ⟨k, hk, rfl, hown, hbl, hall⟩ := hrel
    have HA := Lib.hid hown
    have HB := Lib.hid hbl
    have HS := Lib.hid hall
    by_cases hkn : k < n
    · obtain ⟨b, off, rfl, hlt, hcell⟩ := H3.out (by omega)
      have hc0 := (hbl.cell (p := ⟨b, off + k * 3 + 0, none⟩) hlt).trans (hcell k hkn 0 (by omega))
      have hc1 := (hbl.cell (p := ⟨b, off + k * 3 + 1, none⟩) hlt).trans (hcell k hkn 1 (by omega))
      have hc2 := (hbl.cell (p := ⟨b, off + k * 3 + 2, none⟩) hlt).trans (hcell k hkn 2 (by omega))
      rw [Nat.add_zero] at hc0
      obtain ⟨t, ht⟩ : ∃ t, gf l k 0 = t := ⟨_, rfl⟩
      obtain ⟨e, hh⟩ : ∃ e, gf l k 1 = e := ⟨_, rfl⟩
      obtain ⟨d, hd⟩ : ∃ d, gf l k 2 = d := ⟨_, rfl⟩
      rw [ht] at hc0
      rw [hh] at hc1
      rw [hd] at hc2
      have HT := Lib.hid ht
      have HH := Lib.hid hh
      have HD := Lib.hid hd
      have hkn' : (k : Int) < (n : Int) := by omega
      clear hcell hown hbl hall ht hh hd
      by_cases hi : inZ t
      · have E1 := Lib.hid (dec_yes hi)
        by_cases hj : heightZ e
        · have E2 := Lib.hid (dec_yes hj)
          by_cases hq : heightZ d
          · have E3 := Lib.hid (dec_yes hq)
            obtain ⟨t0, t1⟩ := hi
            obtain ⟨p0, p1⟩ := hj
            obtain ⟨q0, q1⟩ := hq
            have HS1 : Hid (allSecs l (k + 1)) := by
              intro i hi
              by_cases ci : i = k
              · subst ci
                exact ⟨by rw [HT.out]; exact ⟨t0, t1⟩, by rw [HH.out]; exact ⟨p0, p1⟩, by rw [HD.out]; exact ⟨q0, q1⟩⟩
              · exact HS.out i (by omega)
            have HM : Hid (pinAt o t e d = (if t < (if t + e - d < o then t + e - d else o) then (if t + e - d < o then t + e - d else o) else t)) := by show _ = _; unfold pinAt; repeat' split; all_goals omega
            go_wp2_with fail
            refine (rwithin_any _ true E1.out _).mono ?_
            rintro _ w' ⟨rfl, rfl⟩
            go_wp2_with fail
            refine (rsize_any _ true E2.out _).mono ?_
            rintro _ w' ⟨rfl, rfl⟩
            go_wp2_with fail
            refine (rsize_any _ true E3.out _).mono ?_
            rintro _ w' ⟨rfl, rfl⟩
            go_wp2_with fail
            have hx1 : IntKind.i64.wrap (t + e) = t + e := IntWalk.i64_in _ (by omega)
            have hx2 : IntKind.i64.wrap (t + e - d) = t + e - d := IntWalk.i64_in _ (by omega)
            have hne : u5.ownBlock ≠ some b := fun e => by have := (HA.out.lt b e).1; omega
            have hbw : b < wr.heap.size := Nat.lt_of_lt_of_le hlt HB.out.size
            go_region_held3 (fun w' => w'.cell? ⟨b, off + k * 3, none⟩ = some (.int .i64 t) ∧ w'.cell? ⟨b, off + k * 3 + 1, none⟩ = some (.int .i64 e) ∧ w'.cell? ⟨b, off + k * 3 + 2, none⟩ = some (.int .i64 d)) (first | go_keep | (go_split_ands; refine ⟨?_, ?_, ?_⟩; (rw [hgrow.cell_far _ (by simp; omega) (Ne.symm hne)]; assumption); (rw [hgrow.cell_far _ (by simp; omega) (Ne.symm hne)]; assumption); (rw [hgrow.cell_far _ (by simp; omega) (Ne.symm hne)]; assumption))) ((refine step_append_lies _ (by rfl) _ _ _ (by rfl) w.heap.size 3 i0 _ 1 8 Try.underlying37 hi0 hz0 hz1 hz2 rfl (by omega) _ k ((pinsTo l o k).map (Value.int .i64)) (by rfl) ((HA.out.alloc _).drew) ⟨wr.heap.size, 0, none⟩ 1 1 [.int .i64 (if t < (if t + e - d < o then t + e - d else o) then (if t + e - d < o then t + e - d else o) else t)] (by rfl) (by rfl) (World.news_of_block (cs := #[.int .i64 (if t < (if t + e - d < o then t + e - d else o) then (if t + e - d < o then t + e - d else o) else t)]) (t := 3) (fr := (0, 0)) (heap_alloc_new wr _)) (by simp [Value.oneCell']) (by omega) (by unfold maxLen; omega) (by omega) (by have := HB.out.size; simp; omega) (wr.heap.size + 1) (by simp) ?_; intro gg cap' w1 hown1 hgrow hat hlt1))
            have hown2 : w1.ownsRow w.heap.size 3 1 (.slice (some ⟨gg, 0, none⟩) (k + 1) cap') (k + 1) ((pinsTo l o (k + 1)).map (Value.int .i64)) := by
              rw [pinsTo_succ, List.map_append, HT.out, HH.out, HD.out, HM.out]; exact hown1
            have hb1 : Below w.heap.size w w1 := ((HB.out.alloc HB.out.size _).drew).grown hgrow (by have := HB.out.size; simp; omega) (fun q hq => (HA.out.lt q hq).1)
            have HO1 := Lib.hid hown2
            have HB1 := Lib.hid hb1
            clear hown1 hgrow hown2 hb1 hat hlt1
            go_wp2
            go_roundw
            case rel => exact ⟨k + 1, by omega, by go_num, HO1.out, HB1.out, HS1.out⟩
            case measure => simp [intOf]; omega
          · have E3 := Lib.hid (dec_no hq)
            have HNo : Hid (¬ (l.length ≤ 10000 ∧ inZ o ∧ allSecs l l.length)) := fun z => by
              have := z.2.2 k (by rw [HN.out]; exact hkn)
              rw [secOk, HH.out, HD.out] at this
              exact hq this.2.2
            clear hq hi hj
            go_wp2_with fail
            refine (rwithin_any _ true E1.out _).mono ?_
            rintro _ w' ⟨rfl, rfl⟩
            go_wp2_with fail
            refine (rsize_any _ true E2.out _).mono ?_
            rintro _ w' ⟨rfl, rfl⟩
            go_wp2_with fail
            refine (rsize_any _ false E3.out _).mono ?_
            rintro _ w' ⟨rfl, rfl⟩
            go_wp2
            go_ret
            exact Pinned.no HNo.out HB.out
        · have E2 := Lib.hid (dec_no hj)
          have HNo : Hid (¬ (l.length ≤ 10000 ∧ inZ o ∧ allSecs l l.length)) := fun z => by
            have := z.2.2 k (by rw [HN.out]; exact hkn)
            rw [secOk, HH.out, HD.out] at this
            exact hj this.2.1
          clear hj hi
          go_wp2_with fail
          refine (rwithin_any _ true E1.out _).mono ?_
          rintro _ w' ⟨rfl, rfl⟩
          go_wp2_with fail
          refine (rsize_any _ false E2.out _).mono ?_
          rintro _ w' ⟨rfl, rfl⟩
          go_wp2
          go_ret
          exact Pinned.no HNo.out HB.out
      · have E1 := Lib.hid (dec_no hi)
        have HNo : Hid (¬ (l.length ≤ 10000 ∧ inZ o ∧ allSecs l l.length)) := fun z => by
          have := z.2.2 k (by rw [HN.out]; exact hkn)
          rw [secOk, HT.out] at this
          exact hi this.1
        clear hi
        go_wp2_with fail
        refine (rwithin_any _ false E1.out _).mono ?_
        rintro _ w' ⟨rfl, rfl⟩
        go_wp2
        go_ret
        exact Pinned.no HNo.out HB.out
    · obtain rfl : k = n := by omega
      have hs := ownsRow_isInts hown
      have e : pinned l o = pinsTo l o k := by rw [pinned_yes ⟨by rw [HN.out]; exact hn, HO.out, by rw [HN.out]; exact hall⟩, HN.out]
      rw [← e] at hs
      have HI := Lib.hid hs
      clear hown hbl hall hs e
      go_wp2_with fail
      go_ret
      exact ⟨_, rfl, HI.out, HB.out⟩

/-- PINNED OF THE REFERENCE. -/
theorem rpinned_any (v : Value) (l : List Rec) (o : Int) (w : World) (hv : IsRecs 3 w v l) :
    Calls Try.prog 19 #[v, .int .i64 o] w (Pinned l o w) := by
  by_cases ho : inZ o
  · by_cases hn : l.length ≤ 10000
    · exact rpinned_in v l o w hv hn ho
    · obtain ⟨a, cap, rfl, _, _, _⟩ := hv
      exact rpinned_long a _ cap l o w rfl ho (by omega) (by omega)
  · exact rpinned_far v l o w ho
end Go.Proofs.Ytchlnelpgjjmgaa
