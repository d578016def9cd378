/- The walk of the law ScrollPins. -/
import Derived.Test.YtchlnelpgjjmgaaPinned
import Derived.Test.YtchlnelpgjjmgaaAwake23
import Derived.Test.YtchlnelpgjjmgaaBits
import Derived.Deep.RegionHeld3
import Derived.Deep.AppendLies
namespace Go.Proofs.Ytchlnelpgjjmgaa
open Go.RowKit

/-- The sections that the law builds. -/
def secOf (l : List Rec) (i : Nat) : Rec := [(gf l i 0).tmod 10000, gf l i 2 % 64 + gf l i 1 % 512, gf l i 2 % 64]
def secsTo (l : List Rec) (k : Nat) : List Rec := (List.range k).map (secOf l)
theorem secsTo_len (l : List Rec) (k : Nat) : (secsTo l k).length = k := by simp [secsTo]
theorem secsTo_succ (l : List Rec) (k : Nat) : secsTo l (k + 1) = secsTo l k ++ [secOf l k] := by simp [secsTo, List.range_succ]
theorem secsTo_wide (l : List Rec) (k : Nat) : wide 3 (secsTo l k) := by
  intro r hr
  simp only [secsTo, List.mem_map] at hr
  obtain ⟨i, _, rfl⟩ := hr
  rfl
theorem secs_gf (l : List Rec) (k i : Nat) (h : i < k) : gf (secsTo l k) i 0 = (gf l i 0).tmod 10000 ∧ gf (secsTo l k) i 1 = gf l i 2 % 64 + gf l i 1 % 512 ∧ gf (secsTo l k) i 2 = gf l i 2 % 64 := by
  have e : (secsTo l k).getD i [] = secOf l i := by simp [secsTo, h]
  refine ⟨?_, ?_, ?_⟩
  all_goals (show ((secsTo l k).getD i []).getD _ 0 = _; rw [e]; rfl)

theorem info_sec : (Try.prog.info? 36).map (fun i => (i.zero, i.size, i.bytes)) = some (some (.agg #[.int .i64 0, .int .i64 0, .int .i64 0]), 3, 24) := by kernel_rfl

set_option maxHeartbeats 2000000 in
set_option maxRecDepth 100000 in
theorem pins_in (v : Value) (l : List Rec) (v1 : Int) (w : World) (hv : IsRecs 3 w v l) (hn : l.length ≤ 50) :
    Calls Try.prog 6 #[v, .int .i64 v1] w (True_ w) := by
  obtain ⟨i0, hi0, hz0, hz1, hz2⟩ := info_parts info_sec
  obtain ⟨a, cap, rfl, h1, h2, h3⟩ := hv
  obtain ⟨n, hn'⟩ : ∃ n, l.length = n := ⟨_, rfl⟩
  rw [hn'] at h1 h3 hn ⊢
  have H3 := Lib.hid h3
  have HN := Lib.hid hn'
  clear h3 hn' h2
  have hm63 := fun x => and_63 x
  have hm511 := fun x => and_511 x
  go_enter Try.func6, Try.ntmps6
  go_wp2_with fail
  go_loopw [5, 6] (fun r i wr => ∃ k : Nat, k ≤ n ∧ i = .int .i64 k ∧ wr.ownsRow w.heap.size 36 3 r k (recCells (secsTo l k)) ∧ Below w.heap.size w wr) (fun _ i _ => n - (intOf i).toNat)
  case atStart => exact ⟨0, Nat.zero_le _, rfl, World.ownsRow_nil _ _ _ _, Below.refl _ _⟩
  case round =>
    obtain ⟨k, hk, rfl, hown, hbl⟩ := hrel
    have HA := Lib.hid hown
    have HB := Lib.hid hbl
    by_cases hkn : k < n
    · obtain ⟨b, off, rfl, hlt, hcell⟩ := H3.out (by omega)
      have hc0 := (hbl.cell (p := ⟨b, off + k * 3 + 0, none⟩) hlt).trans (hcell k hkn 0 (by omega))
      have hc1 := (hbl.cell (p := ⟨b, off + k * 3 + 1, none⟩) hlt).trans (hcell k hkn 1 (by omega))
      have hc2 := (hbl.cell (p := ⟨b, off + k * 3 + 2, none⟩) hlt).trans (hcell k hkn 2 (by omega))
      rw [Nat.add_zero] at hc0
      have ht := tmod_range (gf l k 0) 10000 (by omega)
      clear hcell hown hbl
      go_wp2_with fail
      have hwr : IntKind.i64.wrap (gf l k 2 % 64 + gf l k 1 % 512) = gf l k 2 % 64 + gf l k 1 % 512 := IntWalk.i64_in _ (by omega)
      have hne : u5.ownBlock ≠ some b := fun e => by have := (HA.out.lt b e).1; omega
      have hbw : b < wr.heap.size := Nat.lt_of_lt_of_le hlt HB.out.size
      go_region_held3 (fun w' => w'.cell? ⟨b, off + k * 3, none⟩ = some (.int .i64 (gf l k 0)) ∧ w'.cell? ⟨b, off + k * 3 + 1, none⟩ = some (.int .i64 (gf l k 1))) (first | go_keep | (go_split_ands; refine ⟨?_, ?_⟩; (rw [hgrow.cell_far _ (by simp; omega) (Ne.symm hne)]; assumption); (rw [hgrow.cell_far _ (by simp; omega) (Ne.symm hne)]; assumption))) ((refine step_append_lies _ (by rfl) _ _ _ (by rfl) w.heap.size 36 i0 _ 3 24 Try.underlying34 hi0 hz0 hz1 hz2 rfl (by omega) _ k (recCells (secsTo l k)) (by rfl) ((HA.out.alloc _).drew) ⟨wr.heap.size, 0, none⟩ 1 1 [.int .i64 ((gf l k 0).tmod 10000), .int .i64 (gf l k 2 % 64 + gf l k 1 % 512), .int .i64 (gf l k 2 % 64)] (by rfl) (by rfl) (World.news_of_block (cs := #[.int .i64 ((gf l k 0).tmod 10000), .int .i64 (gf l k 2 % 64 + gf l k 1 % 512), .int .i64 (gf l k 2 % 64)]) (t := 36) (fr := (0, 0)) (heap_alloc_new wr _)) (by simp [Value.oneCell']) (by omega) (by unfold maxLen; omega) (by omega) (by have := HB.out.size; simp; omega) (wr.heap.size + 1) (by simp) ?_; intro gg cap' w1 hown1 hgrow hat hlt1))
      have hown2 : w1.ownsRow w.heap.size 36 3 (.slice (some ⟨gg, 0, none⟩) (k + 1) cap') (k + 1) (recCells (secsTo l (k + 1))) := by
        rw [secsTo_succ, recCells_append]; exact hown1
      have hb1 : Below w.heap.size w w1 := ((HB.out.alloc HB.out.size _).drew).grown hgrow (by have := HB.out.size; simp; omega) (fun q hq => (HA.out.lt q hq).1)
      have HO1 := Lib.hid hown2
      have HB1 := Lib.hid hb1
      clear hown1 hgrow hown2 hb1 hat hlt1
      go_wp2
      go_roundw
      case rel => exact ⟨k + 1, by omega, by go_num, HO1.out, HB1.out⟩
      case measure => simp [intOf]; omega
    · obtain rfl : k = n := by omega
      have hR := ownsRow_isRecs hown (secsTo_len l k).symm (secsTo_wide l k)
      have hgf := fun i hi => secs_gf l k i hi
      obtain ⟨R, hRe⟩ : ∃ R, secsTo l k = R := ⟨_, rfl⟩
      have hRl : R.length = k := by rw [← hRe]; exact secsTo_len l k
      rw [hRe] at hR hgf
      have HG : Hid (∀ i, i < k → -10000 < gf R i 0 ∧ gf R i 0 < 10000 ∧ gf R i 2 ≤ gf R i 1 ∧ gf R i 1 < 1000 ∧ 0 ≤ gf R i 2 ∧ gf R i 2 < 64) := fun i hi => by
        obtain ⟨g0, g1, g2⟩ := hgf i hi
        have := tmod_range (gf l i 0) 10000 (by omega)
        rw [g0, g1, g2]
        omega
      have hall : allSecs R R.length := fun i hi => by
        have := HG.out i (by omega)
        exact ⟨⟨by omega, by omega⟩, ⟨by omega, by omega⟩, ⟨by omega, by omega⟩⟩
      have ho := tmod_range v1 10000 (by omega)
      obtain ⟨o, hoe⟩ : ∃ o, v1.tmod 10000 = o := ⟨_, rfl⟩
      rw [hoe] at ho
      have HP : Hid (pinned R o = pinsTo R o k) := by
        show _ = _
        rw [pinned_yes ⟨by omega, ⟨by omega, by omega⟩, hall⟩, hRl]
      have HR := Lib.hid hR
      clear hR hgf hRe hown hbl hall
      have HL := Lib.hid hRl
      clear hRl
      go_wp2_with fail
      refine (pinned_any _ R _ _ HR.out).mono ?_
      rintro e w2 ⟨pv, rfl, hpv, hb2⟩
      rw [HP.out] at hpv
      have hr2 := HR.out.of_below hb2
      obtain ⟨pa, pc, rfl, p1, p2, p3⟩ := hpv
      rw [pinsTo_len] at p1 p3 ⊢
      obtain ⟨ra, rc, hre, r1, r2, r3⟩ := hr2
      rw [HL.out] at r1 r3 hre
      have P3 := Lib.hid p3
      have R3 := Lib.hid r3
      have HB2 := Lib.hid (HB.out.trans (hb2.mono HB.out.size))
      clear p1 p2 p3 r1 r2 r3 hb2 HB HA
      subst hre
      go_wp2
      go_loopw [9] (fun i wr2 => ∃ j nd : Nat, j ≤ k ∧ i = .int .i64 j ∧ wr2 = w2.drewN nd) (fun i _ => k - (intOf i).toNat)
      case atStart => exact ⟨0, 0, Nat.zero_le _, rfl, rfl⟩
      case round =>
        obtain ⟨j, nd, hj, rfl, rfl⟩ := hrel
        by_cases hjk : j < k
        · obtain ⟨b, off, rfl, _, hpc⟩ := P3.out (by omega)
          obtain ⟨b', off', rfl, _, hrc⟩ := R3.out (by omega)
          have c0 := hpc j hjk
          have e0 := hrc j hjk 0 (by omega)
          have e1 := hrc j hjk 1 (by omega)
          have e2 := hrc j hjk 2 (by omega)
          rw [Nat.add_zero] at e0
          have hpe : gz (pinsTo R o k) j = pinAt o (gf R j 0) (gf R j 1) (gf R j 2) := by simp [gz, pinsTo, hjk]
          rw [hpe] at c0
          obtain ⟨g0, g1, g2, g3, g4, g5⟩ := HG.out j hjk
          obtain ⟨t, ht⟩ : ∃ t, gf R j 0 = t := ⟨_, rfl⟩
          obtain ⟨h, hh⟩ : ∃ h, gf R j 1 = h := ⟨_, rfl⟩
          obtain ⟨d, hd⟩ : ∃ d, gf R j 2 = d := ⟨_, rfl⟩
          rw [ht, hh, hd] at c0
          rw [ht] at e0 g0 g1
          rw [hh] at e1 g2 g3
          rw [hd] at e2 g2 g4 g5
          have hp : pinAt o t h d = max t (min o (t + h - d)) := by rw [pinAt, if_pos g2]
          obtain ⟨q, hq⟩ : ∃ q, pinAt o t h d = q := ⟨_, rfl⟩
          rw [hq] at hp c0
          have hq1 : t ≤ q ∧ q ≤ t + h - d := by omega
          clear hpc hrc hpe ht hh hd hq
          have n1 : decide (q < t) = false := by simp; omega
          have n2 : decide (t + h - d < q) = false := by simp; omega
          by_cases x1 : o < t
          · have y1 : (q != t) = false := by have : q = t := by omega
                                             simp [this]
            have d1 : decide (o ≤ t) = true := by simp; omega
            have d2 : decide (t ≤ o) = false := by simp; omega
            clear hp
            go_wp2
            go_quiet (fail)
            go_wp2
            go_quiet (fail)
            go_wp2
            go_roundw
            case rel => exact ⟨j + 1, _, by omega, by go_num, rfl⟩
            case measure => simp [intOf]; omega
          · by_cases x2 : o = t
            · have y1 : (q != t) = false := by have : q = t := by omega
                                               simp [this]
              have y2 : (q != o) = false := by have : q = o := by omega
                                               simp [this]
              have d1 : decide (o ≤ t) = true := by simp; omega
              have d2 : decide (t ≤ o) = true := by simp; omega
              have d3 : decide (o ≤ t + h - d) = true := by simp; omega
              clear hp x1 x2
              go_wp2
              go_quiet (fail)
              go_wp2
              go_quiet (fail)
              go_wp2
              go_roundw
              case rel => exact ⟨j + 1, _, by omega, by go_num, rfl⟩
              case measure => simp [intOf]; omega
            · have d1 : decide (o ≤ t) = false := by simp; omega
              have d2 : decide (t ≤ o) = true := by simp; omega
              by_cases x3 : o ≤ t + h - d
              · have y2 : (q != o) = false := by have : q = o := by omega
                                                 simp [this]
                have d3 : decide (o ≤ t + h - d) = true := by simp; omega
                clear hp x1 x2
                go_wp2
                go_quiet (fail)
                go_wp2
                go_quiet (fail)
                go_wp2
                go_roundw
                case rel => exact ⟨j + 1, _, by omega, by go_num, rfl⟩
                case measure => simp [intOf]; omega
              · have d3 : decide (o ≤ t + h - d) = false := by simp; omega
                clear hp x1 x2
                go_wp2
                go_quiet (fail)
                go_wp2
                go_quiet (fail)
                go_wp2
                go_roundw
                case rel => exact ⟨j + 1, _, by omega, by go_num, rfl⟩
                case measure => simp [intOf]; omega
        · obtain rfl : j = k := by omega
          go_wp2_with (go_at_call 11; refine (awake_any _).mono ?_; rintro e w3 ⟨rfl, hb3⟩)
          go_ret
          exact ⟨rfl, (below_drewN HB2.out nd).trans (hb3.mono HB2.out.size)⟩

set_option maxHeartbeats 400000 in
theorem pins_long (a : Option Addr) (n cap : Nat) (v1 : Int) (w : World) (hn : 50 < n) (hm : n ≤ maxLen) :
    Calls Try.prog 6 #[.slice a n cap, .int .i64 v1] w (True_ w) := by
  unfold maxLen at hm
  have hn' : (50 : Int) < (n : Int) := by omega
  go_enter Try.func6, Try.ntmps6
  go_wp2_with fail
  go_ret
  exact ⟨rfl, Below.refl _ _⟩

theorem open_secs {H : Type} {enc : TypeId × Value → H} {W : World} {base : Nat} {v : Value} {d : DataW H} {p : List MemPlace} (hok : Value.okWide Try.prog W .any base 34 v)
    (h : DataW.Trod enc Try.prog W 0 (fun _ => true) true 34 v d p) : ∃ l, InRecs 3 W v l :=
  open_recs Try.underlying34 Try.underlying36 (fun j hj => by
    match j, hj with
    | 0, _ => exact ⟨_, rfl, rfl, rfl⟩
    | 1, _ => exact ⟨_, rfl, rfl, rfl⟩
    | 2, _ => exact ⟨_, rfl, rfl, rfl⟩) (by kernel_rfl) (by omega) hok h

theorem walk_ScrollPins (v : Value) (l : List Rec) (u1 : Value) (v1 : Int) (w : World) (hv : InRecs 3 w v l) (h1 : u1 = .int .i64 v1 ∧ (Lit.int .i64 v1).wf = true) :
    Calls Try.prog 6 #[v, u1] w (True_ w) := by
  obtain ⟨rfl, -⟩ := h1
  by_cases hn : l.length ≤ 50
  · exact pins_in v l v1 w hv.1 hn
  · obtain ⟨a, cap, rfl, k1, k2, _⟩ := hv.1
    exact pins_long a _ cap v1 w (by omega) (by omega)
end Go.Proofs.Ytchlnelpgjjmgaa
