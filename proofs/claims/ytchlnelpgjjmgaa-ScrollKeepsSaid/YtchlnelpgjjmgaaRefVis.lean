/- within, size, rows, Tops of the reference. -/
import Derived.Test.YtchlnelpgjjmgaaVisPlain
import Derived.Deep.RegionHeld3
import Derived.Deep.RegionLaw
import Derived.Deep.AppendLies
namespace Go.Proofs.Ytchlnelpgjjmgaa
open Go.RowKit

theorem ret_is {b c : Bool} (h : b = c) : Ending.returned (.bool b) = .returned (.bool c) := by rw [h]
set_option maxHeartbeats 400000 in
theorem rwithin_any (n : Int) (b : Bool) (hb : b = decide (inZ n)) (w : World) : Calls Try.prog 26 #[.int .i64 n] w fun e w' => e = .returned (.bool b) ∧ w = w' := by
  have HB := Lib.hid hb
  clear hb
  go_enter Try.func26, Try.ntmps26
  go_wp2
  all_goals
    go_ret
    exact ⟨ret_bool (by rw [HB.out, Bool.eq_iff_iff, show (decide (inZ n) = true) ↔ inZ n from decide_eq_true_iff]; simp [inZ]; try omega), rfl⟩
set_option maxHeartbeats 400000 in
theorem rsize_any (n : Int) (b : Bool) (hb : b = decide (heightZ n)) (w : World) : Calls Try.prog 27 #[.int .i64 n] w fun e w' => e = .returned (.bool b) ∧ w = w' := by
  have HB := Lib.hid hb
  clear hb
  go_enter Try.func27, Try.ntmps27
  go_wp2
  all_goals
    go_ret
    exact ⟨ret_bool (by rw [HB.out, Bool.eq_iff_iff, show (decide (heightZ n) = true) ↔ heightZ n from decide_eq_true_iff]; simp [heightZ]; try omega), rfl⟩

set_option maxHeartbeats 400000 in
theorem rrows_any (v : Value) (l : List Strip) (w : World) (hv : IsStrips w v l) :
    Calls Try.prog 28 #[v] w fun e w' => e = .returned (.bool (decide (l.length ≤ 10000) && rowsOk l)) ∧ w = w' := by
  obtain ⟨a, cap, rfl, h1, h2, h3⟩ := hv
  obtain ⟨n, hn⟩ : ∃ n, l.length = n := ⟨_, rfl⟩
  rw [hn] at h1 h3 ⊢
  have H3 := Lib.hid h3
  have HN := Lib.hid hn
  clear h3 hn
  unfold maxLen at h2
  by_cases hl : n ≤ 10000
  · have hl' : (n : Int) ≤ 10000 := by omega
    have HR : Hid (∀ b, b = rowsOk l → (decide (n ≤ 10000) && rowsOk l) = b) := fun b hb => by rw [hb]; simp; intro _; exact hl
    have HI := Lib.hid (rowsOk_iff l)
    go_enter Try.func28, Try.ntmps28
    go_wp2_with fail
    go_loop [3] (fun i => ∃ k : Nat, k ≤ n ∧ i = .int .i64 k ∧ goodRows l k) (fun i => n - (intOf i).toNat)
    case atStart => exact ⟨0, Nat.zero_le _, rfl, fun _ h => absurd h (Nat.not_lt_zero _)⟩
    case round =>
      obtain ⟨k, hk, rfl, hg⟩ := hrel
      have HG := Lib.hid hg
      clear hg
      by_cases hkn : k < n
      · obtain ⟨b, off, rfl, _, hcell⟩ := H3.out (by omega)
        have hc := (hcell k hkn).2
        clear hcell
        by_cases hh : heightZ (gh l k)
        · have HD : Hid (true = decide (heightZ (gh l k))) := by show _ = _; simp [hh]
          have HH := Lib.hid hh
          clear hh
          go_wp2_with fail
          refine (rsize_any _ true HD.out _).mono ?_
          rintro e w' ⟨rfl, rfl⟩
          go_wp2_with fail
          go_round
          case rel => exact ⟨k + 1, by omega, by go_num, fun j hj => by
            by_cases c : j = k
            · subst c; exact HH.out
            · exact HG.out j (by omega)⟩
          case measure => simp [intOf]; omega
        · have HD : Hid (false = decide (heightZ (gh l k))) := by show _ = _; simp [hh]
          have HH := Lib.hid hh
          clear hh
          go_wp2_with fail
          refine (rsize_any _ false HD.out _).mono ?_
          rintro e w' ⟨rfl, rfl⟩
          go_wp2_with fail
          go_ret
          refine ⟨ret_is (HR.out false ?_).symm, rfl⟩
          cases hr : rowsOk l with
          | false => rfl
          | true => exact absurd (HI.out.1 hr k (by rw [HN.out]; exact hkn)) HH.out
      · obtain rfl : k = n := by omega
        go_wp2_with fail
        go_ret
        refine ⟨ret_is ?_, rfl⟩
        have := HR.out true (HI.out.2 (by rw [HN.out]; exact HG.out)).symm
        simp at this
        simp [this]
  · have hl' : (10000 : Int) < (n : Int) := by omega
    have HR : Hid ((decide (n ≤ 10000) && rowsOk l) = false) := by show _ = _; simp; intro h; omega
    go_enter Try.func28, Try.ntmps28
    go_wp2_with fail
    go_ret
    exact ⟨ret_is HR.out.symm, rfl⟩

/-- The tops of the first k rows, and the end of the last of them. -/
def topsTo (l : List Strip) (k : Nat) : List Int := (List.range (k + 1)).map (topTo l)
theorem topsTo_len (l : List Strip) (k : Nat) : (topsTo l k).length = k + 1 := by simp [topsTo]
theorem topsTo_succ (l : List Strip) (k : Nat) : topsTo l (k + 1) = topsTo l k ++ [topTo l (k + 1)] := by simp [topsTo, List.range_succ]
theorem topsTo_at (l : List Strip) (k j : Nat) (h : j ≤ k) : gz (topsTo l k) j = topTo l j := by
  have : j < k + 1 := by omega
  simp [gz, topsTo, this]

def Topped (l : List Strip) (w : World) (e : Ending) (w' : World) : Prop := ∃ v, e = .returned v ∧ IsInts w' v (topsTo l l.length) ∧ Below w.heap.size w w'

set_option maxHeartbeats 1000000 in
set_option maxRecDepth 100000 in
theorem tops_any (v : Value) (l : List Strip) (w : World) (hv : IsStrips w v l) (hn : l.length ≤ 10000) (hg : goodRows l l.length) :
    Calls Try.prog 29 #[v] w (Topped l w) := by
  obtain ⟨i0, hi0, hz0, hz1, hz2⟩ := info_parts info_int
  obtain ⟨a, cap, rfl, h1, h2, h3⟩ := hv
  obtain ⟨n, hn'⟩ : ∃ n, l.length = n := ⟨_, rfl⟩
  rw [hn'] at h1 h3 hn hg ⊢
  have H3 := Lib.hid h3
  have HN := Lib.hid hn'
  have HT : Hid (∀ k, k ≤ n → 0 ≤ topTo l k ∧ topTo l k ≤ k * 1099511627776) := fun k hk => topTo_bd hg k hk
  have HG := Lib.hid hg
  clear h3 hn' hg h2
  go_enter Try.func29, Try.ntmps29
  go_wp2_with fail
  go_loopw [3, 4] (fun r i wr => ∃ (k g c : Nat), k ≤ n ∧ i = .int .i64 k ∧ r = .slice (some ⟨g, 0, none⟩) (k + 1) c ∧ wr.ownsRow w.heap.size 3 1 (.slice (some ⟨g, 0, none⟩) (k + 1) c) (k + 1) ((topsTo l k).map (Value.int .i64)) ∧ Below w.heap.size w wr) (fun _ i _ => n - (intOf i).toNat)
  case atStart => exact ⟨0, w.heap.size, 1, Nat.zero_le _, rfl, rfl, World.ownsRow_lit w _ 1 (Nat.le_refl _) (by unfold maxLen; omega) rfl, (Below.refl _ _).alloc (Nat.le_refl _) _⟩
  case round =>
    obtain ⟨k, g, c, hk, rfl, rfl, hown, hbl⟩ := hrel
    have HA := Lib.hid hown
    have HB := Lib.hid hbl
    by_cases hkn : k < n
    · obtain ⟨b, off, rfl, hlt, hcell⟩ := H3.out (by omega)
      have hc1 := (hbl.cell (p := ⟨b, off + k * 2 + 1, none⟩) hlt).trans (hcell k hkn).2
      have hc2 : wr.cell? ⟨g, k, none⟩ = some (.int .i64 (topTo l k)) := by
        rw [hown.cellAt k (by omega)]
        simp [topsTo]
      have ht := HT.out k hk
      obtain ⟨g0, g1⟩ := HG.out k hkn
      have hgw := (hown.lt g rfl).2
      have hgb := (hown.lt g rfl).1
      have hq1 : (k : Int) < ((k + 1 : Nat) : Int) := by omega
      have hq2 : (k : Int) < (k : Int) + 1 := by omega
      have hkn' : (k : Int) < (n : Int) := by omega
      have hwr : IntKind.i64.wrap (topTo l k + gh l k) = topTo l k + gh l k := IntWalk.i64_in _ (by omega)
      clear hcell hown hbl
      go_wp2_with fail
      go_region_law ((refine step_append_lies _ (by rfl) _ _ _ (by rfl) w.heap.size 3 i0 _ 1 8 Try.underlying37 hi0 hz0 hz1 hz2 rfl (by omega) _ (k + 1) ((topsTo l k).map (Value.int .i64)) (by rfl) ((HA.out.alloc _).drew) ⟨wr.heap.size, 0, none⟩ 1 1 [.int .i64 (topTo l k + gh l k)] (by rfl) (by rfl) (World.news_of_block (cs := #[.int .i64 (topTo l k + gh l k)]) (t := 3) (fr := (0, 0)) (heap_alloc_new wr _)) (by simp [Value.oneCell']) (by omega) (by unfold maxLen; omega) (by omega) (by have := HB.out.size; simp; omega) (wr.heap.size + 1) (by simp) ?_; intro gg cap' w1 hown1 hgrow hat hlt1))
      all_goals
        have hown2 : w1.ownsRow w.heap.size 3 1 (.slice (some ⟨gg, 0, none⟩) (k + 1 + 1) cap') (k + 1 + 1) ((topsTo l (k + 1)).map (Value.int .i64)) := by
          rw [topsTo_succ, List.map_append]; exact hown1
        have hb1 : Below w.heap.size w w1 := ((HB.out.alloc HB.out.size _).drew).grown hgrow (by have := HB.out.size; simp; omega) (fun q hq => (HA.out.lt q hq).1)
        have HO1 := Lib.hid hown2
        have HB1 := Lib.hid hb1
        clear hown1 hgrow hown2 hb1 hat hlt1
        go_wp2
        go_roundw
        case rel => exact ⟨k + 1, gg, cap', by omega, by go_num, rfl, HO1.out, HB1.out⟩
        case measure => simp [intOf]; omega
    · obtain rfl : k = n := by omega
      have hs := ownsRow_isInts hown
      have HI := Lib.hid hs
      clear hown hbl hs
      go_wp2_with fail
      go_ret
      exact ⟨_, rfl, by rw [HN.out]; exact HI.out, HB.out⟩
end Go.Proofs.Ytchlnelpgjjmgaa
