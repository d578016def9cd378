/- Baseline of package box: the offsets and the height. -/
import Derived.Test.YthmdagffhanagaaBasePlain
import Derived.Test.YthmdagffhanagaaBoxValid
import Derived.Deep.AppendLies
namespace Go.Proofs.Ythmdagffhanagaa
open Go.RowKit
set_option linter.unusedVariables false
set_option linter.unusedSimpArgs false

/-- What Baseline leaves. -/
def Based (hs bs : List Int) (w : World) (e : Ending) (w' : World) : Prop :=
  ∃ v, e = .returned (.tuple #[v, .int .i64 (baseH hs bs)]) ∧ IsInts w' v (baseL hs bs) ∧ Below w.heap.size w w'
theorem Based.no {hs bs : List Int} {w : World} (h : baseOk hs bs = false) : Based hs bs w (.returned (.tuple #[.slice none 0 0, .int .i64 0])) w :=
  ⟨_, by rw [baseH_no h], by rw [baseL_no h]; exact IsInts.nil w, Below.refl _ _⟩

set_option maxHeartbeats 2000000 in
theorem base_no (v u : Value) (hs bs : List Int) (w : World) (hv : IsInts w v hs) (hu : IsInts w u bs) (hno : baseOk hs bs = false) :
    Calls Try.prog 21 #[v, u] w (Based hs bs w) := by
  have HNO := Lib.hid hno
  have HV := Lib.hid hv
  have HU := Lib.hid hu
  obtain ⟨a, c, rfl, h1, h2, h3⟩ := hv
  obtain ⟨b, d, rfl, k1, k2, k3⟩ := hu
  unfold maxLen at h2 k2
  have hk : hs.length ≠ bs.length ∨ 100 < hs.length ∨ lensB hs = false ∨ lensB bs = false := by
    apply Classical.byContradiction
    intro h
    have : baseOk hs bs = true := baseOk_iff.2 ⟨by omega, by omega, by cases e : lensB hs <;> simp_all, by cases e : lensB bs <;> simp_all⟩
    rw [this] at hno; cases hno
  have HK := Lib.hid hk
  clear h3 k3 hno hk
  obtain ⟨n, hn⟩ : ∃ n, hs.length = n := ⟨_, rfl⟩
  obtain ⟨m, hm⟩ : ∃ m, bs.length = m := ⟨_, rfl⟩
  rw [hn] at h1 HV HK ⊢
  rw [hm] at k1 HU HK ⊢
  clear hn hm
  by_cases hnm : n = m
  · subst hnm
    by_cases hl : 100 < n
    · have hl' : (100 : Int) < (n : Int) := by omega
      go_enter Try.func21, Try.ntmps21
      go_wp2
      go_ret2
      exact Based.no HNO.out
    · have hl' : (n : Int) ≤ 100 := by omega
      cases hh : lensB hs with
      | false =>
        have HH := Lib.hid hh
        clear hh
        go_enter Try.func21, Try.ntmps21
        go_wp2_with fail
        refine (length_any _ hs _ HV.out).mono ?_
        rw [HH.out]
        rintro e w' ⟨rfl, rfl⟩
        go_wp2
        go_ret2
        exact Based.no HNO.out
      | true =>
        have HH := Lib.hid hh
        have HB : Hid (lensB bs = false) := by
          rcases HK.out with h | h | h | h
          · exact absurd rfl h
          · omega
          · rw [hh] at h; cases h
          · exact h
        clear hh
        go_enter Try.func21, Try.ntmps21
        go_wp2_with fail
        refine (length_any _ hs _ HV.out).mono ?_
        rw [HH.out]
        rintro e w' ⟨rfl, rfl⟩
        go_wp2_with fail
        refine (length_any _ bs _ HU.out).mono ?_
        rw [HB.out]
        rintro e w' ⟨rfl, rfl⟩
        go_wp2
        go_ret2
        exact Based.no HNO.out
  · have hnm' : ((n : Int) != (m : Int)) = true := by simp; omega
    clear hnm
    go_enter Try.func21, Try.ntmps21
    go_wp2
    go_ret2
    exact Based.no HNO.out

set_option maxHeartbeats 8000000 in
theorem base_ok (v u : Value) (hs bs : List Int) (w : World) (hv : IsInts w v hs) (hu : IsInts w u bs) (hok : baseOk hs bs = true) :
    Calls Try.prog 21 #[v, u] w (Based hs bs w) := by
  obtain ⟨i0, hi0, hz0, hz1, hz2⟩ := info_parts info_int
  have HOK := Lib.hid hok
  obtain ⟨e1, e2, e3, e4⟩ := baseOk_iff.1 hok
  have HV := Lib.hid hv
  have HU := Lib.hid hu
  have HH := Lib.hid e3
  have HB := Lib.hid e4
  obtain ⟨a, c, rfl, h1, h2, h3⟩ := hv
  obtain ⟨b, d, rfl, k1, k2, k3⟩ := hu
  unfold maxLen at h2 k2
  obtain ⟨n, hn⟩ : ∃ n, bs.length = n := ⟨_, rfl⟩
  have hn2 : hs.length = n := e1.trans hn
  have HRL : Hid (baseL hs bs = bOffs bs (topTo bs n) n) := by show _ = _; unfold baseL; rw [if_pos hok, hn]
  have HRH : Hid (baseH hs bs = htTo hs bs (topTo bs n) n) := by show _ = _; unfold baseH; rw [if_pos hok, hn]
  rw [hn] at k1 k3 HU ⊢
  rw [hn2] at h1 h3 e2 HV ⊢
  have HN := Lib.hid hn
  have HN2 := Lib.hid hn2
  have H3 := Lib.hid h3
  have K3 := Lib.hid k3
  have hl' : (n : Int) ≤ 100 := by omega
  clear h3 k3 hok e1 e3 e4 hn hn2
  go_enter Try.func21, Try.ntmps21
  go_wp2_with fail
  refine (length_any _ hs _ HV.out).mono ?_
  rw [HH.out]
  rintro e w' ⟨rfl, rfl⟩
  go_wp2_with fail
  refine (length_any _ bs _ HU.out).mono ?_
  rw [HB.out]
  rintro e w' ⟨rfl, rfl⟩
  go_wp2_with fail
  go_loop [6, 33] (fun t i => ∃ k : Nat, k ≤ n ∧ i = .int .i64 k ∧ t = .int .i64 (topTo bs k)) (fun _ i => n - (intOf i).toNat)
  case atStart => exact ⟨0, Nat.zero_le _, rfl, rfl⟩
  case round =>
    obtain ⟨k, hk, rfl, rfl⟩ := hrel
    have tb := (topTo_bd (bs := bs) k (fun i hi => lensZ HB.out (by rw [HN.out]; omega))).1
    by_cases hkn : k < n
    · obtain ⟨g, off, rfl, hlt, hcell⟩ := K3.out (by omega)
      have hc := hcell k hkn
      have hkn' : (k : Int) < (n : Int) := by omega
      have HS : Hid (topTo bs (k + 1) = max (topTo bs k) (gz bs k)) := Lib.hid rfl
      have zb := lensZ HB.out (k := k) (by rw [HN.out]; exact hkn)
      obtain ⟨t, ht⟩ : ∃ t, topTo bs k = t := ⟨_, rfl⟩
      obtain ⟨z, hz⟩ : ∃ z, gz bs k = z := ⟨_, rfl⟩
      rw [ht, hz] at HS
      rw [ht] at tb ⊢
      rw [hz] at hc zb
      clear hcell ht hz
      by_cases hm : t < z
      all_goals
        go_wp2
        go_round
        case rel => exact ⟨k + 1, by omega, by go_num, by rw [HS.out]; congr 1; omega⟩
        case measure => simp [intOf]; omega
    · obtain rfl : n = k := by omega
      obtain ⟨t, ht⟩ : ∃ t, topTo bs n = t := ⟨_, rfl⟩
      have HT := Lib.hid ht
      rw [ht] at HRL HRH tb ⊢
      clear ht
      go_wp2_with fail
      go_loopw [4, 5, 43] (fun l h i wr => ∃ k : Nat, k ≤ n ∧ i = .int .i64 k ∧ h = .int .i64 (htTo hs bs t k) ∧ wr.ownsRow w.heap.size 3 1 l k ((bOffs bs t k).map (Value.int .i64)) ∧ Below w.heap.size w wr) (fun _ _ i _ => n - (intOf i).toNat)
      case atStart => exact ⟨0, Nat.zero_le _, rfl, rfl, World.ownsRow_nil _ _ _ _, Below.refl _ _⟩
      case round =>
        obtain ⟨k, hk2, rfl, rfl, hO, hbl⟩ := hrel
        have HO := Lib.hid hO
        have HBL := Lib.hid hbl
        have HHB : Hid (w.heap.size ≤ wr.heap.size) := hbl.size
        clear hO hbl
        have hb := (htTo_bd (hs := hs) (bs := bs) tb k (fun i hi => ⟨⟨(lensZ HB.out (by rw [HN.out]; omega)).1, by have := (topTo_bd (bs := bs) n (fun i hi => lensZ HB.out (by rw [HN.out]; omega))).2 i (by omega); rw [HT.out] at this; exact this⟩, lensZ HH.out (by rw [HN2.out]; omega)⟩)).1
        by_cases hkn : k < n
        · obtain ⟨g, off, rfl, hlt, hcell⟩ := K3.out (by omega)
          obtain ⟨g2, off2, rfl, hlt2, hcell2⟩ := H3.out (by omega)
          have hc := (HBL.out.cell (p := ⟨g, off + k, none⟩) hlt).trans (hcell k hkn)
          have hc2 := hcell2 k hkn
          have zb := lensZ HB.out (k := k) (by rw [HN.out]; exact hkn)
          have zh := lensZ HH.out (k := k) (by rw [HN2.out]; exact hkn)
          have HS : Hid (htTo hs bs t (k + 1) = max (htTo hs bs t k) (t - gz bs k + gz hs k)) := Lib.hid rfl
          have HSO := Lib.hid (bOffs_succ bs t k)
          have hkn' : (k : Int) < (n : Int) := by omega
          have hk0 : (0 : Int) ≤ (k : Int) := by omega
          obtain ⟨x, hx⟩ : ∃ x, htTo hs bs t k = x := ⟨_, rfl⟩
          obtain ⟨y, hy⟩ : ∃ y, gz bs k = y := ⟨_, rfl⟩
          obtain ⟨z, hz⟩ : ∃ z, gz hs k = z := ⟨_, rfl⟩
          rw [hx, hy, hz] at HS
          rw [hy] at HSO zb hc
          rw [hz] at zh hc2
          rw [hx] at hb ⊢
          have HC2 := Lib.hid hc2
          clear hcell hcell2 hx hy hz hc2
          by_cases hm : x < t - y + z
          all_goals
            go_wp2_with (at_builtin; refine wpList_append_lies _ rfl _ _ 23 rfl w.heap.size 3 i0 _ 1 8 Try.underlying23 hi0 hz0 hz1 hz2 rfl (by omega) _ k ((bOffs bs t k).map (Value.int .i64)) rfl (HO.out.alloc _) ⟨wr.heap.size, 0, none⟩ 1 1 [.int .i64 (t - y)] rfl rfl (World.news_of_block (cs := #[.int .i64 (t - y)]) (t := 3) (fr := (0, 0)) (heap_alloc_new wr _)) (by simp [Value.oneCell']) (by omega) (by unfold maxLen; omega) (by omega) (by have := HHB.out; simp; omega) _ rfl ?_; intro gg cap' w6 hown6 hgrow6 hat6 hlt6; have HOW6 := Lib.hid hown6; have HG6 := Lib.hid hgrow6; have HB6 : Hid (Below w.heap.size w w6) := (HBL.out.alloc HBL.out.size _).grown HG6.out (by have := HBL.out.size; simp; omega) (fun q hq => (HO.out.lt q hq).1); clear hown6 hgrow6 hat6 hlt6 hc; have hc2 := (HB6.out.cell (p := ⟨g2, off2 + k, none⟩) hlt2).trans HC2.out)
            go_roundw
            case rel => exact ⟨k + 1, by omega, by go_num, by rw [HS.out]; congr 1; omega, by rw [HSO.out, List.map_append]; exact HOW6.out, HB6.out⟩
            case measure => simp [intOf]; omega
        · obtain rfl : n = k := by omega
          have HF := Lib.hid (ownsRow_isInts HO.out)
          go_wp2
          go_ret2
          exact ⟨_, by rw [HRH.out]; rfl, by rw [HRL.out]; exact HF.out, HBL.out⟩
theorem base_any (v u : Value) (hs bs : List Int) (w : World) (hv : IsInts w v hs) (hu : IsInts w u bs) :
    Calls Try.prog 21 #[v, u] w (Based hs bs w) := by
  cases h : baseOk hs bs with
  | false => exact base_no v u hs bs w hv hu h
  | true => exact base_ok v u hs bs w hv hu h
end Go.Proofs.Ythmdagffhanagaa
