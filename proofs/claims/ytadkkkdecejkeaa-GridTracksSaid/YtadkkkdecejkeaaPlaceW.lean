/- Place and Starts of package grid, Place of the reference. -/
import Derived.Test.YtadkkkdecejkeaaPlacePlain
import Derived.Test.YtadkkkdecejkeaaClampP
import Derived.Test.YtadkkkdecejkeaaClampR
import Derived.Test.YtadkkkdecejkeaaBoxRes
import Derived.Deep.AppendLies
namespace Go.Proofs.Ytadkkkdecejkeaa
open Go.RowKit
attribute [local go_sem ↓] Go.wp_at_zero Go.wp_at_succ
set_option linter.unusedVariables false
set_option linter.unusedSimpArgs false

theorem info_area : (Try.prog.info? 36).map (fun i => (i.zero, i.size, i.bytes)) = some (some (.agg #[.int .i64 0, .int .i64 0, .int .i64 0]), 3, 24) := by kernel_rfl
/-- Place has returned the areas. -/
def Placed (c : Int) (xs : List Int) (w : World) (e : Ending) (w' : World) : Prop := ∃ v, e = .returned v ∧ IsRecs 3 w' v (plL c xs) ∧ Below w.heap.size w w'
theorem Placed.no {c : Int} {xs : List Int} {w : World} (h : plOk c xs.length = false) : Placed c xs w (.returned (.slice none 0 0)) w :=
  ⟨_, rfl, by unfold plL; rw [if_neg (by rw [h]; simp)]; exact IsRecs.nil 3 w, Below.refl _ _⟩
theorem plRow (c : Int) (xs : List Int) (k : Nat) (r s : Int) (hr : (pst c xs k).1 = r) (hs : (pst c xs k).2 = s) (x : Int) (hx : clampZ (gz xs k) 1 c = x) :
    (c < s + x → recCells (plTo c xs (k + 1)) = recCells (plTo c xs k) ++ [.int .i64 (r + 1), .int .i64 0, .int .i64 x] ∧ (pst c xs (k + 1)) = (r + 1, x)) ∧
    (¬ c < s + x → recCells (plTo c xs (k + 1)) = recCells (plTo c xs k) ++ [.int .i64 r, .int .i64 s, .int .i64 x] ∧ (pst c xs (k + 1)) = (r, s + x)) := by
  subst hr hs hx
  constructor
  · intro h
    refine ⟨?_, by simp only [pst]; rw [if_pos h]⟩
    rw [plTo_succ, recCells_append]
    congr 1
    unfold parea
    rw [if_pos h]
    rfl
  · intro h
    refine ⟨?_, by simp only [pst]; rw [if_neg h]⟩
    rw [plTo_succ, recCells_append]
    congr 1
    unfold parea
    rw [if_neg h]
    rfl

set_option maxHeartbeats 8000000 in
set_option maxRecDepth 100000 in
theorem place_ok (a : Option Addr) (cap n : Nat) (c : Int) (xs : List Int) (w : World) (hcap : n ≤ cap) (HN : Hid (xs.length = n)) (hn : n ≤ 100) (hc1 : 1 ≤ c) (hc2 : c ≤ 24)
    (H3 : Hid (0 < n → ∃ b off, a = some ⟨b, off, none⟩ ∧ b < w.heap.size ∧ ∀ i, i < n → w.cell? ⟨b, off + i, none⟩ = some (.int .i64 (gz xs i)))) :
    Calls Try.prog 14 #[.int .i64 c, .slice a n cap] w (Placed c xs w) := by
  obtain ⟨i0, hi0, hz0, hz1, hz2⟩ := info_parts info_area
  have hn' : (n : Int) ≤ 100 := by omega
  have HPO : Hid (plL c xs = plTo c xs n) := by show _ = _; unfold plL; rw [HN.out, if_pos (by simp [plOk]; omega)]
  go_enter Try.func14, Try.ntmps14
  go_wp2_with fail
  go_loopw [5, 6, 7, 23] (fun out ro co i wr => ∃ k : Nat, k ≤ n ∧ i = .int .i64 k ∧ ro = .int .i64 (pst c xs k).1 ∧ co = .int .i64 (pst c xs k).2 ∧ wr.ownsRow w.heap.size 36 3 out k (recCells (plTo c xs k)) ∧ Below w.heap.size w wr) (fun _ _ _ i _ => n - (intOf i).toNat)
  case atStart => exact ⟨0, Nat.zero_le _, rfl, rfl, rfl, World.ownsRow_nil _ _ _ _, Below.refl _ _⟩
  case round =>
    obtain ⟨k, hk, rfl, rfl, rfl, hO, hbl⟩ := hrel
    have HO := Lib.hid hO
    have HB := Lib.hid hbl
    have hpb := pst_bd (xs := xs) hc1 k
    have hcb := clampZ_bd (x := gz xs k) hc1
    have HRW := plRow c xs k _ _ rfl rfl _ rfl
    obtain ⟨r, hr⟩ : ∃ r, (pst c xs k).1 = r := ⟨_, rfl⟩
    obtain ⟨s, hs⟩ : ∃ r, (pst c xs k).2 = r := ⟨_, rfl⟩
    rw [hr, hs] at hpb HRW ⊢
    clear hO hbl hr hs
    by_cases hkn : k < n
    · obtain ⟨b, off, rfl, hlt, hcell⟩ := H3.out (by omega)
      have ck := (HB.out.cell (p := ⟨b, off + k, none⟩) hlt).trans (hcell k hkn)
      obtain ⟨x, hx⟩ : ∃ x, gz xs k = x := ⟨_, rfl⟩
      rw [hx] at ck hcb HRW
      obtain ⟨C, hC⟩ : ∃ C, clampZ x 1 c = C := ⟨_, rfl⟩
      rw [hC] at hcb HRW
      have HCC := Lib.hid hC
      have hkn' : (k : Int) < (n : Int) := by omega
      have hk0 : (0 : Int) ≤ (k : Int) := by omega
      have HSZ := Lib.hid HB.out.size
      have hw1 : IntKind.i64.wrap (s + C) = s + C := IntWalk.i64_in _ (by omega)
      have hw2 : IntKind.i64.wrap (r + 1) = r + 1 := IntWalk.i64_in _ (by omega)
      have hw3 : IntKind.i64.wrap (0 + C) = C := by rw [Int.zero_add]; exact IntWalk.i64_in _ (by omega)
      clear hx hC hlt hcell
      by_cases hcc : c < s + C
      · obtain ⟨hr1, hr2⟩ := HRW.1 hcc
        have HR1 := Lib.hid hr1
        have HR2 := Lib.hid hr2
        clear hr1 hr2 HRW hpb
        go_wp2_with (first | (go_at_call 26; refine (clamp_any _ _ _ _).mono ?_; rw [HCC.out]; rintro e w2 ⟨rfl, rfl⟩) | (at_builtin; refine wpList_append_lies _ rfl _ _ 33 rfl w.heap.size 36 i0 _ 3 24 Try.underlying33 hi0 hz0 hz1 hz2 rfl (by omega) _ k (recCells (plTo c xs k)) rfl (HO.out.alloc _) ⟨wr.heap.size, 0, none⟩ 1 1 [.int .i64 (r + 1), .int .i64 0, .int .i64 C] rfl rfl (World.news_of_block (cs := #[.int .i64 (r + 1), .int .i64 0, .int .i64 C]) (t := 36) (fr := (0, 0)) (heap_alloc_new wr _)) (by simp [Value.oneCell']) (by omega) (by unfold maxLen; omega) (by omega) (by have := HSZ.out; simp; omega) _ rfl ?_; intro gg cap' w6 hown6 hgrow6 hat6 hlt6; have HOW6 := Lib.hid hown6; have HB6 : Hid (Below w.heap.size w w6) := (HB.out.alloc HB.out.size _).grown hgrow6 (by have := HB.out.size; simp; omega) (fun q hq => (HO.out.lt q hq).1); clear hown6 hgrow6 hat6 hlt6))
        go_roundw
        case rel => exact ⟨k + 1, by omega, by go_num, by rw [HR2.out], by rw [HR2.out], by rw [HR1.out]; exact HOW6.out, HB6.out⟩
        case measure => simp [intOf]; omega
      · obtain ⟨hr1, hr2⟩ := HRW.2 hcc
        have HR1 := Lib.hid hr1
        have HR2 := Lib.hid hr2
        clear hr1 hr2 HRW hpb
        go_wp2_with (first | (go_at_call 26; refine (clamp_any _ _ _ _).mono ?_; rw [HCC.out]; rintro e w2 ⟨rfl, rfl⟩) | (at_builtin; refine wpList_append_lies _ rfl _ _ 33 rfl w.heap.size 36 i0 _ 3 24 Try.underlying33 hi0 hz0 hz1 hz2 rfl (by omega) _ k (recCells (plTo c xs k)) rfl (HO.out.alloc _) ⟨wr.heap.size, 0, none⟩ 1 1 [.int .i64 r, .int .i64 s, .int .i64 C] rfl rfl (World.news_of_block (cs := #[.int .i64 r, .int .i64 s, .int .i64 C]) (t := 36) (fr := (0, 0)) (heap_alloc_new wr _)) (by simp [Value.oneCell']) (by omega) (by unfold maxLen; omega) (by omega) (by have := HSZ.out; simp; omega) _ rfl ?_; intro gg cap' w6 hown6 hgrow6 hat6 hlt6; have HOW6 := Lib.hid hown6; have HB6 : Hid (Below w.heap.size w w6) := (HB.out.alloc HB.out.size _).grown hgrow6 (by have := HB.out.size; simp; omega) (fun q hq => (HO.out.lt q hq).1); clear hown6 hgrow6 hat6 hlt6))
        go_roundw
        case rel => exact ⟨k + 1, by omega, by go_num, by rw [HR2.out], by rw [HR2.out], by rw [HR1.out]; exact HOW6.out, HB6.out⟩
        case measure => simp [intOf]; omega
    · obtain rfl : k = n := by omega
      go_wp2
      go_ret
      exact ⟨_, rfl, by rw [HPO.out]; exact ownsRow_isRecs HO.out (by rw [plTo_len]) (plTo_wide c xs k), HB.out⟩
theorem place_any (v : Value) (c : Int) (xs : List Int) (w : World) (hv : IsInts w v xs) : Calls Try.prog 14 #[.int .i64 c, v] w (Placed c xs w) := by
  obtain ⟨a, cap, rfl, h1, h2, h3⟩ := hv
  obtain ⟨n, hn⟩ : ∃ n, xs.length = n := ⟨_, rfl⟩
  rw [hn] at h1 h3 ⊢
  have H3 := Lib.hid h3
  have HN := Lib.hid hn
  unfold maxLen at h2
  clear h3 hn
  by_cases b1 : c < 1
  · have HNO : Hid (plOk c xs.length = false) := by show _ = _; simp [plOk]; omega
    go_enter Try.func14, Try.ntmps14
    go_wp2
    go_ret
    exact Placed.no HNO.out
  · by_cases b2 : 24 < c
    · have HNO : Hid (plOk c xs.length = false) := by show _ = _; simp [plOk]; omega
      go_enter Try.func14, Try.ntmps14
      go_wp2
      go_ret
      exact Placed.no HNO.out
    · by_cases b3 : 100 < n
      · have HNO : Hid (plOk c xs.length = false) := by show _ = _; rw [HN.out]; simp [plOk]; omega
        have b3' : (100 : Int) < (n : Int) := by omega
        go_enter Try.func14, Try.ntmps14
        go_wp2
        go_ret
        exact Placed.no HNO.out
      · exact place_ok a cap n c xs w h1 HN (by omega) (by omega) (by omega) H3

set_option maxHeartbeats 8000000 in
set_option maxRecDepth 100000 in
theorem rplace_ok (a : Option Addr) (cap n : Nat) (c : Int) (xs : List Int) (w : World) (hcap : n ≤ cap) (HN : Hid (xs.length = n)) (hn : n ≤ 100) (hc1 : 1 ≤ c) (hc2 : c ≤ 24)
    (H3 : Hid (0 < n → ∃ b off, a = some ⟨b, off, none⟩ ∧ b < w.heap.size ∧ ∀ i, i < n → w.cell? ⟨b, off + i, none⟩ = some (.int .i64 (gz xs i)))) :
    Calls Try.prog 15 #[.int .i64 c, .slice a n cap] w (Placed c xs w) := by
  obtain ⟨i0, hi0, hz0, hz1, hz2⟩ := info_parts info_area
  have hn' : (n : Int) ≤ 100 := by omega
  have HPO : Hid (plL c xs = plTo c xs n) := by show _ = _; unfold plL; rw [HN.out, if_pos (by simp [plOk]; omega)]
  go_enter Try.func15, Try.ntmps15
  go_wp2_with fail
  go_loopw [5, 6, 7, 8] (fun out ro co i wr => ∃ k : Nat, k ≤ n ∧ i = .int .i64 k ∧ ro = .int .i64 (pst c xs k).1 ∧ co = .int .i64 (pst c xs k).2 ∧ wr.ownsRow w.heap.size 36 3 out k (recCells (plTo c xs k)) ∧ Below w.heap.size w wr) (fun _ _ _ i _ => n - (intOf i).toNat)
  case atStart => exact ⟨0, Nat.zero_le _, rfl, rfl, rfl, World.ownsRow_nil _ _ _ _, Below.refl _ _⟩
  case round =>
    obtain ⟨k, hk, rfl, rfl, rfl, hO, hbl⟩ := hrel
    have HO := Lib.hid hO
    have HB := Lib.hid hbl
    have hpb := pst_bd (xs := xs) hc1 k
    have hcb := clampZ_bd (x := gz xs k) hc1
    have HRW := plRow c xs k _ _ rfl rfl _ rfl
    obtain ⟨r, hr⟩ : ∃ r, (pst c xs k).1 = r := ⟨_, rfl⟩
    obtain ⟨s, hs⟩ : ∃ r, (pst c xs k).2 = r := ⟨_, rfl⟩
    rw [hr, hs] at hpb HRW ⊢
    clear hO hbl hr hs
    by_cases hkn : k < n
    · obtain ⟨b, off, rfl, hlt, hcell⟩ := H3.out (by omega)
      have ck := (HB.out.cell (p := ⟨b, off + k, none⟩) hlt).trans (hcell k hkn)
      obtain ⟨x, hx⟩ : ∃ x, gz xs k = x := ⟨_, rfl⟩
      rw [hx] at ck hcb HRW
      obtain ⟨C, hC⟩ : ∃ C, clampZ x 1 c = C := ⟨_, rfl⟩
      rw [hC] at hcb HRW
      have HCC := Lib.hid hC
      have hkn' : (k : Int) < (n : Int) := by omega
      have hk0 : (0 : Int) ≤ (k : Int) := by omega
      have HSZ := Lib.hid HB.out.size
      have hw1 : IntKind.i64.wrap (s + C) = s + C := IntWalk.i64_in _ (by omega)
      have hw2 : IntKind.i64.wrap (r + 1) = r + 1 := IntWalk.i64_in _ (by omega)
      have hw3 : IntKind.i64.wrap (0 + C) = C := by rw [Int.zero_add]; exact IntWalk.i64_in _ (by omega)
      clear hx hC hlt hcell
      by_cases hcc : c < s + C
      · obtain ⟨hr1, hr2⟩ := HRW.1 hcc
        have HR1 := Lib.hid hr1
        have HR2 := Lib.hid hr2
        clear hr1 hr2 HRW hpb
        go_wp2_with (first | (go_at_call 27; refine (rclamp_any _ _ _ _).mono ?_; rw [HCC.out]; rintro e w2 ⟨rfl, rfl⟩) | (at_builtin; refine wpList_append_lies _ rfl _ _ 33 rfl w.heap.size 36 i0 _ 3 24 Try.underlying33 hi0 hz0 hz1 hz2 rfl (by omega) _ k (recCells (plTo c xs k)) rfl (HO.out.alloc _) ⟨wr.heap.size, 0, none⟩ 1 1 [.int .i64 (r + 1), .int .i64 0, .int .i64 C] rfl rfl (World.news_of_block (cs := #[.int .i64 (r + 1), .int .i64 0, .int .i64 C]) (t := 36) (fr := (0, 0)) (heap_alloc_new wr _)) (by simp [Value.oneCell']) (by omega) (by unfold maxLen; omega) (by omega) (by have := HSZ.out; simp; omega) _ rfl ?_; intro gg cap' w6 hown6 hgrow6 hat6 hlt6; have HOW6 := Lib.hid hown6; have HB6 : Hid (Below w.heap.size w w6) := (HB.out.alloc HB.out.size _).grown hgrow6 (by have := HB.out.size; simp; omega) (fun q hq => (HO.out.lt q hq).1); clear hown6 hgrow6 hat6 hlt6))
        go_roundw
        case rel => exact ⟨k + 1, by omega, by go_num, by rw [HR2.out], by rw [HR2.out], by rw [HR1.out]; exact HOW6.out, HB6.out⟩
        case measure => simp [intOf]; omega
      · obtain ⟨hr1, hr2⟩ := HRW.2 hcc
        have HR1 := Lib.hid hr1
        have HR2 := Lib.hid hr2
        clear hr1 hr2 HRW hpb
        go_wp2_with (first | (go_at_call 27; refine (rclamp_any _ _ _ _).mono ?_; rw [HCC.out]; rintro e w2 ⟨rfl, rfl⟩) | (at_builtin; refine wpList_append_lies _ rfl _ _ 33 rfl w.heap.size 36 i0 _ 3 24 Try.underlying33 hi0 hz0 hz1 hz2 rfl (by omega) _ k (recCells (plTo c xs k)) rfl (HO.out.alloc _) ⟨wr.heap.size, 0, none⟩ 1 1 [.int .i64 r, .int .i64 s, .int .i64 C] rfl rfl (World.news_of_block (cs := #[.int .i64 r, .int .i64 s, .int .i64 C]) (t := 36) (fr := (0, 0)) (heap_alloc_new wr _)) (by simp [Value.oneCell']) (by omega) (by unfold maxLen; omega) (by omega) (by have := HSZ.out; simp; omega) _ rfl ?_; intro gg cap' w6 hown6 hgrow6 hat6 hlt6; have HOW6 := Lib.hid hown6; have HB6 : Hid (Below w.heap.size w w6) := (HB.out.alloc HB.out.size _).grown hgrow6 (by have := HB.out.size; simp; omega) (fun q hq => (HO.out.lt q hq).1); clear hown6 hgrow6 hat6 hlt6))
        go_roundw
        case rel => exact ⟨k + 1, by omega, by go_num, by rw [HR2.out], by rw [HR2.out], by rw [HR1.out]; exact HOW6.out, HB6.out⟩
        case measure => simp [intOf]; omega
    · obtain rfl : k = n := by omega
      go_wp2
      go_ret
      exact ⟨_, rfl, by rw [HPO.out]; exact ownsRow_isRecs HO.out (by rw [plTo_len]) (plTo_wide c xs k), HB.out⟩
theorem rplace_any (v : Value) (c : Int) (xs : List Int) (w : World) (hv : IsInts w v xs) : Calls Try.prog 15 #[.int .i64 c, v] w (Placed c xs w) := by
  obtain ⟨a, cap, rfl, h1, h2, h3⟩ := hv
  obtain ⟨n, hn⟩ : ∃ n, xs.length = n := ⟨_, rfl⟩
  rw [hn] at h1 h3 ⊢
  have H3 := Lib.hid h3
  have HN := Lib.hid hn
  unfold maxLen at h2
  clear h3 hn
  by_cases b1 : c < 1
  · have HNO : Hid (plOk c xs.length = false) := by show _ = _; simp [plOk]; omega
    go_enter Try.func15, Try.ntmps15
    go_wp2
    go_ret
    exact Placed.no HNO.out
  · by_cases b2 : 24 < c
    · have HNO : Hid (plOk c xs.length = false) := by show _ = _; simp [plOk]; omega
      go_enter Try.func15, Try.ntmps15
      go_wp2
      go_ret
      exact Placed.no HNO.out
    · by_cases b3 : 100 < n
      · have HNO : Hid (plOk c xs.length = false) := by show _ = _; rw [HN.out]; simp [plOk]; omega
        have b3' : (100 : Int) < (n : Int) := by omega
        go_enter Try.func15, Try.ntmps15
        go_wp2
        go_ret
        exact Placed.no HNO.out
      · exact rplace_ok a cap n c xs w h1 HN (by omega) (by omega) (by omega) H3

/-- Starts has returned the places. -/
def Started (gp : Int) (s : List Int) (w : World) (e : Ending) (w' : World) : Prop := ∃ v, e = .returned v ∧ IsInts w' v (stTo gp s s.length) ∧ Below w.heap.size w w'
set_option maxHeartbeats 8000000 in
set_option maxRecDepth 100000 in
theorem starts_any (v : Value) (gp : Int) (xs : List Int) (w : World) (hv : IsInts w v xs) (hl : xs.length ≤ 50) (hg : 0 ≤ gp ∧ gp ≤ 63) (hx : ∀ i, i < xs.length → 0 ≤ gz xs i ∧ gz xs i ≤ 1023) : Calls Try.prog 19 #[.int .i64 gp, v] w (Started gp xs w) := by
  obtain ⟨i0, hi0, hz0, hz1, hz2⟩ := info_parts info_int1
  obtain ⟨a, cap, rfl, h1, h2, h3⟩ := hv
  have HSB : Hid (∀ k, k ≤ xs.length → 0 ≤ stAt gp xs k ∧ stAt gp xs k ≤ 1086 * (k : Int)) := stAt_bd hg hx
  obtain ⟨n, hn⟩ : ∃ n, xs.length = n := ⟨_, rfl⟩
  rw [hn] at h1 h3 hl hx HSB ⊢
  have H3 := Lib.hid h3
  have HN := Lib.hid hn
  have HX := Lib.hid hx
  unfold maxLen at h2
  have hn' : (n : Int) ≤ 50 := by omega
  clear h3 hn hx
  go_enter Try.func19, Try.ntmps19
  go_wp2_with fail
  go_loopw [5, 6, 11] (fun out at_ i wr => ∃ k : Nat, k ≤ n ∧ i = .int .i64 k ∧ at_ = .int .i64 (stAt gp xs k) ∧ wr.ownsRow w.heap.size 3 1 out k ((stTo gp xs k).map (Value.int .i64)) ∧ Below w.heap.size w wr) (fun _ _ i _ => n - (intOf i).toNat)
  case atStart => exact ⟨0, Nat.zero_le _, rfl, rfl, World.ownsRow_nil _ _ _ _, Below.refl _ _⟩
  case round =>
    obtain ⟨k, hk, rfl, rfl, hO, hbl⟩ := hrel
    have HO := Lib.hid hO
    have HB := Lib.hid hbl
    have hsb := HSB.out k hk
    obtain ⟨S, hS⟩ : ∃ r, stAt gp xs k = r := ⟨_, rfl⟩
    rw [hS] at hsb ⊢
    have HS := Lib.hid hS
    clear hO hbl hS
    by_cases hkn : k < n
    · obtain ⟨b, off, rfl, hlt, hcell⟩ := H3.out (by omega)
      have ck := (HB.out.cell (p := ⟨b, off + k, none⟩) hlt).trans (hcell k hkn)
      have hxb := HX.out k hkn
      have HSN : Hid (stAt gp xs (k + 1) = S + (gz xs k + gp)) := by show _ = _; rw [← HS.out]; rfl
      have HCN : Hid ((stTo gp xs (k + 1)).map (Value.int .i64) = (stTo gp xs k).map (Value.int .i64) ++ [.int .i64 S]) := by show _ = _; rw [stTo_succ, List.map_append, HS.out]; rfl
      obtain ⟨x, hx⟩ : ∃ x, gz xs k = x := ⟨_, rfl⟩
      rw [hx] at ck hxb HSN
      have hkn' : (k : Int) < (n : Int) := by omega
      have hk0 : (0 : Int) ≤ (k : Int) := by omega
      have HSZ := Lib.hid HB.out.size
      have hw1 : IntKind.i64.wrap (x + gp) = x + gp := IntWalk.i64_in _ (by omega)
      have hw2 : IntKind.i64.wrap (S + (x + gp)) = S + (x + gp) := IntWalk.i64_in _ (by omega)
      clear hx hlt hcell hsb hxb
      go_wp2_with (at_builtin; refine wpList_append_lies _ rfl _ _ 26 rfl w.heap.size 3 i0 _ 1 8 Try.underlying26 hi0 hz0 hz1 hz2 rfl (by omega) _ k ((stTo gp xs k).map (Value.int .i64)) rfl (HO.out.alloc _) ⟨wr.heap.size, 0, none⟩ 1 1 [.int .i64 S] rfl rfl (World.news_of_block (cs := #[.int .i64 S]) (t := 3) (fr := (0, 0)) (heap_alloc_new wr _)) (by simp [Value.oneCell']) (by omega) (by unfold maxLen; omega) (by omega) (by have := HSZ.out; simp; omega) _ rfl ?_; intro gg cap' w6 hown6 hgrow6 hat6 hlt6; have HOW6 := Lib.hid hown6; have HB6 : Hid (Below w.heap.size w w6) := (HB.out.alloc HB.out.size _).grown hgrow6 (by have := HB.out.size; simp; omega) (fun q hq => (HO.out.lt q hq).1); clear hown6 hgrow6 hat6 hlt6)
      go_roundw
      case rel => exact ⟨k + 1, by omega, by go_num, by rw [HSN.out], by rw [HCN.out]; exact HOW6.out, HB6.out⟩
      case measure => simp [intOf]; omega
    · obtain rfl : k = n := by omega
      have HLN : Hid ((stTo gp xs k).length = k) := stTo_len gp xs k
      go_wp2
      go_ret
      refine ⟨_, rfl, ?_, HB.out⟩
      rw [HN.out]
      exact ownsRow_isInts HO.out
end Go.Proofs.Ytadkkkdecejkeaa

