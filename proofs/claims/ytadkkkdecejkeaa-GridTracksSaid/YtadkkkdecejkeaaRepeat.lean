/- slices.Repeat of one number that is 1: a list of ones. -/
import Derived.Test.YtadkkkdecejkeaaFillTo
import Derived.Test.YtadkkkdecejkeaaQuiet
import Derived.Test.YtadkkkdecejkeaaCopyI
import Derived.Test.YtadkkkdecejkeaaTail
import Derived.Laws.Bits64b
namespace Go.Proofs.Ytadkkkdecejkeaa
open Go.RowKit
set_option linter.unusedVariables false
set_option linter.unusedSimpArgs false

set_option maxHeartbeats 1000000 in
theorem mul64_one (m : Nat) (hm : m ≤ 100000) (w : World) :
    Calls Try.prog 59 #[.int .u64 1, .int .u64 m] w fun e w' => e = .returned (.tuple #[.int .u64 0, .int .u64 m]) ∧ w = w' := by
  have e1 : bits .and .u64 1 4294967295 = 1 := by decide +kernel
  have e2 : bits .and .u64 (m : Int) 4294967295 = (m : Int) := by
    have h := bits_and_u64_nat m 4294967295 (by omega) (by omega)
    have e : m &&& 4294967295 = m % 4294967296 := Nat.and_two_pow_sub_one_eq_mod m 32
    rw [e] at h
    rw [show (4294967295 : Int) = ((4294967295 : Nat) : Int) from rfl, h]
    omega
  have e3 : bits .and .u64 0 4294967295 = 0 := by decide +kernel
  have e4 : (m : Int) / 4294967296 = 0 := by omega
  have hm' : (m : Int) ≤ 100000 := by omega
  have hm0 : (0 : Int) ≤ (m : Int) := by omega
  go_enter Try.func59, Try.ntmps59
  go_wp2
  go_ret2
  exact ⟨rfl, rfl⟩

set_option maxHeartbeats 1000000 in
theorem mul_one_ (m : Nat) (hm : m ≤ 100000) (w : World) :
    Calls Try.prog 55 #[.int .u64 1, .int .u64 m] w fun e w' => e = .returned (.tuple #[.int .u64 0, .int .u64 m]) ∧ w = w' := by
  go_enter Try.func55, Try.ntmps55
  go_wp2_with (go_at_call 59; refine (mul64_one m hm _).mono ?_; rintro e w' ⟨rfl, rfl⟩)
  go_ret2
  exact ⟨rfl, rfl⟩

def ones (m k : Nat) : List Int := fillTo (fun _ => 1) m k
theorem ones_len (m k : Nat) : (ones m k).length = m := fillTo_len _ _ _
theorem ones_all (m : Nat) : ones m m = List.replicate m 1 := by
  unfold ones
  rw [fillTo_all]
  apply List.ext_getElem (by simp)
  intro i h1 h2
  simp
theorem ones_at {m k i : Nat} (h : i < m) (hk : i < k) : gz (ones m k) i = 1 := fillTo_at _ h hk
theorem ones_copy {m k j : Nat} (h : k + j ≤ m) (hj : j ≤ k) : cpI (ones m k) k (ones m k) j = ones m (k + j) := by
  apply List.ext_getElem?
  intro i
  simp only [cpI, ones_len, List.getElem?_map]
  by_cases h1 : i < m
  · have e1 : (List.range m)[i]? = some i := by simp [h1]
    have e2 : (ones m (k + j))[i]? = some (gz (ones m (k + j)) i) := by simp [gz, ones_len, h1]
    rw [e1, e2]
    simp only [Option.map_some, Option.some.injEq]
    by_cases h2 : k ≤ i ∧ i < k + j
    · rw [if_pos h2, ones_at (by omega) (by omega), ones_at h1 h2.2]
    · rw [if_neg h2]
      by_cases h3 : i < k
      · rw [ones_at h1 h3, ones_at h1 (by omega)]
      · simp [ones, fillTo, gz, h1, h3, show ¬ i < k + j by omega]
  · have e1 : (List.range m)[i]? = none := by simp; omega
    have e2 : (ones m (k + j))[i]? = none := by simp [ones_len]; omega
    rw [e1, e2]; rfl
theorem ones_first {m : Nat} (h : 1 ≤ m) : cpI (ones m 0) 0 [1] 1 = ones m 1 := by
  apply List.ext_getElem?
  intro i
  simp only [cpI, ones_len, List.getElem?_map]
  by_cases h1 : i < m
  · have e1 : (List.range m)[i]? = some i := by simp [h1]
    have e2 : (ones m 1)[i]? = some (gz (ones m 1) i) := by simp [gz, ones_len, h1]
    rw [e1, e2]
    simp only [Option.map_some, Option.some.injEq]
    by_cases h2 : i < 1
    · obtain rfl : i = 0 := by omega
      rw [if_pos ⟨by omega, by omega⟩, ones_at h1 h2]; rfl
    · rw [if_neg (by omega)]
      simp [ones, fillTo, gz, h1]; omega
  · have e1 : (List.range m)[i]? = none := by simp; omega
    have e2 : (ones m 1)[i]? = none := by simp [ones_len]; omega
    rw [e1, e2]; rfl

set_option maxHeartbeats 4000000 in
theorem repeat_any (v : Value) (m : Nat) (w : World) (hv : IsInts w v [1]) (h1 : 1 ≤ m) (hm : m ≤ 1000) :
    Calls Try.prog 52 #[v, .int .i64 m] w fun e w' => e = .returned (.slice (some ⟨w.heap.size, 0, none⟩) m m) ∧ OwnI w' w.heap.size (List.replicate m 1) ∧ Below w.heap.size w w' := by
  have hv2 := hv
  obtain ⟨a, c, rfl, k1, k2, k3⟩ := hv2
  obtain ⟨b, off, rfl, hlt, hcell⟩ := k3 (by simp)
  have hc0 := hcell 0 (by simp)
  have HC : Hid (w.cell? ⟨b, off, none⟩ = some (.int .i64 1)) := hc0
  simp at k1
  unfold maxLen at k2
  clear hv k3 hcell hc0
  have hm' : (m : Int) ≤ 1000 := by omega
  have hm1 : (1 : Int) ≤ (m : Int) := by omega
  have HMD : Hid (OwnI (w.alloc (.cells (madeCells #[.int .i64 0] m) 3)) w.heap.size (ones m 0)) := by
    show OwnI _ _ _
    unfold ones
    rw [fillTo_zero]; exact OwnI.made w m
  have HBM : Hid (Below w.heap.size w (w.alloc (.cells (madeCells #[.int .i64 0] m) 3))) := (Below.refl _ _).alloc (Nat.le_refl _) _
  have HCM : Hid ((w.alloc (.cells (madeCells #[.int .i64 0] m) 3)).cell? ⟨b, off, none⟩ = some (.int .i64 1)) := (HBM.out.cell (p := ⟨b, off, none⟩) hlt).trans HC.out
  have hmk := make_ints m (by omega) w
  obtain ⟨B, hB⟩ : ∃ B, w.heap.size = B := ⟨_, rfl⟩
  obtain ⟨W, hW⟩ : ∃ W, w.alloc (.cells (madeCells #[.int .i64 0] m) 3) = W := ⟨_, rfl⟩
  have HHB := Lib.hid hB
  rw [hW, hB] at HMD HBM hmk
  rw [hW] at HCM
  rw [hB] at hlt
  rw [hB]
  clear hW hB
  have HCF : Hid (CopyFit W B 0 m b off 1 (ones m 0) [1] 1) := ⟨HMD.out, fun i hi => (by obtain rfl : i = 0 := (by omega); exact HCM.out), by simp, by simp [Nat.min_def]; omega, by rw [ones_len]; omega⟩
  go_enter Try.func52, Try.ntmps52
  go_wp2_with fail
  refine (mul_one_ m (by omega) _).mono ?_
  rintro e w' ⟨rfl, rfl⟩
  go_wp2_with ((refine wpList_copy_ints (o := ⟨some 33, _, _, _, _, _⟩) rfl (.tmp 31) (.tmp 32) rfl B 0 m m b off 1 c (by rfl) (by rfl) (ones m 0) [1] 1 HCF B w HBM.out (Nat.le_refl _) ?_; intro w5 HO5 HB5))
  have HO6 : Hid (OwnI w5 B (ones m 1)) := by
    have h := HO5.out
    rw [ones_first h1] at h
    exact h
  clear HO5 HMD HBM HCM hmk HCF
  go_loopw [8] (fun i wr => ∃ k : Nat, 1 ≤ k ∧ k ≤ m ∧ i = .int .i64 k ∧ OwnI wr B (ones m k) ∧ Below B w wr) (fun i _ => m - (intOf i).toNat)
  case atStart => exact ⟨1, Nat.le_refl _, h1, rfl, HO6.out, HB5.out⟩
  case round =>
    obtain ⟨k, hk1, hkm, rfl, hO, hb⟩ := hrel
    have HO := Lib.hid hO
    have HB := Lib.hid hb
    clear hO hb
    by_cases hlt : k < m
    · have hlt' : (k : Int) < (m : Int) := by omega
      have hle' : (k : Int) ≤ (m : Int) := by omega
      have hk0 : (0 : Int) ≤ (k : Int) := by omega
      obtain ⟨j, hj⟩ : ∃ j, Nat.min k (m - k) = j := ⟨_, rfl⟩
      have hjb : 1 ≤ j ∧ j ≤ k ∧ k + j ≤ m := by simp [Nat.min_def] at hj; split at hj <;> omega
      have HCF : Hid (CopyFit wr.drew B k (m - k) B 0 k (ones m k) (ones m k) j) := ⟨HO.out.drew, fun i hi => by rw [Nat.zero_add]; exact HO.out.drew.cell (by rw [ones_len]; omega), by rw [ones_len]; omega, hj.symm, by rw [ones_len]; omega⟩
      have HBD : Hid (Below B w wr.drew) := ⟨HB.out.os, HB.out.tape, HB.out.output, HB.out.size, HB.out.block⟩
      have hne : ¬ m = k := by omega
      have hj0 : (0 : Int) ≤ (j : Int) := by omega
      have hjm : (k : Int) + (j : Int) ≤ (m : Int) := by omega
      clear hj
      go_wp2_with fail
      refine wp_region_T (S := (fun _ => True)) 9 (by kernel_rfl) (trivial) (fun hHeld => ?_)
      refine wpAnyT_take (i := 0) (v := ?_) rfl (by decide +kernel) (by decide +kernel) (by decide +kernel) (by decide +kernel) (by decide +kernel) (fun _ _ _ h => h) (Or.inl ⟨by rfl, ?_⟩) (by assumption) ?_
      rotate_left
      · intro w hSw; (try dsimp only at hSw); first | (go_simp; done) | (go_simp; with_reducible rfl)
      try simp only [Act.put, List.getElem_toArray, List.getElem_cons_succ, List.getElem_cons_zero, List.setIfInBounds_toArray, List.set_cons_zero, List.set_cons_succ]
      refine wpAnyT_take (i := 1) (v := ?_) rfl (by decide +kernel) (by decide +kernel) (by decide +kernel) (by decide +kernel) (by decide +kernel) (fun _ _ _ h => h) (Or.inl ⟨by rfl, ?_⟩) (by assumption) ?_
      rotate_left
      · intro w hSw; (try dsimp only at hSw); first | (go_simp; done) | (go_simp; with_reducible rfl)
      try simp only [Act.put, List.getElem_toArray, List.getElem_cons_succ, List.getElem_cons_zero, List.setIfInBounds_toArray, List.set_cons_zero, List.set_cons_succ]
      refine wpAnyT_take (i := 2) (v := ?_) rfl (by decide +kernel) (by decide +kernel) (by decide +kernel) (by decide +kernel) (by decide +kernel) (fun _ _ _ h => h) (Or.inl ⟨by rfl, ?_⟩) (by assumption) ?_
      rotate_left
      · intro w hSw; (try dsimp only at hSw); first | (go_simp; done) | (go_simp; with_reducible rfl)
      try simp only [Act.put, List.getElem_toArray, List.getElem_cons_succ, List.getElem_cons_zero, List.setIfInBounds_toArray, List.set_cons_zero, List.set_cons_succ]
      refine wpAnyT_take (i := 3) (v := ?_) rfl (by decide +kernel) (by decide +kernel) (by decide +kernel) (by decide +kernel) (by decide +kernel) (fun _ _ _ h => h) (Or.inl ⟨by rfl, ?_⟩) (by assumption) ?_
      rotate_left
      · intro w hSw; (try dsimp only at hSw); first | (go_simp; done) | (go_simp; with_reducible rfl)
      try simp only [Act.put, List.getElem_toArray, List.getElem_cons_succ, List.getElem_cons_zero, List.setIfInBounds_toArray, List.set_cons_zero, List.set_cons_succ]
      refine wpAnyT_take (i := 4) (v := ?_) rfl (by decide +kernel) (by decide +kernel) (by decide +kernel) (by decide +kernel) (by decide +kernel) (fun _ _ _ h => h) (Or.inl ⟨by rfl, ?_⟩) (by assumption) ?_
      rotate_left
      · intro w hSw; (try dsimp only at hSw); first | (go_simp; done) | (go_simp; with_reducible rfl)
      try simp only [Act.put, List.getElem_toArray, List.getElem_cons_succ, List.getElem_cons_zero, List.setIfInBounds_toArray, List.set_cons_zero, List.set_cons_succ]
      refine wpAnyT_take (i := 5) (v := ?_) rfl (by decide +kernel) (by decide +kernel) (by decide +kernel) (by decide +kernel) (by decide +kernel) (fun _ _ _ h => h) (Or.inl ⟨by rfl, ?_⟩) (by assumption) ?_
      rotate_left
      · intro w hSw; (try dsimp only at hSw); first | (go_simp; done) | (go_simp; with_reducible rfl)
      try simp only [Act.put, List.getElem_toArray, List.getElem_cons_succ, List.getElem_cons_zero, List.setIfInBounds_toArray, List.set_cons_zero, List.set_cons_succ]
      refine wpAnyT_take (i := 6) (v := ?_) rfl (by decide +kernel) (by decide +kernel) (by decide +kernel) (by decide +kernel) (by decide +kernel) (fun _ _ _ h => h) (Or.inl ⟨by rfl, ?_⟩) (by assumption) ?_
      rotate_left
      · intro w hSw; (try dsimp only at hSw); first | (go_simp; done) | (go_simp; with_reducible rfl)
      try simp only [Act.put, List.getElem_toArray, List.getElem_cons_succ, List.getElem_cons_zero, List.setIfInBounds_toArray, List.set_cons_zero, List.set_cons_succ]
      refine wpAnyT_one (i := 7) (by kernel_rfl) rfl (fun K hK => ?_)
      ((refine step_copy_ints (by rfl) (.tmp 41) (.tmp 44) (by rfl) B k (m - k) (m - k) B 0 k m (by rfl) (by rfl) (ones m k) (ones m k) j HCF B w HBD.out (Nat.le_refl _) ?_); intro w6 HO7 HB7)
      refine hK.out _ _ ?_ (fun hHeld2 => ?_)
      · (try dsimp only); first | done | trivial
      clear hK K hHeld
      have hHeld := hHeld2
      clear hHeld2
      try simp only [Act.put, List.getElem_toArray, List.getElem_cons_succ, List.getElem_cons_zero, List.setIfInBounds_toArray, List.set_cons_zero, List.set_cons_succ]
      refine wpAnyT_take (i := 8) (v := ?_) rfl (by decide +kernel) (by decide +kernel) (by decide +kernel) (by decide +kernel) (by decide +kernel) (fun _ _ _ h => h) (Or.inl ⟨by rfl, ?_⟩) (by assumption) ?_
      rotate_left
      · intro w hSw; (try dsimp only at hSw); first | (go_simp; done) | (go_simp; with_reducible rfl)
      try simp only [Act.put, List.getElem_toArray, List.getElem_cons_succ, List.getElem_cons_zero, List.setIfInBounds_toArray, List.set_cons_zero, List.set_cons_succ]
      refine wpAnyT_last (i := 9) (by kernel_rfl) (by kernel_rfl) rfl (by kernel_rfl) (fun K hK => ?_)
      go_simp
      refine hK.out _ _ ?_
      clear hK K
      try simp only [Act.put, List.getElem_toArray, List.getElem_cons_succ, List.getElem_cons_zero, List.setIfInBounds_toArray, List.set_cons_zero, List.set_cons_succ]
      have HO8 : Hid (OwnI w6 B (ones m (k + j))) := by
        have h := HO7.out
        rw [ones_copy (by omega) (by omega)] at h
        exact h
      have hw : IntKind.i64.wrap ((k : Int) + (j : Int)) = ((k + j : Nat) : Int) := by rw [IntWalk.i64_in _ (by omega)]; omega
      rw [hw]
      clear hw HO7
      go_wp2
      go_roundw
      case rel => exact ⟨k + j, by omega, by omega, by go_num, HO8.out, HB7.out⟩
      case measure => simp [intOf]; omega
    · obtain rfl : m = k := by omega
      have HF : Hid (OwnI wr B (List.replicate m 1)) := by
        have h := HO.out
        rw [ones_all] at h
        exact h
      go_wp2
      go_ret
      exact ⟨rfl, HF.out, HB.out⟩
end Go.Proofs.Ytadkkkdecejkeaa

