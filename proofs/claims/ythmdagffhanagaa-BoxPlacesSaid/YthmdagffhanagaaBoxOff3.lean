/- Offsets of package box for all arguments; Align of package box and of the reference. -/
import Derived.Test.YthmdagffhanagaaBoxOff2
import Derived.Test.YthmdagffhanagaaBaseR
import Derived.Test.YthmdagffhanagaaFloorR
namespace Go.Proofs.Ythmdagffhanagaa
open Go.RowKit
set_option linter.unusedVariables false
set_option linter.unusedSimpArgs false

theorem offOk_iff {av gp ju : Int} {s : List Int} : offOk av gp ju s = true ↔ s.length ≤ 100 ∧ (0 ≤ av ∧ av ≤ 1048576) ∧ (0 ≤ gp ∧ gp ≤ 1048576) ∧ lensB s = true ∧ 0 ≤ ju ∧ ju ≤ 3 := by
  simp [offOk, lenB_iff, and_assoc]
theorem GivesI.no {av gp ju : Int} {s : List Int} {right : Bool} {w w' : World} (h : offOk av gp ju s = false) (hb : Below w.heap.size w w') : GivesI (offL av gp ju s right) w (.returned (.slice none 0 0)) w' :=
  ⟨_, rfl, by unfold offL; rw [if_neg (by rw [h]; simp)]; exact IsInts.nil w', hb⟩

set_option maxHeartbeats 2000000 in
set_option maxRecDepth 100000 in
theorem offs_no (av gp ju : Int) (s : List Int) (right : Bool) (v : Value) (w : World) (hv : IsInts w v s) (hno : offOk av gp ju s = false) :
    Calls Try.prog 20 #[.int .i64 av, .int .i64 gp, .int .i64 ju, v, .bool right] w (GivesI (offL av gp ju s right) w) := by
  have HNO := Lib.hid hno
  have HV := Lib.hid hv
  obtain ⟨a, cap, rfl, h1, h2, h3⟩ := hv
  obtain ⟨n, hn⟩ : ∃ n, s.length = n := ⟨_, rfl⟩
  have HN := Lib.hid hn
  rw [hn] at h1 h3 HV ⊢
  unfold maxLen at h2
  clear h3 hn hno
  by_cases hl : 100 < n
  · have hl' : (100 : Int) < (n : Int) := by omega
    go_enter Try.func20, Try.ntmps20
    go_wp2
    go_ret
    exact GivesI.no HNO.out (Below.refl _ _)
  have hl' : (n : Int) ≤ 100 := by omega
  have HIB : Hid (IsInts (w.alloc (.cells #[.int .i64 av, .int .i64 gp] 3)) (.slice (some ⟨w.heap.size, 0, none⟩) 2 2) [av, gp]) := lit_ints [av, gp] rfl (by simp [maxLen]) 2 rfl
  have HBA : Hid (Below w.heap.size w (w.alloc (.cells #[.int .i64 av, .int .i64 gp] 3))) := (Below.refl _ _).alloc (Nat.le_refl _) _
  have HVB : Hid (IsInts (w.alloc (.cells #[.int .i64 av, .int .i64 gp] 3)) (.slice a n cap) s) := HV.out.of_below HBA.out
  cases hag : lensB [av, gp] with
  | false =>
    have HAG := Lib.hid hag
    clear hag
    go_enter Try.func20, Try.ntmps20
    go_wp2_with fail
    refine (length_any _ [av, gp] _ HIB.out).mono ?_
    rw [HAG.out]
    rintro e w' ⟨rfl, rfl⟩
    go_wp2
    go_ret
    exact GivesI.no HNO.out HBA.out
  | true =>
    have HAG := Lib.hid hag
    clear hag
    cases hs : lensB s with
    | false =>
      have HS := Lib.hid hs
      clear hs
      go_enter Try.func20, Try.ntmps20
      go_wp2_with fail
      refine (length_any _ [av, gp] _ HIB.out).mono ?_
      rw [HAG.out]
      rintro e w' ⟨rfl, rfl⟩
      go_wp2_with fail
      refine (length_any _ s _ HVB.out).mono ?_
      rw [HS.out]
      rintro e w' ⟨rfl, rfl⟩
      go_wp2
      go_ret
      exact GivesI.no HNO.out HBA.out
    | true =>
      have HS := Lib.hid hs
      clear hs
      have hj : ju < 0 ∨ 3 < ju := by
        apply Classical.byContradiction
        intro h
        have h1 := HAG.out
        rw [lensB_two, Bool.and_eq_true, lenB_iff, lenB_iff] at h1
        have : offOk av gp ju s = true := offOk_iff.2 ⟨by rw [HN.out]; omega, h1.1, h1.2, HS.out, by omega, by omega⟩
        rw [HNO.out] at this; cases this
      by_cases hj0 : ju < 0
      · clear hj
        go_enter Try.func20, Try.ntmps20
        go_wp2_with fail
        refine (length_any _ [av, gp] _ HIB.out).mono ?_
        rw [HAG.out]
        rintro e w' ⟨rfl, rfl⟩
        go_wp2_with fail
        refine (length_any _ s _ HVB.out).mono ?_
        rw [HS.out]
        rintro e w' ⟨rfl, rfl⟩
        go_wp2
        go_ret
        exact GivesI.no HNO.out HBA.out
      · have hj3 : 3 < ju := by omega
        clear hj
        go_enter Try.func20, Try.ntmps20
        go_wp2_with fail
        refine (length_any _ [av, gp] _ HIB.out).mono ?_
        rw [HAG.out]
        rintro e w' ⟨rfl, rfl⟩
        go_wp2_with fail
        refine (length_any _ s _ HVB.out).mono ?_
        rw [HS.out]
        rintro e w' ⟨rfl, rfl⟩
        go_wp2
        go_ret
        exact GivesI.no HNO.out HBA.out
/-- OFFSETS: for all arguments. -/
theorem offs_any (av gp ju : Int) (s : List Int) (right : Bool) (v : Value) (w : World) (hv : IsInts w v s) :
    Calls Try.prog 20 #[.int .i64 av, .int .i64 gp, .int .i64 ju, v, .bool right] w (GivesI (offL av gp ju s right) w) := by
  cases h : offOk av gp ju s with
  | true => exact offs_ok av gp ju s right v w hv h
  | false => exact offs_no av gp ju s right v w hv h

/-! ### Align -/
def alOk (al av sz : Int) : Bool := lenB av && lenB sz && (decide (0 ≤ al) && decide (al ≤ 4))
def alExt (al av sz : Int) : Int := if al = 3 then av else sz
def alAt0 (al av sz : Int) : Int := if al = 1 then av - sz else if al = 2 then floorZ (av - sz) 2 else 0
def alAt (al av sz : Int) (right : Bool) : Int := if right then av - alExt al av sz - alAt0 al av sz else alAt0 al av sz
/-- The position and the extent of Align. -/
def alV (al av sz : Int) (right : Bool) : Value := if alOk al av sz then .tuple #[.int .i64 (alAt al av sz right), .int .i64 (alExt al av sz)] else .tuple #[.int .i64 0, .int .i64 0]
theorem alOk_iff {al av sz : Int} : alOk al av sz = true ↔ (0 ≤ av ∧ av ≤ 1048576) ∧ (0 ≤ sz ∧ sz ≤ 1048576) ∧ 0 ≤ al ∧ al ≤ 4 := by
  simp [alOk, lenB_iff, and_assoc]
theorem al_bd {al av sz : Int} (h : alOk al av sz = true) : (0 ≤ alExt al av sz ∧ alExt al av sz ≤ 1048576) ∧ -1073741824 ≤ alAt0 al av sz ∧ alAt0 al av sz ≤ 1073741824 := by
  obtain ⟨h1, h2, h3⟩ := alOk_iff.1 h
  unfold alExt alAt0
  refine ⟨by split <;> omega, ?_⟩
  split
  · omega
  · split
    · exact floor2_bd (by omega) (by omega)
    · omega

set_option maxHeartbeats 2000000 in
theorem align_any (al av sz : Int) (right : Bool) (w : World) :
    Calls Try.prog 24 #[.int .i64 al, .int .i64 av, .int .i64 sz, .bool right] w fun e w' => e = .returned (alV al av sz right) ∧ Below w.heap.size w w' := by
  have HIB : Hid (IsInts (w.alloc (.cells #[.int .i64 av, .int .i64 sz] 3)) (.slice (some ⟨w.heap.size, 0, none⟩) 2 2) [av, sz]) := lit_ints [av, sz] rfl (by simp [maxLen]) 2 rfl
  have HBA : Hid (Below w.heap.size w (w.alloc (.cells #[.int .i64 av, .int .i64 sz] 3))) := (Below.refl _ _).alloc (Nat.le_refl _) _
  cases hag : lensB [av, sz] with
  | false =>
    have HAG := Lib.hid hag
    have HR : Hid (alV al av sz right = .tuple #[.int .i64 0, .int .i64 0]) := by
      show _ = _
      rw [lensB_two] at hag
      unfold alV alOk
      rw [hag]; rfl
    clear hag
    go_enter Try.func24, Try.ntmps24
    go_wp2_with fail
    refine (length_any _ [av, sz] _ HIB.out).mono ?_
    rw [HAG.out]
    rintro e w' ⟨rfl, rfl⟩
    go_wp2
    go_ret2
    exact ⟨by rw [HR.out]; rfl, HBA.out⟩
  | true =>
    have HAG := Lib.hid hag
    rw [lensB_two, Bool.and_eq_true, lenB_iff, lenB_iff] at hag
    obtain ⟨⟨a0, a1⟩, s0, s1⟩ := hag
    by_cases hj : 0 ≤ al ∧ al ≤ 4
    · have hok : alOk al av sz = true := alOk_iff.2 ⟨⟨a0, a1⟩, ⟨s0, s1⟩, hj⟩
      have hbd := (al_bd hok).2
      have HR : Hid (alV al av sz right = .tuple #[.int .i64 (alAt al av sz right), .int .i64 (alExt al av sz)]) := by
        show _ = _
        unfold alV
        rw [if_pos hok]
      have hk : al = 0 ∨ al = 1 ∨ al = 2 ∨ al = 3 ∨ al = 4 := by omega
      clear hok hj
      rcases hk with rfl | rfl | rfl | rfl | rfl
      all_goals
        cases right
        all_goals
          simp [alAt, alAt0, alExt] at hbd HR
          go_enter Try.func24, Try.ntmps24
          go_wp2_with fail
          refine (length_any _ [av, sz] _ HIB.out).mono ?_
          rw [HAG.out]
          rintro e w' ⟨rfl, rfl⟩
          go_wp2_with (go_at_call 33; refine (Floor_any _ _ _).mono ?_; rintro e w' ⟨rfl, rfl⟩)
          go_ret2
          exact ⟨by rw [HR.out]; first | rfl | simp, HBA.out⟩
    · have HR : Hid (alV al av sz right = .tuple #[.int .i64 0, .int .i64 0]) := by
        show _ = _
        unfold alV
        rw [if_neg (fun h => hj (alOk_iff.1 h).2.2)]
      have e0 : (al == 0) = false := by simp; omega
      have e1 : (al == 1) = false := by simp; omega
      have e2 : (al == 2) = false := by simp; omega
      have e3 : (al == 3) = false := by simp; omega
      have e4 : (al == 4) = false := by simp; omega
      clear hj
      go_enter Try.func24, Try.ntmps24
      go_wp2_with fail
      refine (length_any _ [av, sz] _ HIB.out).mono ?_
      rw [HAG.out]
      rintro e w' ⟨rfl, rfl⟩
      go_wp2
      go_ret2
      exact ⟨by rw [HR.out]; rfl, HBA.out⟩
end Go.Proofs.Ythmdagffhanagaa

