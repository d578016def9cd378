/- The walk of the law ThemeSizes. -/
import Derived.Test.YtcjhefkipghloaaAwake16
import Derived.Test.YtcjhefkipghloaaOpen
import Derived.Deep.RegionHeld3
namespace Go.Proofs.Ytcjhefkipghloaa
open Go.RowKit

set_option maxHeartbeats 1600000 in
set_option maxRecDepth 100000 in
theorem sizes_core (scale size other : Int) (w : World) : Calls Try.prog 3 #[.int .i64 scale, .int .i64 size, .int .i64 other] w (True_ w) := by
  have hb := sizeZ_bd scale size
  have hm : other < size ∨ sizeZ scale size ≤ sizeZ scale other := by
    by_cases c : other < size
    · exact .inl c
    · exact .inr (sizeZ_mono (by omega))
  have HM := Lib.hid hm
  clear hm
  go_enter Try.func3, Try.ntmps3
  go_wp2_with fail
  go_region_held3 (fun w' => w'.cell? ⟨w.heap.size, 0, none⟩ = some (.bool false) ∧ w'.cell? ⟨w.heap.size, 1, none⟩ = some (.bool false) ∧ w'.cell? ⟨w.heap.size, 2, none⟩ = some (.int .i64 scale) ∧ Below w.heap.size w w' ∧ w.heap.size < w'.heap.size) (first | (refine ⟨by simp, by simp, by simp, ((Below.refl _ _).alloc (Nat.le_refl _) _).drew, by simp⟩) | (go_split_ands; exact ⟨(hb'.cell (p := ⟨w.heap.size, 0, none⟩) (by assumption)).trans (by assumption), (hb'.cell (p := ⟨w.heap.size, 1, none⟩) (by assumption)).trans (by assumption), (hb'.cell (p := ⟨w.heap.size, 2, none⟩) (by assumption)).trans (by assumption), Below.trans (by assumption) (hb'.mono (by omega)), by have := hb'.size; omega⟩) | go_keep) (first | (go_at_call 8; refine (size_any _ _ _ _ _).mono ?_; rintro e w' ⟨rfl, hb'⟩))
  go_split_ands
  have hB : Below w.heap.size w w' := by assumption
  have HBx := Lib.hid hB
  clear hB
  go_wp2_with fail
  refine (rsize_any _ _ _ _ _).mono ?_
  rintro e w6 ⟨rfl, hb6⟩
  rcases HM.out with hm | hm
  all_goals
    go_wp2_with (go_at_call 10; refine (awake_any _).mono ?_; rintro e w7 ⟨rfl, hb7⟩)
    all_goals go_ret
    all_goals exact ⟨rfl, (HBx.out.trans (hb6.mono HBx.out.size)).trans (‹Below w6.heap.size w6 _›.mono (Nat.le_trans HBx.out.size hb6.size))⟩

theorem walk_ThemeSizes (u0 : Value) (v0 : Int) (u1 : Value) (v1 : Int) (u2 : Value) (v2 : Int) (w : World)
    (h0 : u0 = .int .i64 v0 ∧ (Lit.int .i64 v0).wf = true) (h1 : u1 = .int .i64 v1 ∧ (Lit.int .i64 v1).wf = true) (h2 : u2 = .int .i64 v2 ∧ (Lit.int .i64 v2).wf = true) :
    Calls Try.prog 3 #[u0, u1, u2] w (True_ w) := by
  obtain ⟨rfl, -⟩ := h0
  obtain ⟨rfl, -⟩ := h1
  obtain ⟨rfl, -⟩ := h2
  exact sizes_core v0 v1 v2 w
end Go.Proofs.Ytcjhefkipghloaa
