/- A literal list of one animation; spring of the law's package. -/
import Derived.Test.YtfcffmjmohkpoaaAnims
namespace Go.Proofs.Ytfcffmjmohkpoaa
open Go.RowKit
set_option linter.unusedVariables false
set_option linter.unusedSimpArgs false

theorem lit_anim {w : World} {g : Nat} {t : TypeId} (a : Anim) (hg : w.heap[g]? = some (.cells #[.int .i64 a.node, .int .i64 a.prop, .int .i64 a.kind, .int .i64 a.start0, .int .i64 a.goal, .int .i64 a.begin_, .int .i64 a.dur, .int .i64 a.x1, .int .i64 a.y1, .int .i64 a.x2, .int .i64 a.y2, .int .i64 a.stiff, .int .i64 a.damp, .int .i64 a.x, .int .i64 a.v, .int .i64 a.now] t (0, 0))) :
    IsAnims w (.slice (some ⟨g, 0, none⟩) 1 1) [a] := by
  refine ⟨_, 1, rfl, Nat.le_refl _, by unfold maxLen; omega, fun _ => ⟨g, 0, rfl, lt_of_block hg, fun i hi j hj => ?_⟩⟩
  have hi0 : i = 0 := by simpa using hi
  subst hi0
  rw [Nat.zero_mul, Nat.zero_add, cell_of_row w g j _ t (0, 0) hg]
  have e : gf ([a].map recA) 0 j = (recA a).getD j 0 := rfl
  rw [e]
  have hj16 : j = 0 ∨ j = 1 ∨ j = 2 ∨ j = 3 ∨ j = 4 ∨ j = 5 ∨ j = 6 ∨ j = 7 ∨ j = 8 ∨ j = 9 ∨ j = 10 ∨ j = 11 ∨ j = 12 ∨ j = 13 ∨ j = 14 ∨ j = 15 := by omega
  rcases hj16 with rfl | rfl | rfl | rfl | rfl | rfl | rfl | rfl | rfl | rfl | rfl | rfl | rfl | rfl | rfl | rfl <;> rfl

/-- The call returns the value v; of what was there nothing has turned. -/
def GivesL (v : Value) (w : World) (e : Ending) (w' : World) : Prop := e = .returned v ∧ Below w.heap.size w w'
set_option maxHeartbeats 1000000 in
set_option maxRecDepth 100000 in
theorem lspring_any (f t : Int) (w : World) (hf : -1000 ≤ f ∧ f ≤ 1000) :
    Calls Try.prog 29 #[.int .i64 f, .int .i64 t] w (GivesL (.agg #[.int .i64 1, .int .i64 0, .int .i64 2, .int .i64 f, .int .i64 t, .int .i64 0, .int .i64 0, .int .i64 0, .int .i64 0, .int .i64 0, .int .i64 0, .int .i64 200, .int .i64 240, .int .i64 (65536 * f), .int .i64 0, .int .i64 0]) w) := by
  go_enter Try.func29, Try.ntmps29
  go_wp2
  exact bodyPost_ret (v := .agg #[.int .i64 1, .int .i64 0, .int .i64 2, .int .i64 f, .int .i64 t, .int .i64 0, .int .i64 0, .int .i64 0, .int .i64 0, .int .i64 0, .int .i64 0, .int .i64 200, .int .i64 240, .int .i64 (65536 * f), .int .i64 0, .int .i64 0]) (by simp [results, Try.results29, go_sem]) rfl ⟨rfl, below_new _ _⟩
end Go.Proofs.Ytfcffmjmohkpoaa
