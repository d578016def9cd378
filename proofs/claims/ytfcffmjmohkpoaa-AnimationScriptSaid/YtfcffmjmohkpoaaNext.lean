/- next of package animation (printed by wip/gen_anim3.py). -/
import Derived.Test.YtfcffmjmohkpoaaValue
import Derived.Deep.AppendLies
import Derived.Deep.RegionLaw
namespace Go.Proofs.Ytfcffmjmohkpoaa
open Go.RowKit
set_option linter.unusedVariables false
set_option linter.unusedSimpArgs false

/-- The call returns the value v; of what was there nothing has turned. -/
def GivesV (v : Value) (w : World) (e : Ending) (w' : World) : Prop := e = .returned v ∧ Below w.heap.size w w'

set_option maxHeartbeats 2000000 in
set_option maxRecDepth 100000 in
theorem next_curve (n p f t s du x1 y1 x2 y2 st da x v nw now : Int) (w : World) (hs0 : 0 ≤ s) (hs1 : s ≤ 1099511627776) (hn0 : 0 ≤ now) (hn1 : now ≤ 1099511627776) :
    Calls Try.prog 57 #[.agg #[.int .i64 n, .int .i64 p, .int .i64 1, .int .i64 f, .int .i64 t, .int .i64 s, .int .i64 du, .int .i64 x1, .int .i64 y1, .int .i64 x2, .int .i64 y2, .int .i64 st, .int .i64 da, .int .i64 x, .int .i64 v, .int .i64 nw], .int .i64 now] w (GivesV (.tuple #[.agg #[.int .i64 n, .int .i64 p, .int .i64 1, .int .i64 f, .int .i64 t, .int .i64 s, .int .i64 du, .int .i64 x1, .int .i64 y1, .int .i64 x2, .int .i64 y2, .int .i64 st, .int .i64 da, .int .i64 x, .int .i64 v, .int .i64 nw], .bool (decide (now - s < du))]) w) := by
  go_enter Try.func57, Try.ntmps57
  go_wp2_with fail
  have hx : IntKind.i64.wrap (now - s) = now - s := IntWalk.i64_in _ (by omega)
  go_region_held3 (fun w' => w'.cell? ⟨w.heap.size, 0, none⟩ = some (.int .i64 n) ∧ w'.cell? ⟨w.heap.size, 1, none⟩ = some (.int .i64 p) ∧ w'.cell? ⟨w.heap.size, 2, none⟩ = some (.int .i64 1) ∧ w'.cell? ⟨w.heap.size, 3, none⟩ = some (.int .i64 f) ∧ w'.cell? ⟨w.heap.size, 4, none⟩ = some (.int .i64 t) ∧ w'.cell? ⟨w.heap.size, 5, none⟩ = some (.int .i64 s) ∧ w'.cell? ⟨w.heap.size, 6, none⟩ = some (.int .i64 du) ∧ w'.cell? ⟨w.heap.size, 7, none⟩ = some (.int .i64 x1) ∧ w'.cell? ⟨w.heap.size, 8, none⟩ = some (.int .i64 y1) ∧ w'.cell? ⟨w.heap.size, 9, none⟩ = some (.int .i64 x2) ∧ w'.cell? ⟨w.heap.size, 10, none⟩ = some (.int .i64 y2) ∧ w'.cell? ⟨w.heap.size, 11, none⟩ = some (.int .i64 st) ∧ w'.cell? ⟨w.heap.size, 12, none⟩ = some (.int .i64 da) ∧ w'.cell? ⟨w.heap.size, 13, none⟩ = some (.int .i64 x) ∧ w'.cell? ⟨w.heap.size, 14, none⟩ = some (.int .i64 v) ∧ w'.cell? ⟨w.heap.size, 15, none⟩ = some (.int .i64 nw)) (first | (refine ⟨by go_simp, by go_simp, by go_simp, by go_simp, by go_simp, by go_simp, by go_simp, by go_simp, by go_simp, by go_simp, by go_simp, by go_simp, by go_simp, by go_simp, by go_simp, by go_simp⟩) | go_keep) (fail)
  go_split_ands
  go_wp2
  exact bodyPost_ret (v := .tuple #[.agg #[.int .i64 n, .int .i64 p, .int .i64 1, .int .i64 f, .int .i64 t, .int .i64 s, .int .i64 du, .int .i64 x1, .int .i64 y1, .int .i64 x2, .int .i64 y2, .int .i64 st, .int .i64 da, .int .i64 x, .int .i64 v, .int .i64 nw], .bool (decide (now - s < du))]) (by simp [results, Try.results57, go_sem]) rfl ⟨rfl, (below2 _ _ _).drew⟩
end Go.Proofs.Ytfcffmjmohkpoaa
