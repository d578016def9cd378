/- next of a spring: a case (printed by wip/gen_anim4.py). -/
import Derived.Test.YtfcffmjmohkpoaaNext
namespace Go.Proofs.Ytfcffmjmohkpoaa
open Go.RowKit
set_option linter.unusedVariables false
set_option linter.unusedSimpArgs false

set_option maxHeartbeats 4000000 in
set_option maxRecDepth 100000 in
theorem next_s2 (n p f t s du x1 y1 x2 y2 st da x v nw now X1 X2 : Int) (w : World) (hs0 : 0 ≤ s) (hs1 : s ≤ 1099511627776) (hn0 : 0 ≤ now) (hn1 : now ≤ 1099511627776) (ht0 : -1048576 ≤ t) (ht1 : t ≤ 1048576) (hw0 : 0 ≤ nw) (hw1 : nw ≤ 1099511627776) (HX : Hid ((⟨n, p, 2, f, t, s, du, x1, y1, x2, y2, st, da, x, v, nw⟩ : Anim).state now = (X1, X2))) (h1 : X1 = 65536 * t) (h2 : ¬ X2 = 0) :
    Calls Try.prog 57 #[.agg #[.int .i64 n, .int .i64 p, .int .i64 2, .int .i64 f, .int .i64 t, .int .i64 s, .int .i64 du, .int .i64 x1, .int .i64 y1, .int .i64 x2, .int .i64 y2, .int .i64 st, .int .i64 da, .int .i64 x, .int .i64 v, .int .i64 nw], .int .i64 now] w (GivesV (.tuple #[.agg #[.int .i64 n, .int .i64 p, .int .i64 2, .int .i64 f, .int .i64 t, .int .i64 s, .int .i64 du, .int .i64 x1, .int .i64 y1, .int .i64 x2, .int .i64 y2, .int .i64 st, .int .i64 da, .int .i64 X1, .int .i64 X2, .int .i64 now], .bool (!(decide (X1 = 65536 * t) && decide (X2 = 0)))]) w) := by
  have e1 : (X1 != 65536 * t) = false := by simpa using h1
  have e2 : (X2 != 0) = true := by simpa using h2
  have HR : Hid ((!(decide (X1 = 65536 * t) && decide (X2 = 0))) = true) := by show _ = _; simp [h1, h2]
  skip
  rw [HR.out]
  clear h1 h2
  go_enter Try.func57, Try.ntmps57
  go_wp2_with (go_at_call 55; refine (state_any _ _ _ _ _ _ _ _ _ _ _ _ _ _ _ _ _ _ (by omega) (by omega) (by omega) (by omega) (by omega) (by omega) (by omega) (by omega)).mono ?_; rw [HX.out]; rintro e w' ⟨rfl, rfl⟩)
  have hx : IntKind.i64.wrap (65536 * t) = 65536 * t := IntWalk.i64_in _ (by omega)
  go_region_held3 (fun w' => w'.cell? ⟨w.heap.size, 0, none⟩ = some (.int .i64 n) ∧ w'.cell? ⟨w.heap.size, 1, none⟩ = some (.int .i64 p) ∧ w'.cell? ⟨w.heap.size, 2, none⟩ = some (.int .i64 2) ∧ w'.cell? ⟨w.heap.size, 3, none⟩ = some (.int .i64 f) ∧ w'.cell? ⟨w.heap.size, 4, none⟩ = some (.int .i64 t) ∧ w'.cell? ⟨w.heap.size, 5, none⟩ = some (.int .i64 s) ∧ w'.cell? ⟨w.heap.size, 6, none⟩ = some (.int .i64 du) ∧ w'.cell? ⟨w.heap.size, 7, none⟩ = some (.int .i64 x1) ∧ w'.cell? ⟨w.heap.size, 8, none⟩ = some (.int .i64 y1) ∧ w'.cell? ⟨w.heap.size, 9, none⟩ = some (.int .i64 x2) ∧ w'.cell? ⟨w.heap.size, 10, none⟩ = some (.int .i64 y2) ∧ w'.cell? ⟨w.heap.size, 11, none⟩ = some (.int .i64 st) ∧ w'.cell? ⟨w.heap.size, 12, none⟩ = some (.int .i64 da) ∧ w'.cell? ⟨w.heap.size, 13, none⟩ = some (.int .i64 X1) ∧ w'.cell? ⟨w.heap.size, 14, none⟩ = some (.int .i64 X2) ∧ w'.cell? ⟨w.heap.size, 15, none⟩ = some (.int .i64 now)) (first | (refine ⟨by go_simp, by go_simp, by go_simp, by go_simp, by go_simp, by go_simp, by go_simp, by go_simp, by go_simp, by go_simp, by go_simp, by go_simp, by go_simp, by go_simp, by go_simp, by go_simp⟩) | go_keep) (fail)
  go_split_ands
  go_wp2
  exact bodyPost_ret (v := .tuple #[.agg #[.int .i64 n, .int .i64 p, .int .i64 2, .int .i64 f, .int .i64 t, .int .i64 s, .int .i64 du, .int .i64 x1, .int .i64 y1, .int .i64 x2, .int .i64 y2, .int .i64 st, .int .i64 da, .int .i64 X1, .int .i64 X2, .int .i64 now], .bool true]) (by simp [results, Try.results57, go_sem]) rfl ⟨rfl, (below3 _ _ _ _).drew⟩

end Go.Proofs.Ytfcffmjmohkpoaa
