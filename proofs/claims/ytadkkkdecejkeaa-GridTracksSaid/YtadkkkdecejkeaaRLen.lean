/- length of the reference of package box. -/
import Derived.Test.YtadkkkdecejkeaaFillTo
import Derived.Test.YtadkkkdecejkeaaBoxStep
namespace Go.Proofs.Ytadkkkdecejkeaa
open Go.RowKit
set_option linter.unusedVariables false
set_option linter.unusedSimpArgs false

set_option maxHeartbeats 400000 in
theorem rlen_any (x : Int) (w : World) : Calls Try.prog 50 #[.int .i64 x] w fun e w' => e = .returned (.bool (lenB x)) ∧ w = w' := by
  go_enter Try.func50, Try.ntmps50
  go_wp2
  all_goals
    go_ret
    exact ⟨ret_bool (by rw [Bool.eq_iff_iff]; simp [lenB]; try omega), rfl⟩
end Go.Proofs.Ytadkkkdecejkeaa
