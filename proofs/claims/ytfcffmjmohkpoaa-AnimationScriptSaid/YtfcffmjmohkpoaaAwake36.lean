/- The sanity check at the end of each law of package widgetrylaw36. -/
import Derived.Test.YtfcffmjmohkpoaaRest
import Derived.Test.YtfcffmjmohkpoaaSpringW
namespace Go.Proofs.Ytfcffmjmohkpoaa
open Go.RowKit
set_option linter.unusedVariables false

set_option maxHeartbeats 400000 in
theorem awake_any (w : World) : Calls Try.prog 18 #[] w (True_ w) := by
  have HS := Lib.hid awake_spring
  have HE := Lib.hid awake_ease
  go_enter Try.func18, Try.ntmps18
  go_wp2_with fail
  refine (Spring_any _ _ _ _ _ _ _).mono ?_
  rw [HS.out]
  rintro e w' ⟨rfl, rfl⟩
  go_wp2_with fail
  refine (Ease_any _ _ _ _ _ _ _).mono ?_
  rw [HE.out]
  rintro e w' ⟨rfl, hb⟩
  have HB := Lib.hid hb
  clear hb
  go_wp2
  go_ret
  exact ⟨rfl, HB.out⟩
end Go.Proofs.Ytfcffmjmohkpoaa
