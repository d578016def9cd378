/- The sanity check at the end of each law of package widgetrylaw16; the law ThemeReadable; the law ThemeColors. -/
import Derived.Test.YtcjhefkipghloaaReadP
import Derived.Test.YtcjhefkipghloaaSizes
namespace Go.Proofs.Ytcjhefkipghloaa
open Go.RowKit

theorem awake_facts : conZ 0 16777215 = 2100 ∧ lumZ 16777215 = 1000 ∧ readZ 8421504 8421504 450 = 0 ∧ sizeZ 150 16 = 24 := by decide

set_option maxHeartbeats 400000 in
theorem awake_any (w : World) : Calls Try.prog 10 #[] w (True_ w) := by
  go_enter Try.func10, Try.ntmps10
  go_wp2_with fail
  refine (con_any _ _ _).mono ?_
  rw [awake_facts.1]
  rintro e w1 ⟨rfl, rfl⟩
  go_wp2_with fail
  refine (lum_any _ _).mono ?_
  rw [awake_facts.2.1]
  rintro e w1 ⟨rfl, rfl⟩
  go_wp2_with fail
  refine (read_any _ _ _ _).mono ?_
  rw [awake_facts.2.2.1]
  rintro e w1 ⟨rfl, rfl⟩
  go_wp2_with fail
  refine (size_any _ _ _ _ _).mono ?_
  rw [awake_facts.2.2.2]
  rintro e w1 ⟨rfl, hb⟩
  go_wp2
  go_ret
  exact ⟨rfl, hb⟩
end Go.Proofs.Ytcjhefkipghloaa
