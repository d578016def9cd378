/- The sanity check's spring comes to rest: checkpoints every 40 steps (printed by wip/gen_awake36.py). -/
import Derived.Test.YtfcffmjmohkpoaaSpringPlain
namespace Go.Proofs.Ytfcffmjmohkpoaa
set_option linter.unusedVariables false
set_option maxRecDepth 100000
theorem rest_ck0 : steps 655360 200 240 40 (0, 0) = (70705, 2823) := by decide +kernel
theorem rest_ck1 : steps 655360 200 240 40 (70705, 2823) = (195507, 3180) := by decide +kernel
theorem rest_ck2 : steps 655360 200 240 40 (195507, 3180) = (314679, 2729) := by decide +kernel
theorem rest_ck3 : steps 655360 200 240 40 (314679, 2729) = (411079, 2107) := by decide +kernel
theorem rest_ck4 : steps 655360 200 240 40 (411079, 2107) = (483530, 1547) := by decide +kernel
theorem rest_ck5 : steps 655360 200 240 40 (483530, 1547) = (535917, 1104) := by decide +kernel
theorem rest_ck6 : steps 655360 200 240 40 (535917, 1104) = (572983, 774) := by decide +kernel
theorem rest_ck7 : steps 655360 200 240 40 (572983, 774) = (598840, 538) := by decide +kernel
theorem rest_ck8 : steps 655360 200 240 40 (598840, 538) = (616739, 372) := by decide +kernel
theorem rest_ck9 : steps 655360 200 240 40 (616739, 372) = (629040, 253) := by decide +kernel
theorem rest_ck10 : steps 655360 200 240 40 (629040, 253) = (637472, 176) := by decide +kernel
theorem rest_ck11 : steps 655360 200 240 40 (637472, 176) = (643243, 117) := by decide +kernel
theorem rest_ck12 : steps 655360 200 240 40 (643243, 117) = (647139, 85) := by decide +kernel
theorem rest_ck13 : steps 655360 200 240 40 (647139, 85) = (655360, 0) := by decide +kernel
theorem rest_to0 : steps 655360 200 240 40 (0, 0) = (70705, 2823) := rest_ck0
theorem rest_to1 : steps 655360 200 240 80 (0, 0) = (195507, 3180) := by
  rw [show (80 : Nat) = 40 + 40 from rfl, steps_add, rest_to0]; exact rest_ck1
theorem rest_to2 : steps 655360 200 240 120 (0, 0) = (314679, 2729) := by
  rw [show (120 : Nat) = 80 + 40 from rfl, steps_add, rest_to1]; exact rest_ck2
theorem rest_to3 : steps 655360 200 240 160 (0, 0) = (411079, 2107) := by
  rw [show (160 : Nat) = 120 + 40 from rfl, steps_add, rest_to2]; exact rest_ck3
theorem rest_to4 : steps 655360 200 240 200 (0, 0) = (483530, 1547) := by
  rw [show (200 : Nat) = 160 + 40 from rfl, steps_add, rest_to3]; exact rest_ck4
theorem rest_to5 : steps 655360 200 240 240 (0, 0) = (535917, 1104) := by
  rw [show (240 : Nat) = 200 + 40 from rfl, steps_add, rest_to4]; exact rest_ck5
theorem rest_to6 : steps 655360 200 240 280 (0, 0) = (572983, 774) := by
  rw [show (280 : Nat) = 240 + 40 from rfl, steps_add, rest_to5]; exact rest_ck6
theorem rest_to7 : steps 655360 200 240 320 (0, 0) = (598840, 538) := by
  rw [show (320 : Nat) = 280 + 40 from rfl, steps_add, rest_to6]; exact rest_ck7
theorem rest_to8 : steps 655360 200 240 360 (0, 0) = (616739, 372) := by
  rw [show (360 : Nat) = 320 + 40 from rfl, steps_add, rest_to7]; exact rest_ck8
theorem rest_to9 : steps 655360 200 240 400 (0, 0) = (629040, 253) := by
  rw [show (400 : Nat) = 360 + 40 from rfl, steps_add, rest_to8]; exact rest_ck9
theorem rest_to10 : steps 655360 200 240 440 (0, 0) = (637472, 176) := by
  rw [show (440 : Nat) = 400 + 40 from rfl, steps_add, rest_to9]; exact rest_ck10
theorem rest_to11 : steps 655360 200 240 480 (0, 0) = (643243, 117) := by
  rw [show (480 : Nat) = 440 + 40 from rfl, steps_add, rest_to10]; exact rest_ck11
theorem rest_to12 : steps 655360 200 240 520 (0, 0) = (647139, 85) := by
  rw [show (520 : Nat) = 480 + 40 from rfl, steps_add, rest_to11]; exact rest_ck12
theorem rest_to13 : steps 655360 200 240 560 (0, 0) = (655360, 0) := by
  rw [show (560 : Nat) = 520 + 40 from rfl, steps_add, rest_to12]; exact rest_ck13
theorem rest_all : steps 655360 200 240 3000 (0, 0) = (655360, 0) := by
  rw [show (3000 : Nat) = 560 + 2440 from rfl, steps_add, rest_to13]; exact steps_rest (by omega) (by omega) _
theorem awake_spring : springZ 0 0 10 200 240 3000 = (655360, 0) := by
  rw [springZ, if_pos (by decide)]
  exact rest_all
theorem awake_ease : easeZ 0 0 1000 1000 1 2 = 500 := by decide +kernel
end Go.Proofs.Ytfcffmjmohkpoaa
