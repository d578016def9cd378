/- The sanity check of package widgetrylaw18. -/
import Derived.Test.YthmdagffhanagaaBoxOff
import Derived.Test.YthmdagffhanagaaEqualI
namespace Go.Proofs.Ythmdagffhanagaa
open Go.RowKit
set_option linter.unusedVariables false
set_option linter.unusedSimpArgs false

theorem lit_recs {c e : Nat} {w : World} {cs : Array Value} (l : List Rec) (h : cs = (recCells l).toArray) (hw : wide c l) (hm : l.length ≤ maxLen) (n : Nat) (hn : n = l.length) :
    IsRecs c (w.alloc (.cells cs e)) (.slice (some ⟨w.heap.size, 0, none⟩) n n) l := by
  subst h hn
  refine ⟨_, _, rfl, Nat.le_refl _, hm, fun _ => ⟨w.heap.size, 0, rfl, by simp, fun i hi j hj => ?_⟩⟩
  have hb := heap_alloc_new w (.cells (recCells l).toArray e)
  rw [cell_of_row _ _ _ _ _ (0, 0) hb]
  have := recCells_at l hw i hi j hj
  simpa using this
def l18 : List Rec := [[20, 0, 1000, 1, 0], [10, 0, 1000, 2, 0]]
theorem awake18_facts : flexErr 100 10 l18 = 0 ∧ resL 100 10 l18 = [40, 50] ∧ offOk 100 10 0 [40, 50] = true ∧ betw 0 (offFree 100 10 [40, 50]) 2 = false ∧ offL 100 10 0 [40, 50] true = [60, 0] := by decide +kernel

set_option maxHeartbeats 2000000 in
theorem awake_any (w : World) : Calls Try.prog 14 #[] w (True_ w) := by
  have HL : Hid (IsRecs 5 (w.alloc (.cells #[.int .i64 20, .int .i64 0, .int .i64 1000, .int .i64 1, .int .i64 0, .int .i64 10, .int .i64 0, .int .i64 1000, .int .i64 2, .int .i64 0] 36)) (.slice (some ⟨w.heap.size, 0, none⟩) 2 2) l18) :=
    lit_recs l18 rfl (by intro r hr; simp [l18] at hr; rcases hr with rfl | rfl <;> rfl) (by simp [l18, maxLen]) 2 rfl
  have HB0 : Hid (Below w.heap.size w (w.alloc (.cells #[.int .i64 20, .int .i64 0, .int .i64 1000, .int .i64 1, .int .i64 0, .int .i64 10, .int .i64 0, .int .i64 1000, .int .i64 2, .int .i64 0] 36))) := (Below.refl _ _).alloc (Nat.le_refl _) _
  go_enter Try.func14, Try.ntmps14
  go_wp2_with fail
  refine (bres_any _ _ _ l18 _ HL.out).mono ?_
  rintro e w1 ⟨v, he, hv, hb1⟩
  rw [awake18_facts.1] at he
  rw [awake18_facts.2.1] at hv
  subst he
  have HV := Lib.hid hv
  have HB1 := Lib.hid (HB0.out.trans (hb1.mono HB0.out.size))
  clear hv hb1
  go_wp2_with fail
  have HB2 : Hid (Below w.heap.size w (w1.alloc (.cells #[.int .i64 40, .int .i64 50] 3))) := HB1.out.alloc HB1.out.size _
  have HV2 : Hid (IsInts (w1.alloc (.cells #[.int .i64 40, .int .i64 50] 3)) v [40, 50]) := HV.out.of_below ((Below.refl _ _).alloc (Nat.le_refl _) _)
  have HI2 : Hid (IsInts (w1.alloc (.cells #[.int .i64 40, .int .i64 50] 3)) (.slice (some ⟨w1.heap.size, 0, none⟩) 2 2) [40, 50]) := lit_ints [40, 50] rfl (by simp [maxLen]) 2 rfl
  refine (equal_any _ _ [40, 50] [40, 50] _ HV2.out HI2.out).mono ?_
  rw [eqL_self]
  rintro e w2 ⟨rfl, d, rfl⟩
  obtain ⟨W2, hW2⟩ : ∃ W, w1.alloc (.cells #[.int .i64 40, .int .i64 50] 3) = W := ⟨_, rfl⟩
  rw [hW2] at HB2 HV2 ⊢
  clear hW2
  go_wp2_with fail
  refine (offs_plain 100 10 0 [40, 50] true v _ (by exact HV2.out) awake18_facts.2.2.1 awake18_facts.2.2.2.1).mono ?_
  rw [awake18_facts.2.2.2.2]
  rintro e w3 ⟨u, rfl, hu, hb3⟩
  have HU := Lib.hid hu
  have HB3 : Hid (Below w.heap.size w w3) := (Below_drewN HB2.out d).trans (Below.mono hb3 HB2.out.size)
  clear hu hb3
  go_wp2_with fail
  have HB4 : Hid (Below w.heap.size w (w3.alloc (.cells #[.int .i64 60, .int .i64 0] 3))) := HB3.out.alloc HB3.out.size _
  have HV4 : Hid (IsInts (w3.alloc (.cells #[.int .i64 60, .int .i64 0] 3)) u [60, 0]) := HU.out.of_below ((Below.refl _ _).alloc (Nat.le_refl _) _)
  have HI4 : Hid (IsInts (w3.alloc (.cells #[.int .i64 60, .int .i64 0] 3)) (.slice (some ⟨w3.heap.size, 0, none⟩) 2 2) [60, 0]) := lit_ints [60, 0] rfl (by simp [maxLen]) 2 rfl
  refine (equal_any _ _ [60, 0] [60, 0] _ HV4.out HI4.out).mono ?_
  rw [eqL_self]
  rintro e w5 ⟨rfl, d2, rfl⟩
  go_wp2
  go_ret
  exact ⟨rfl, Below_drewN HB4.out d2⟩
end Go.Proofs.Ythmdagffhanagaa

