/- same of package widgetrylaw19: the code and the reference agree for all arguments. -/
import Derived.Test.YtadkkkdecejkeaaRTrk
import Derived.Test.YtadkkkdecejkeaaEqualI
namespace Go.Proofs.Ytadkkkdecejkeaa
open Go.RowKit
set_option linter.unusedVariables false
set_option linter.unusedSimpArgs false

theorem InRecs.of_below {c : Nat} {w w' : World} {v : Value} {l : List Rec} (h : InRecs c w v l) (hb : Below w.heap.size w w') : InRecs c w' v l := ⟨h.1.of_below hb, h.2⟩
set_option maxHeartbeats 8000000 in
set_option maxRecDepth 100000 in
theorem same_any (v vi : Value) (av gp : Int) (l it : List Rec) (w : World) (hv : IsRecs 2 w v l) (hi : InRecs 4 w vi it) : Calls Try.prog 9 #[.int .i64 av, .int .i64 gp, v, vi] w (True_ w) := by
  have HV := Lib.hid hv
  have HI := Lib.hid hi
  obtain ⟨E, hE⟩ : ∃ E, gErr av gp l it = E := ⟨_, rfl⟩
  have HE := Lib.hid hE
  obtain ⟨T, hT⟩ : ∃ T, trkL av gp l it = T := ⟨_, rfl⟩
  have HT := Lib.hid hT
  obtain ⟨A, hA⟩ : ∃ A, leastS gp l it = A := ⟨_, rfl⟩
  have HA := Lib.hid hA
  obtain ⟨B, hB⟩ : ∃ B, mostS gp l it = B := ⟨_, rfl⟩
  have HB := Lib.hid hB
  have ee : (E == E) = true := by simp
  have ea : (A == A) = true := by simp
  have eb : (B == B) = true := by simp
  clear hE hT hA hB hv hi
  go_enter Try.func9, Try.ntmps9
  go_wp2_with fail
  refine (tracks_any v vi av gp l it _ HV.out HI.out).mono ?_
  unfold Tracked
  rw [HE.out, HT.out]
  rintro e w1 ⟨u, rfl, hu, hb1⟩
  have HU := Lib.hid hu
  have HB1 := Lib.hid hb1
  clear hu hb1
  go_wp2_with fail
  refine (rtracks_any v vi av gp l it _ (HV.out.of_below HB1.out) (HI.out.of_below HB1.out)).mono ?_
  unfold Tracked
  rw [HE.out, HT.out]
  rintro e w2 ⟨t, rfl, ht, hb2⟩
  have HU2 := Lib.hid (HU.out.of_below hb2)
  have HT2 := Lib.hid ht
  have HB2 : Hid (Below w.heap.size w w2) := HB1.out.trans (hb2.mono HB1.out.size)
  clear ht hb2 HU HB1
  go_wp2_with fail
  refine (equal_any _ _ T T _ HU2.out HT2.out).mono ?_
  rw [eqL_self]
  rintro e w3 ⟨rfl, d3, rfl⟩
  have HB3 : Hid (Below w.heap.size w (w2.drewN d3)) := Below_drewN HB2.out d3
  obtain ⟨w3, hw3⟩ : ∃ x, w2.drewN d3 = x := ⟨_, rfl⟩
  rw [hw3] at HB3 ⊢
  clear hw3
  go_wp2_with fail
  refine (least_any v vi gp l it _ (HV.out.of_below HB3.out) (HI.out.of_below HB3.out)).mono ?_
  unfold Errs
  rw [HA.out]
  rintro e w4 ⟨rfl, hb4⟩
  have HB4 : Hid (Below w.heap.size w w4) := HB3.out.trans (hb4.mono HB3.out.size)
  clear hb4
  go_wp2_with fail
  refine (rleast_any v vi gp l it _ (HV.out.of_below HB4.out) (HI.out.of_below HB4.out)).mono ?_
  unfold Errs
  rw [HA.out]
  rintro e w5 ⟨rfl, hb5⟩
  have HB5 : Hid (Below w.heap.size w w5) := HB4.out.trans (hb5.mono HB4.out.size)
  clear hb5
  go_wp2_with fail
  refine (most_any v vi gp l it _ (HV.out.of_below HB5.out) (HI.out.of_below HB5.out)).mono ?_
  unfold Errs
  rw [HB.out]
  rintro e w6 ⟨rfl, hb6⟩
  have HB6 : Hid (Below w.heap.size w w6) := HB5.out.trans (hb6.mono HB5.out.size)
  clear hb6
  go_wp2_with fail
  refine (rmost_any v vi gp l it _ (HV.out.of_below HB6.out) (HI.out.of_below HB6.out)).mono ?_
  unfold Errs
  rw [HB.out]
  rintro e w7 ⟨rfl, hb7⟩
  have HB7 : Hid (Below w.heap.size w w7) := HB6.out.trans (hb7.mono HB6.out.size)
  clear hb7
  go_wp2
  go_ret
  exact ⟨rfl, HB7.out⟩
end Go.Proofs.Ytadkkkdecejkeaa

