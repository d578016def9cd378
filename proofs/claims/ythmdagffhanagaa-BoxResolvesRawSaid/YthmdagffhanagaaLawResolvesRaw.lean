/- The walk of the law BoxResolvesRaw. -/
import Derived.Test.YthmdagffhanagaaResR2
import Derived.Test.YthmdagffhanagaaAwake18
import Derived.Test.YthmdagffhanagaaRecs
import Derived.Test.YthmdagffhanagaaOpen
namespace Go.Proofs.Ythmdagffhanagaa
open Go.RowKit Go.ChangeShapes Go.WideShapes Go.ChangeAt Go.Deep
set_option linter.unusedVariables false
set_option linter.unusedSimpArgs false

section
variable {H : Type} {enc : TypeId × Value → H} {W : World} {base : Nat} {v : Value} {d : DataW H} {p : List MemPlace}
theorem open_flex (hok : Value.okWide Try.prog W .any base 22 v) (h : DataW.Trod enc Try.prog W 0 (fun _ => true) true 22 v d p) : ∃ l, InRecs 5 W v l :=
  open_recs Try.underlying22 Try.underlying36 (by
    intro j hj
    have h5 : j = 0 ∨ j = 1 ∨ j = 2 ∨ j = 3 ∨ j = 4 := by omega
    rcases h5 with rfl | rfl | rfl | rfl | rfl <;> exact ⟨_, rfl, rfl, rfl⟩) (by kernel_rfl) (by omega) hok h
end
set_option maxHeartbeats 8000000 in
set_option maxRecDepth 100000 in
theorem walk_BoxResolvesRaw (v0 : Value) (av : Int) (v1 : Value) (gp : Int) (v2 : Value) (l : List Rec) (w : World)
    (h0 : v0 = .int .i64 av ∧ (Lit.int .i64 av).wf = true) (h1 : v1 = .int .i64 gp ∧ (Lit.int .i64 gp).wf = true) (h2 : InRecs 5 w v2 l) :
    Calls Try.prog 3 #[v0, v1, v2] w (True_ w) := by
  obtain ⟨rfl, -⟩ := h0
  obtain ⟨rfl, -⟩ := h1
  have HV := Lib.hid h2.1
  obtain ⟨⟨a, cap, rfl, m1, m2, -⟩, -⟩ := h2
  unfold maxLen at m2
  obtain ⟨n, hn⟩ : ∃ n, l.length = n := ⟨_, rfl⟩
  rw [hn] at m1 HV ⊢
  clear hn
  by_cases hl : 120 < n
  · have hl' : (120 : Int) < (n : Int) := by omega
    go_enter Try.func3, Try.ntmps3
    go_wp2
    go_ret
    exact ⟨rfl, Below.refl _ _⟩
  have hl1 : (n : Int) ≤ 120 := by omega
  obtain ⟨c, hc⟩ : ∃ c, flexErr av gp l = c := ⟨_, rfl⟩
  have HC := Lib.hid hc
  have hcc : (c == c) = true := by simp
  clear hc
  go_enter Try.func3, Try.ntmps3
  go_wp2_with fail
  refine (bres_any _ av gp l _ HV.out).mono ?_
  rw [show Resolved av gp l w = fun e w' => ∃ v, e = .returned (.tuple #[v, .int .i64 c]) ∧ IsInts w' v (resL av gp l) ∧ Below w.heap.size w w' from by unfold Resolved; rw [HC.out]]
  rintro e w1 ⟨v, rfl, hv, hb1⟩
  have HV1 := Lib.hid hv
  have HB1 := Lib.hid hb1
  clear hv hb1
  go_wp2_with fail
  refine (rres_any _ av gp l _ (HV.out.of_below HB1.out)).mono ?_
  rw [show Resolved av gp l w1 = fun e w' => ∃ v, e = .returned (.tuple #[v, .int .i64 c]) ∧ IsInts w' v (resL av gp l) ∧ Below w1.heap.size w1 w' from by unfold Resolved; rw [HC.out]]
  rintro e w2 ⟨u, rfl, hu, hb2⟩
  have HV2 := Lib.hid (HV1.out.of_below hb2)
  have HU2 := Lib.hid hu
  have HB2 : Hid (Below w.heap.size w w2) := HB1.out.trans (hb2.mono HB1.out.size)
  clear hu hb2
  obtain ⟨L1, hL1⟩ : ∃ L, resL av gp l = L := ⟨_, rfl⟩
  rw [hL1] at HU2 HV2
  clear hL1
  go_wp2_with fail
  refine (equal_any _ _ L1 L1 _ HV2.out HU2.out).mono ?_
  rw [eqL_self]
  rintro e w3 ⟨rfl, d3, rfl⟩
  go_wp2_with (go_at_call 14; refine (awake_any _).mono ?_; rintro e w10 ⟨rfl, hb10⟩)
  go_ret
  exact ⟨rfl, (Below_drewN HB2.out d3).trans (hb10.mono HB2.out.size)⟩
end Go.Proofs.Ythmdagffhanagaa

