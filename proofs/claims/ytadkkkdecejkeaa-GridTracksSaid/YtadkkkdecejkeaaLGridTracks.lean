/- THE STATEMENT GridTracksSaid: from the walk of its law to the given row. Conditions: none.
   The frame follows the guide's template; it was printed by wip/frame.py. -/
import Derived.Test.YtadkkkdecejkeaaSame
import Derived.Test.YtadkkkdecejkeaaAwake19
import Derived.Test.YtadkkkdecejkeaaGBuild
import Derived.Test.YtadkkkdecejkeaaTwo
import Derived.Test.YtadkkkdecejkeaaOpen
import Derived.Deep.RegionHeld3
namespace Go.Proofs.Ytadkkkdecejkeaa
open Go.RowKit
set_option linter.unusedVariables false
set_option linter.unusedSimpArgs false

def tab5 : List Int := [0, 20, 100, 300, 1000]
theorem tab5_cell (w : World) {i : Nat} (h : i < 5) : (w.alloc (.cells #[.int .i64 0, .int .i64 20, .int .i64 100, .int .i64 300, .int .i64 1000] 3)).cell? ⟨w.heap.size, i, none⟩ = some (.int .i64 (gz tab5 i)) := by
  rw [cell_of_row _ _ _ _ _ (0, 0) (heap_alloc_new w _)]
  have h7 : i = 0 ∨ i = 1 ∨ i = 2 ∨ i = 3 ∨ i = 4 := by omega
  rcases h7 with rfl | rfl | rfl | rfl | rfl <;> rfl
theorem SrcOk.alloc {w : World} {g : Nat} (h : SrcOk w g) (o : Obj) : SrcOk (w.alloc o) g := h.kept ((Below.refl _ _).alloc (by have := h.lt; omega) o)
theorem gr_alloc {a b : World} {r : Option Nat} (h : a.grownBy b r) (o : Obj) : a.grownBy (b.alloc o) r := grownBy_trans h (World.grownBy_alloc b o r)
theorem gf_wide {c : Nat} {l : List Rec} (h : wide c l) {i j : Nat} (hi : i < l.length) (hj : ¬ j < c) : gf l i j = 0 := by
  have h3 : (l[i]'hi).length = c := h _ (List.getElem_mem hi)
  have h4 : (l[i]'hi)[j]? = none := List.getElem?_eq_none (by omega)
  simp [gf, List.getD, hi, h4]
theorem gf_out {l : List Rec} {i j : Nat} (hi : ¬ i < l.length) : gf l i j = 0 := by
  have h4 : l[i]? = none := List.getElem?_eq_none (by omega)
  simp [gf, List.getD, h4]
theorem Built19.inRecs {l it : List Rec} (h : Built19 l it) {w : World} {v : Value} (hi : IsRecs 4 w v it) : InRecs 4 w v it := ⟨hi, fun i j => by
  by_cases h1 : i < it.length
  · by_cases h2 : j < 4
    · have hb := itB_out (itsB_at h.ib h1)
      have h5 := h.l1
      have h3 : j = 0 ∨ j = 1 ∨ j = 2 ∨ j = 3 := by omega
      rcases h3 with rfl | rfl | rfl | rfl <;> omega
    · rw [gf_wide h.wi h1 h2]; omega
  · rw [gf_out h1]; omega⟩
set_option maxHeartbeats 8000000 in
set_option maxRecDepth 100000 in
theorem walk_GridTracks (v0 : Value) (xs : List Int) (w : World) (h0 : InInts w v0 xs) : Calls Try.prog 4 #[v0] w (True_ w) := by
  have HU := Lib.hid h0
  clear h0
  go_enter Try.func4, Try.ntmps4
  go_wp2_with fail
  refine (srcNew_any _ xs _ HU.out).mono ?_
  rintro e w1 ⟨g, rfl, hs, hg0, hg1, hb⟩
  have HG : Hid (w.heap.size ≤ g) := hg0
  have HS1 := Lib.hid hs
  have HB1 := Lib.hid hb
  clear hs hg0 hg1 hb
  go_wp2_with fail
  refine (gbuild_any g _ HS1.out).mono ?_
  rintro e w2 ⟨v, vi, l, it, rfl, hbt, hov, hoi, hbl⟩
  have HB2 := Lib.hid (HB1.out.trans (grownBy_below hbl.2 HG.out HS1.out.lt))
  have HS2 := Lib.hid hbl.1
  have HOV := Lib.hid hov
  have HOI := Lib.hid hoi
  have HBT := Lib.hid hbt
  have HGL := Lib.hid HS1.out.lt
  clear hbt hov hoi hbl
  go_wp2_with fail
  go_loopw [6] (fun i wr => ∃ k : Nat, k ≤ 5 ∧ i = .int .i64 k ∧ SrcOk wr g ∧ wr.ownsRow w1.heap.size 42 2 v l.length (recCells l) ∧ wr.ownsRow w1.heap.size 44 4 vi it.length (recCells it) ∧ Below w.heap.size w wr) (fun i _ => 5 - (intOf i).toNat)
  case atStart => exact ⟨0, by omega, rfl, HS2.out, HOV.out, HOI.out, HB2.out⟩
  case round =>
    obtain ⟨k, hk, rfl, hs, hv, hi, hb⟩ := hrel
    have HS := Lib.hid hs
    have HV := Lib.hid hv
    have HI := Lib.hid hi
    have HB := Lib.hid hb
    clear hs hv hi hb
    by_cases hk5 : k < 5
    · have hk5' : (k : Int) < 5 := by omega
      have hk0' : (0 : Int) ≤ (k : Int) := by omega
      have HRW : Hid (∀ W, wr.grownBy W (some g) → IsRecs 2 W v l ∧ InRecs 4 W vi it) := fun W hW => ⟨ownsRow_isRecs (row_turn HV.out hW HGL.out) rfl HBT.out.wl, HBT.out.inRecs (ownsRow_isRecs (row_turn HI.out hW HGL.out) rfl HBT.out.wi)⟩
      go_upto_region 6 with fail
      go_cut [27] (fun s wx => s = .bool false ∧ SrcOk wx g ∧ wr.grownBy wx (some g))
      case first =>
        have HGW : Hid (g < wr.heap.size) := HS.out.lt
        have HSA : Hid (SrcOk (wr.alloc (.cells #[.int .i64 0, .int .i64 20, .int .i64 100, .int .i64 300, .int .i64 1000] 3)) g) := HS.out.alloc _
        refine wp_region_T (S := (fun w' => SrcOk w' g ∧ wr.grownBy w' (some g))) 9 (by kernel_rfl) (⟨HS.out, ⟨rfl, rfl, rfl, Nat.le_refl _, fun _ _ _ => rfl⟩⟩) (fun hHeld => ?_)
        refine wpAnyT_take (i := 1) (v := ?_) rfl (by decide +kernel) (by decide +kernel) (by decide +kernel) (by decide +kernel) (by decide +kernel) (fun _ _ _ h => h) (Or.inl ⟨by rfl, ?_⟩) (by assumption) ?_
        rotate_left
        · intro w hSw; (try dsimp only at hSw); first | (go_simp; done) | (go_simp; with_reducible rfl)
        try simp only [Act.put, List.getElem_toArray, List.getElem_cons_succ, List.getElem_cons_zero, List.setIfInBounds_toArray, List.set_cons_zero, List.set_cons_succ]
        refine wpAnyT_take (i := 4) (v := ?_) rfl (by decide +kernel) (by decide +kernel) (by decide +kernel) (by decide +kernel) (by decide +kernel) (fun _ _ _ h => h) (Or.inl ⟨by rfl, ?_⟩) (by assumption) ?_
        rotate_left
        · intro w hSw; (try dsimp only at hSw); first | (go_simp; done) | (go_simp; with_reducible rfl)
        try simp only [Act.put, List.getElem_toArray, List.getElem_cons_succ, List.getElem_cons_zero, List.setIfInBounds_toArray, List.set_cons_zero, List.set_cons_succ]
        refine wpAnyT_take (i := 6) (v := ?_) rfl (by decide +kernel) (by decide +kernel) (by decide +kernel) (by decide +kernel) (by decide +kernel) (fun _ _ _ h => h) (Or.inl ⟨by rfl, ?_⟩) (by assumption) ?_
        rotate_left
        · intro w hSw; (try dsimp only at hSw); first | (go_simp; done) | (go_simp; with_reducible rfl)
        try simp only [Act.put, List.getElem_toArray, List.getElem_cons_succ, List.getElem_cons_zero, List.setIfInBounds_toArray, List.set_cons_zero, List.set_cons_succ]
        refine wpAnyT_take (i := 7) (v := ?_) rfl (by decide +kernel) (by decide +kernel) (by decide +kernel) (by decide +kernel) (by decide +kernel) (fun _ _ _ h => h) (Or.inl ⟨by rfl, ?_⟩) (by assumption) ?_
        rotate_left
        · intro w hSw; (try dsimp only at hSw); first | (go_simp; done) | (go_simp; with_reducible rfl)
        try simp only [Act.put, List.getElem_toArray, List.getElem_cons_succ, List.getElem_cons_zero, List.setIfInBounds_toArray, List.set_cons_zero, List.set_cons_succ]
        refine wpAnyT_two (i := 0) (j := 5) (by kernel_rfl) rfl rfl (fun K hK => ?_) (fun K hK => ?_)
        ·
          go_simp
          refine hK.out _ _ ?_ (fun hHeld2 => ?_)
          · (try dsimp only); exact ⟨HSA.out, gr_alloc hHeld.2 _⟩
          clear hK K hHeld
          have hHeld := hHeld2
          clear hHeld2
          try simp only [Act.put, List.getElem_toArray, List.getElem_cons_succ, List.getElem_cons_zero, List.setIfInBounds_toArray, List.set_cons_zero, List.set_cons_succ]
          have cx := tab5_cell wr hk5
          refine wpAnyT_take (i := 2) (v := ?_) rfl (by decide +kernel) (by decide +kernel) (by decide +kernel) (by decide +kernel) (by decide +kernel) (fun _ _ _ h => h) (Or.inl ⟨by rfl, ?_⟩) (by assumption) ?_
          rotate_left
          · intro w hSw; (try dsimp only at hSw); first | (go_simp; done) | (go_simp; with_reducible rfl)
          try simp only [Act.put, List.getElem_toArray, List.getElem_cons_succ, List.getElem_cons_zero, List.setIfInBounds_toArray, List.set_cons_zero, List.set_cons_succ]
          have hx5 : ∃ x, gz tab5 k = x := ⟨_, rfl⟩
          obtain ⟨x5, hx5⟩ := hx5
          rw [hx5] at cx
          clear hx5
          refine wpAnyT_two (i := 3) (j := 5) (by kernel_rfl) rfl rfl (fun K hK => ?_) (fun K hK => ?_)
          ·
            go_simp
            refine hK.out _ _ ?_ (fun hHeld2 => ?_)
            · (try dsimp only); exact hHeld
            clear hK K hHeld
            have hHeld := hHeld2
            clear hHeld2
            try simp only [Act.put, List.getElem_toArray, List.getElem_cons_succ, List.getElem_cons_zero, List.setIfInBounds_toArray, List.set_cons_zero, List.set_cons_succ]
            refine wpAnyT_one (i := 5) (by kernel_rfl) rfl (fun K hK => ?_)
            go_simp
            (refine (srcN_any g _ _ hHeld.1 (by omega) (by omega)).mono ?_; rintro e w5 ⟨y, y2a, y2b, rfl, hs5, hg5⟩)
            refine hK.out _ _ ?_ (fun hHeld2 => ?_)
            · (try dsimp only); exact ⟨hs5, grownBy_trans hHeld.2 hg5⟩
            clear hK K hHeld
            have hHeld := hHeld2
            clear hHeld2
            try simp only [Act.put, List.getElem_toArray, List.getElem_cons_succ, List.getElem_cons_zero, List.setIfInBounds_toArray, List.set_cons_zero, List.set_cons_succ]
            refine wpAnyT_one (i := 8) (by kernel_rfl) rfl (fun K hK => ?_)
            go_simp
            (refine (same_any v vi _ _ l it _ (HRW.out _ hHeld.2).1 (HRW.out _ hHeld.2).2).mono ?_; rintro e w6 ⟨rfl, hb6⟩)
            refine hK.out _ _ ?_ (fun hHeld2 => ?_)
            · (try dsimp only); exact ⟨hHeld.1.kept (hb6.mono (by have := hHeld.1.lt; omega)), grownBy_trans hHeld.2 (grownBy_of_below hb6 (Nat.le_refl _) _)⟩
            clear hK K hHeld
            have hHeld := hHeld2
            clear hHeld2
            try simp only [Act.put, List.getElem_toArray, List.getElem_cons_succ, List.getElem_cons_zero, List.setIfInBounds_toArray, List.set_cons_zero, List.set_cons_succ]
            refine wpAnyT_last (i := 9) (by kernel_rfl) (by kernel_rfl) rfl (by kernel_rfl) (fun K hK => ?_)
            go_simp
            refine hK.out _ _ ?_
            clear hK K
            try simp only [Act.put, List.getElem_toArray, List.getElem_cons_succ, List.getElem_cons_zero, List.setIfInBounds_toArray, List.set_cons_zero, List.set_cons_succ]
            have hS9 := hHeld
            clear hHeld
            go_wp2_with fail
            go_meet
            exact ⟨rfl, hS9.1, hS9.2⟩
          ·
            go_simp
            (refine (srcN_any g _ _ hHeld.1 (by omega) (by omega)).mono ?_; rintro e w5 ⟨y, y2a, y2b, rfl, hs5, hg5⟩)
            refine hK.out _ _ ?_ (fun hHeld2 => ?_)
            · (try dsimp only); exact ⟨hs5, grownBy_trans hHeld.2 hg5⟩
            clear hK K hHeld
            have hHeld := hHeld2
            clear hHeld2
            try simp only [Act.put, List.getElem_toArray, List.getElem_cons_succ, List.getElem_cons_zero, List.setIfInBounds_toArray, List.set_cons_zero, List.set_cons_succ]
            have c5 := turn_cell hg5 cx (by have := HGW.out; omega)
            refine wpAnyT_one (i := 3) (by kernel_rfl) rfl (fun K hK => ?_)
            go_simp
            refine hK.out _ _ ?_ (fun hHeld2 => ?_)
            · (try dsimp only); exact hHeld
            clear hK K hHeld
            have hHeld := hHeld2
            clear hHeld2
            try simp only [Act.put, List.getElem_toArray, List.getElem_cons_succ, List.getElem_cons_zero, List.setIfInBounds_toArray, List.set_cons_zero, List.set_cons_succ]
            refine wpAnyT_one (i := 8) (by kernel_rfl) rfl (fun K hK => ?_)
            go_simp
            (refine (same_any v vi _ _ l it _ (HRW.out _ hHeld.2).1 (HRW.out _ hHeld.2).2).mono ?_; rintro e w6 ⟨rfl, hb6⟩)
            refine hK.out _ _ ?_ (fun hHeld2 => ?_)
            · (try dsimp only); exact ⟨hHeld.1.kept (hb6.mono (by have := hHeld.1.lt; omega)), grownBy_trans hHeld.2 (grownBy_of_below hb6 (Nat.le_refl _) _)⟩
            clear hK K hHeld
            have hHeld := hHeld2
            clear hHeld2
            try simp only [Act.put, List.getElem_toArray, List.getElem_cons_succ, List.getElem_cons_zero, List.setIfInBounds_toArray, List.set_cons_zero, List.set_cons_succ]
            refine wpAnyT_last (i := 9) (by kernel_rfl) (by kernel_rfl) rfl (by kernel_rfl) (fun K hK => ?_)
            go_simp
            refine hK.out _ _ ?_
            clear hK K
            try simp only [Act.put, List.getElem_toArray, List.getElem_cons_succ, List.getElem_cons_zero, List.setIfInBounds_toArray, List.set_cons_zero, List.set_cons_succ]
            have hS9 := hHeld
            clear hHeld
            go_wp2_with fail
            go_meet
            exact ⟨rfl, hS9.1, hS9.2⟩
        ·
          go_simp
          (refine (srcN_any g _ _ hHeld.1 (by omega) (by omega)).mono ?_; rintro e w5 ⟨y, y2a, y2b, rfl, hs5, hg5⟩)
          refine hK.out _ _ ?_ (fun hHeld2 => ?_)
          · (try dsimp only); exact ⟨hs5, grownBy_trans hHeld.2 hg5⟩
          clear hK K hHeld
          have hHeld := hHeld2
          clear hHeld2
          try simp only [Act.put, List.getElem_toArray, List.getElem_cons_succ, List.getElem_cons_zero, List.setIfInBounds_toArray, List.set_cons_zero, List.set_cons_succ]
          refine wpAnyT_one (i := 0) (by kernel_rfl) rfl (fun K hK => ?_)
          go_simp
          refine hK.out _ _ ?_ (fun hHeld2 => ?_)
          · (try dsimp only); exact ⟨hHeld.1.alloc _, gr_alloc hHeld.2 _⟩
          clear hK K hHeld
          have hHeld := hHeld2
          clear hHeld2
          try simp only [Act.put, List.getElem_toArray, List.getElem_cons_succ, List.getElem_cons_zero, List.setIfInBounds_toArray, List.set_cons_zero, List.set_cons_succ]
          have cx := tab5_cell w5 hk5
          have hx5 : ∃ x, gz tab5 k = x := ⟨_, rfl⟩
          obtain ⟨x5, hx5⟩ := hx5
          rw [hx5] at cx
          clear hx5
          refine wpAnyT_take (i := 2) (v := ?_) rfl (by decide +kernel) (by decide +kernel) (by decide +kernel) (by decide +kernel) (by decide +kernel) (fun _ _ _ h => h) (Or.inl ⟨by rfl, ?_⟩) (by assumption) ?_
          rotate_left
          · intro w hSw; (try dsimp only at hSw); first | (go_simp; done) | (go_simp; with_reducible rfl)
          try simp only [Act.put, List.getElem_toArray, List.getElem_cons_succ, List.getElem_cons_zero, List.setIfInBounds_toArray, List.set_cons_zero, List.set_cons_succ]
          refine wpAnyT_one (i := 3) (by kernel_rfl) rfl (fun K hK => ?_)
          go_simp
          refine hK.out _ _ ?_ (fun hHeld2 => ?_)
          · (try dsimp only); exact hHeld
          clear hK K hHeld
          have hHeld := hHeld2
          clear hHeld2
          try simp only [Act.put, List.getElem_toArray, List.getElem_cons_succ, List.getElem_cons_zero, List.setIfInBounds_toArray, List.set_cons_zero, List.set_cons_succ]
          refine wpAnyT_one (i := 8) (by kernel_rfl) rfl (fun K hK => ?_)
          go_simp
          (refine (same_any v vi _ _ l it _ (HRW.out _ hHeld.2).1 (HRW.out _ hHeld.2).2).mono ?_; rintro e w6 ⟨rfl, hb6⟩)
          refine hK.out _ _ ?_ (fun hHeld2 => ?_)
          · (try dsimp only); exact ⟨hHeld.1.kept (hb6.mono (by have := hHeld.1.lt; omega)), grownBy_trans hHeld.2 (grownBy_of_below hb6 (Nat.le_refl _) _)⟩
          clear hK K hHeld
          have hHeld := hHeld2
          clear hHeld2
          try simp only [Act.put, List.getElem_toArray, List.getElem_cons_succ, List.getElem_cons_zero, List.setIfInBounds_toArray, List.set_cons_zero, List.set_cons_succ]
          refine wpAnyT_last (i := 9) (by kernel_rfl) (by kernel_rfl) rfl (by kernel_rfl) (fun K hK => ?_)
          go_simp
          refine hK.out _ _ ?_
          clear hK K
          try simp only [Act.put, List.getElem_toArray, List.getElem_cons_succ, List.getElem_cons_zero, List.setIfInBounds_toArray, List.set_cons_zero, List.set_cons_succ]
          have hS9 := hHeld
          clear hHeld
          go_wp2_with fail
          go_meet
          exact ⟨rfl, hS9.1, hS9.2⟩
      case rest =>
        obtain ⟨rfl, hs9, hg9⟩ := hcut
        obtain ⟨w9, rfl⟩ : ∃ x : World, x = wc := ⟨_, rfl⟩
        have HS9 := Lib.hid hs9
        have HV9 := Lib.hid (row_turn HV.out hg9 HGL.out)
        have HI9 := Lib.hid (row_turn HI.out hg9 HGL.out)
        have HB9 := Lib.hid (HB.out.trans (grownBy_below hg9 HG.out HS.out.lt))
        clear hs9 hg9
        go_wp2_with fail
        go_roundw
        case rel => exact ⟨k + 1, by omega, by go_num, HS9.out, HV9.out, HI9.out, HB9.out⟩
        case measure => simp [intOf]; omega
    · obtain rfl : k = 5 := by omega
      go_wp2_with (go_at_call 10; refine (awake_any _).mono ?_; rintro e w10 ⟨rfl, hb10⟩)
      go_ret
      exact ⟨rfl, HB.out.trans (hb10.mono HB.out.size)⟩
end Go.Proofs.Ytadkkkdecejkeaa

namespace Go.Proofs.Ytadkkkdecejkeaa.gridTracks
open Go.ChangeShapes Go.WideShapes Go.ChangeAt Go.RowKit
set_option linter.unusedVariables false
theorem own : ownKnob Try.prog.godebug = none := by kernel_rfl
theorem laidOut : laidOutB Try.prog = true := by kernel_rfl
set_option maxRecDepth 100000 in
theorem lifted (os : Os) (started : os.Started) (H : Type) (enc : TypeId × Value → H) :
    ReturnsInHanded {} Try.checked os 4 .any (Rows.gridTracksSpec.pre6 enc Try.prog Try.f4 Rows.gridTracksRow.domain false) (Rows.gridTracksSpec.post enc Try.prog Try.f4 false true false false) := by
  refine returnsInHanded_of_change (C := Try.checked) own started (by kernel_rfl) Try.func4
    (ChangeSpec.witness6 (enc := enc) (C := Try.checked) false ⟨#[], #[.slice none 0 0], []⟩ 8 (by kernel_rfl) (by kernel_rfl) (by kernel_rfl) (by kernel_rfl)) ?_
  intro W base args ds gs before hval0 hW hcnd _
  have hval : ∀ (j : Nat) t v, Try.f4.params[j]? = some t → args[j]? = some v → Value.okWide Try.prog W .any base t v := hval0
  have hW' := hW
  obtain ⟨p, q, hA0, hV, rfl, hfz, hnd⟩ := hW
  have hA : DataW.TrodAll enc Try.prog W 0 (fun _ => true) true Try.f4.params.toList args.toList ds p := hA0
  rw [Try.params4] at hA hval
  obtain ⟨v0, vs0, d0, ds0, p0, q0, hargs, rfl, rfl, h0, r0⟩ := trodAll_cons hA
  obtain ⟨rfl, rfl, rfl⟩ := trodAll_nil r0
  obtain rfl : args = #[v0] := by cases args; simp_all
  obtain ⟨rfl, rfl⟩ := trodVars_none hV
  have lt0 : ∀ x ∈ p0, x.block < W.heap.size := by obtain ⟨m, hm⟩ := h0; exact DataW.trod_lt m _ _ _ hm
  obtain ⟨x0, s0⟩ := open_isInts (hval 0 26 v0 rfl rfl) h0
  clear hA0 hval0
  refine (walk_GridTracks v0 x0 W s0).mono fun e W' ⟨he, bel⟩ => ?_
  subst he
  exact ⟨_, rfl, _, _, _, [], _, [], hW', trodAll_mk1 (shut_bool Try.underlying4 _), (trodAll_cons_mk (Below.trod laidOut (by kernel_rfl) (of_decide_eq_true (by kernel_rfl)) h0 bel lt0) trodAll_mk0), rfl, bel.frame _, fun h => by cases h⟩

/-- THE STATEMENT. -/
theorem proved : Rows.GridTracksSaid :=
  OpenClaim.holds_of_wide 4 Try.f4 rfl rfl rfl rfl rfl rfl rfl ⟨rfl, rfl, rfl, rfl, rfl⟩ rfl rfl rfl rfl rfl (by kernel_rfl) Try.func4 (by kernel_rfl)
    (of_decide_eq_true (by kernel_rfl)) (by unfold Func.isWrapper; first | (rw [if_pos (by decide +kernel)]; kernel_rfl) | (rw [if_neg (by decide +kernel)]; exact ⟨rfl, rfl⟩))
    (fun os started H enc _ => lifted os started H enc)
#print axioms proved
end Go.Proofs.Ytadkkkdecejkeaa.gridTracks
