/- The walk of the law BoxResolves. -/
import Derived.Test.YthmdagffhanagaaResR2
import Derived.Test.YthmdagffhanagaaElems
import Derived.Test.YthmdagffhanagaaAwake18
import Derived.Test.YthmdagffhanagaaOpen
import Derived.Test.YthmdagffhanagaaTail
import Derived.Deep.RegionHeld3
namespace Go.Proofs.Ythmdagffhanagaa
open Go.RowKit
set_option linter.unusedVariables false
set_option linter.unusedSimpArgs false

section
variable {P : Program} {ops : Array Oper} {Q : Exit → Act → World → Prop} {md : Region.Mode} {S : World → Prop} {n : Nat}
/-- Numbers i and j alone may come up. -/
theorem wpAnyT_two {i j : Nat} {oi oj : Oper} {fuel : Nat} {listed : Array Bool} {a : Act} {w : World} (hr : Region.ready md ops listed = [i, j]) (hoi : ops[i]? = some oi) (hoj : ops[j]? = some oj)
    (hi : ∀ K' : Act → World → Prop, Shut (∀ a w, S w → (S w → wpAnyT P md ops Q S n fuel (listed.setIfInBounds i true) a w) → K' a w) → if Region.wanted oi (yielded ops a.tmps) = true then Oper.wp P oi a w K' Q else K' (a.put oi.dst undef) w)
    (hj : ∀ K' : Act → World → Prop, Shut (∀ a w, S w → (S w → wpAnyT P md ops Q S n fuel (listed.setIfInBounds j true) a w) → K' a w) → if Region.wanted oj (yielded ops a.tmps) = true then Oper.wp P oj a w K' Q else K' (a.put oj.dst undef) w) :
    wpAnyT P md ops Q S n (fuel + 1) listed a w := by
  refine ⟨fun h0 => (by rw [hr] at h0; cases h0), fun q hq => ?_⟩
  rw [hr] at hq
  have hqq : q = i ∨ q = j := by simpa using hq
  rcases hqq with rfl | rfl
  · exact wpOp_step hoi (fun K' hK => hi K' (fun a w hS hW => hK a w ⟨fun _ => hS, hW hS⟩))
  · exact wpOp_step hoj (fun K' hK => hj K' (fun a w hS hW => hK a w ⟨fun _ => hS, hW hS⟩))
end
theorem el_turn0 {g B k : Nat} {w1 w2 : World} {v : Value} {xs : List Value} (h : w1.ownsRow B 36 5 v k xs) (hg : w1.grownBy w2 (some g)) (hB : g < B) : w2.ownsRow B 36 5 v k xs :=
  h.kept hg (.inr fun e => by have := (h.lt g e).1; omega)
def tab7 : List Int := [0, 1, 50, 100, 101, 200, 1000]
theorem tab7_bd {i : Nat} (h : i < 7) : 0 ≤ gz tab7 i ∧ gz tab7 i ≤ 1000 := by
  have h7 : i = 0 ∨ i = 1 ∨ i = 2 ∨ i = 3 ∨ i = 4 ∨ i = 5 ∨ i = 6 := by omega
  rcases h7 with rfl | rfl | rfl | rfl | rfl | rfl | rfl <;> decide
theorem tab7_cell (w : World) {i : Nat} (h : i < 7) : (w.alloc (.cells #[.int .i64 0, .int .i64 1, .int .i64 50, .int .i64 100, .int .i64 101, .int .i64 200, .int .i64 1000] 3)).cell? ⟨w.heap.size, i, none⟩ = some (.int .i64 (gz tab7 i)) := by
  rw [cell_of_row _ _ _ _ _ (0, 0) (heap_alloc_new w _)]
  have h7 : i = 0 ∨ i = 1 ∨ i = 2 ∨ i = 3 ∨ i = 4 ∨ i = 5 ∨ i = 6 := by omega
  rcases h7 with rfl | rfl | rfl | rfl | rfl | rfl | rfl <;> rfl
theorem SrcOk.alloc {w : World} {g : Nat} (h : SrcOk w g) (o : Obj) : SrcOk (w.alloc o) g := h.kept ((Below.refl _ _).alloc (by have := h.lt; omega) o)
theorem gr_cell {w w' : World} {g b i : Nat} {v : Value} (hg : w.grownBy w' (some g)) (hc : w.cell? ⟨b, i, none⟩ = some v) (hb : b ≠ g) : w'.cell? ⟨b, i, none⟩ = some v := hg.cell hc (by simpa using hb)
theorem gr_drew {a b : World} {r : Option Nat} (h : a.grownBy b.drew r) : a.grownBy b r := ⟨h.os, h.tape, h.output, h.size, h.block⟩
theorem gr_alloc {a b : World} {r : Option Nat} (h : a.grownBy b r) (o : Obj) : a.grownBy (b.alloc o) r := grownBy_trans h (World.grownBy_alloc b o r)
theorem gr_drew1 {a b : World} {r : Option Nat} (h : a.drew.grownBy b r) : a.grownBy b r := ⟨h.os, h.tape, h.output, h.size, h.block⟩
set_option maxHeartbeats 8000000 in
set_option maxRecDepth 100000 in
theorem walk_BoxResolves (v0 : Value) (xs : List Int) (w : World) (h0 : InInts w v0 xs) : Calls Try.prog 4 #[v0] w (True_ w) := by
  have HU := Lib.hid h0
  clear h0
  go_enter Try.func4, Try.ntmps4
  go_wp2_with fail
  refine (srcNew_any _ xs _ HU.out).mono ?_
  rintro e w1 ⟨g, rfl, hs, hg0, hg1, hb⟩
  have HG : Hid (w.heap.size ≤ g) := hg0
  have HS1 := Lib.hid hs
  have HB1 := Lib.hid hb
  clear hs hg0 hg1 hb
  go_wp2_with fail
  refine (elems_any g _ HS1.out).mono ?_
  rintro e w2 ⟨v, l, rfl, hl5, hok, hown, hs2, hg2⟩
  have HB2 := Lib.hid (HB1.out.trans (grownBy_below hg2 HG.out HS1.out.lt))
  have HS2 := Lib.hid hs2
  have HOW := Lib.hid hown
  have HW5 : Hid (wide 5 l) := hok.1
  have HFX : Hid (flexTo l l.length) := hok.2
  have HER : Hid (∀ av gp, 0 ≤ av → av ≤ 1000 → 0 ≤ gp → gp ≤ 11 → flexErr av gp l = 0) := fun av gp a b c d => flexErr_ok (by omega) (by simp [lenB]; omega) hok.2
  clear hs2 hg2 hown hok
  go_wp2_with fail
  go_loopw [5] (fun i wr => ∃ k : Nat, k ≤ 6 ∧ i = .int .i64 k ∧ SrcOk wr g ∧ wr.ownsRow w1.heap.size 36 5 v l.length (recCells l) ∧ Below w.heap.size w wr) (fun i _ => 6 - (intOf i).toNat)
  case atStart => exact ⟨0, by omega, rfl, HS2.out, HOW.out, HB2.out⟩
  case round =>
    obtain ⟨k, hk, rfl, hs, ho, hb⟩ := hrel
    have HS := Lib.hid hs
    have HO := Lib.hid ho
    have HB := Lib.hid hb
    clear hs ho hb
    by_cases hk6 : k < 6
    · have hk6' : (k : Int) < 6 := by omega
      go_upto_region 6 with fail
      go_cut [6, 7] (fun a b wx => ∃ x y : Int, a = .int .i64 x ∧ b = .int .i64 y ∧ 0 ≤ x ∧ x ≤ 1000 ∧ 0 ≤ y ∧ y ≤ 11 ∧ SrcOk wx g ∧ wr.grownBy wx (some g))
      case first =>
        have HGW : Hid (g < wr.heap.size) := HS.out.lt
        have HSA : Hid (SrcOk (wr.alloc (.cells #[.int .i64 0, .int .i64 1, .int .i64 50, .int .i64 100, .int .i64 101, .int .i64 200, .int .i64 1000] 3)) g) := HS.out.alloc _
        refine wp_region_T (S := (fun w' => SrcOk w' g ∧ wr.grownBy w' (some g))) 8 (by kernel_rfl) (⟨HS.out, ⟨rfl, rfl, rfl, Nat.le_refl _, fun _ _ _ => rfl⟩⟩) (fun hHeld => ?_)
        refine wpAnyT_take (i := 1) (v := ?_) rfl (by decide +kernel) (by decide +kernel) (by decide +kernel) (by decide +kernel) (by decide +kernel) (fun _ _ _ h => h) (Or.inl ⟨by rfl, ?_⟩) (by assumption) ?_
        rotate_left
        · intro w hSw; (try dsimp only at hSw); first | (go_simp; done) | (go_simp; with_reducible rfl)
        try simp only [Act.put, List.getElem_toArray, List.getElem_cons_succ, List.getElem_cons_zero, List.setIfInBounds_toArray, List.set_cons_zero, List.set_cons_succ]
        refine wpAnyT_take (i := 5) (v := ?_) rfl (by decide +kernel) (by decide +kernel) (by decide +kernel) (by decide +kernel) (by decide +kernel) (fun _ _ _ h => h) (Or.inl ⟨by rfl, ?_⟩) (by assumption) ?_
        rotate_left
        · intro w hSw; (try dsimp only at hSw); first | (go_simp; done) | (go_simp; with_reducible rfl)
        try simp only [Act.put, List.getElem_toArray, List.getElem_cons_succ, List.getElem_cons_zero, List.setIfInBounds_toArray, List.set_cons_zero, List.set_cons_succ]
        refine wpAnyT_two (i := 0) (j := 2) (by kernel_rfl) rfl rfl (fun K hK => ?_) (fun K hK => ?_)
        ·
          go_simp
          refine hK.out _ _ ?_ (fun hHeld2 => ?_)
          · (try dsimp only); exact ⟨HSA.out, gr_alloc hHeld.2 _⟩
          clear hK K hHeld
          have hHeld := hHeld2
          clear hHeld2
          try simp only [Act.put, List.getElem_toArray, List.getElem_cons_succ, List.getElem_cons_zero, List.setIfInBounds_toArray, List.set_cons_zero, List.set_cons_succ]
          refine wpAnyT_one (i := 2) (by kernel_rfl) rfl (fun K hK => ?_)
          go_simp
          (refine (srcN_any g _ _ hHeld.1 (by omega) (by omega)).mono ?_; rintro e w3 ⟨y1, y1a, y1b, rfl, hs3, hg3⟩; obtain ⟨i1, rfl⟩ := Int.eq_ofNat_of_zero_le y1a; have jj1 : ((i1 : Nat) : Int) < 7 := Int.lt_of_le_of_lt y1b (by decide); have j1 : i1 < 7 := Int.ofNat_lt.1 jj1)
          refine hK.out _ _ ?_ (fun hHeld2 => ?_)
          · (try dsimp only); exact ⟨hs3, grownBy_trans hHeld.2 hg3⟩
          clear hK K hHeld
          have hHeld := hHeld2
          clear hHeld2
          try simp only [Act.put, List.getElem_toArray, List.getElem_cons_succ, List.getElem_cons_zero, List.setIfInBounds_toArray, List.set_cons_zero, List.set_cons_succ]
          have cx := gr_cell hg3 (tab7_cell wr j1) (by have := HGW.out; omega)
          refine wpAnyT_take (i := 3) (v := ?_) rfl (by decide +kernel) (by decide +kernel) (by decide +kernel) (by decide +kernel) (by decide +kernel) (fun _ _ _ h => h) (Or.inl ⟨by rfl, ?_⟩) (by assumption) ?_
          rotate_left
          · intro w hSw; (try dsimp only at hSw); first | (go_simp; done) | (go_simp; with_reducible rfl)
          try simp only [Act.put, List.getElem_toArray, List.getElem_cons_succ, List.getElem_cons_zero, List.setIfInBounds_toArray, List.set_cons_zero, List.set_cons_succ]
          refine wpAnyT_two (i := 4) (j := 6) (by kernel_rfl) rfl rfl (fun K hK => ?_) (fun K hK => ?_)
          ·
            go_simp
            refine hK.out _ _ ?_ (fun hHeld2 => ?_)
            · (try dsimp only); exact hHeld
            clear hK K hHeld
            have hHeld := hHeld2
            clear hHeld2
            try simp only [Act.put, List.getElem_toArray, List.getElem_cons_succ, List.getElem_cons_zero, List.setIfInBounds_toArray, List.set_cons_zero, List.set_cons_succ]
            refine wpAnyT_one (i := 6) (by kernel_rfl) rfl (fun K hK => ?_)
            go_simp
            (refine (srcN_any g _ _ hHeld.1 (by omega) (by omega)).mono ?_; rintro e w5 ⟨z2, y2a, y2b, rfl, hs5, hg5⟩)
            refine hK.out _ _ ?_ (fun hHeld2 => ?_)
            · (try dsimp only); exact ⟨hs5, grownBy_trans hHeld.2 hg5⟩
            clear hK K hHeld
            have hHeld := hHeld2
            clear hHeld2
            try simp only [Act.put, List.getElem_toArray, List.getElem_cons_succ, List.getElem_cons_zero, List.setIfInBounds_toArray, List.set_cons_zero, List.set_cons_succ]
            refine wpAnyT_take (i := 7) (v := ?_) rfl (by decide +kernel) (by decide +kernel) (by decide +kernel) (by decide +kernel) (by decide +kernel) (fun _ _ _ h => h) (Or.inl ⟨by rfl, ?_⟩) (by assumption) ?_
            rotate_left
            · intro w hSw; (try dsimp only at hSw); first | (go_simp; done) | (go_simp; with_reducible rfl)
            try simp only [Act.put, List.getElem_toArray, List.getElem_cons_succ, List.getElem_cons_zero, List.setIfInBounds_toArray, List.set_cons_zero, List.set_cons_succ]
            refine wpAnyT_last (i := 8) (by kernel_rfl) (by kernel_rfl) rfl (by kernel_rfl) (fun K hK => ?_)
            go_simp
            refine hK.out _ _ ?_
            clear hK K
            try simp only [Act.put, List.getElem_toArray, List.getElem_cons_succ, List.getElem_cons_zero, List.setIfInBounds_toArray, List.set_cons_zero, List.set_cons_succ]
            have hS9 := hHeld
            clear hHeld
            go_wp2_with fail
            go_meet
            exact ⟨_, _, rfl, rfl, (tab7_bd j1).1, (tab7_bd j1).2, y2a, by omega, hS9.1, hS9.2⟩
          ·
            go_simp
            (refine (srcN_any g _ _ hHeld.1 (by omega) (by omega)).mono ?_; rintro e w5 ⟨z2, y2a, y2b, rfl, hs5, hg5⟩)
            refine hK.out _ _ ?_ (fun hHeld2 => ?_)
            · (try dsimp only); exact ⟨hs5, grownBy_trans hHeld.2 hg5⟩
            clear hK K hHeld
            have hHeld := hHeld2
            clear hHeld2
            try simp only [Act.put, List.getElem_toArray, List.getElem_cons_succ, List.getElem_cons_zero, List.setIfInBounds_toArray, List.set_cons_zero, List.set_cons_succ]
            have c5 := gr_cell hg5 cx (by have := HGW.out; omega)
            refine wpAnyT_one (i := 4) (by kernel_rfl) rfl (fun K hK => ?_)
            go_simp
            refine hK.out _ _ ?_ (fun hHeld2 => ?_)
            · (try dsimp only); exact hHeld
            clear hK K hHeld
            have hHeld := hHeld2
            clear hHeld2
            try simp only [Act.put, List.getElem_toArray, List.getElem_cons_succ, List.getElem_cons_zero, List.setIfInBounds_toArray, List.set_cons_zero, List.set_cons_succ]
            refine wpAnyT_take (i := 7) (v := ?_) rfl (by decide +kernel) (by decide +kernel) (by decide +kernel) (by decide +kernel) (by decide +kernel) (fun _ _ _ h => h) (Or.inl ⟨by rfl, ?_⟩) (by assumption) ?_
            rotate_left
            · intro w hSw; (try dsimp only at hSw); first | (go_simp; done) | (go_simp; with_reducible rfl)
            try simp only [Act.put, List.getElem_toArray, List.getElem_cons_succ, List.getElem_cons_zero, List.setIfInBounds_toArray, List.set_cons_zero, List.set_cons_succ]
            refine wpAnyT_last (i := 8) (by kernel_rfl) (by kernel_rfl) rfl (by kernel_rfl) (fun K hK => ?_)
            go_simp
            refine hK.out _ _ ?_
            clear hK K
            try simp only [Act.put, List.getElem_toArray, List.getElem_cons_succ, List.getElem_cons_zero, List.setIfInBounds_toArray, List.set_cons_zero, List.set_cons_succ]
            have hS9 := hHeld
            clear hHeld
            go_wp2_with fail
            go_meet
            exact ⟨_, _, rfl, rfl, (tab7_bd j1).1, (tab7_bd j1).2, y2a, by omega, hS9.1, hS9.2⟩
        ·
          go_simp
          (refine (srcN_any g _ _ hHeld.1 (by omega) (by omega)).mono ?_; rintro e w3 ⟨y1, y1a, y1b, rfl, hs3, hg3⟩; obtain ⟨i1, rfl⟩ := Int.eq_ofNat_of_zero_le y1a; have jj1 : ((i1 : Nat) : Int) < 7 := Int.lt_of_le_of_lt y1b (by decide); have j1 : i1 < 7 := Int.ofNat_lt.1 jj1)
          refine hK.out _ _ ?_ (fun hHeld2 => ?_)
          · (try dsimp only); exact ⟨hs3, grownBy_trans hHeld.2 hg3⟩
          clear hK K hHeld
          have hHeld := hHeld2
          clear hHeld2
          try simp only [Act.put, List.getElem_toArray, List.getElem_cons_succ, List.getElem_cons_zero, List.setIfInBounds_toArray, List.set_cons_zero, List.set_cons_succ]
          have lt3 : g < w3.heap.size := hs3.lt
          refine wpAnyT_two (i := 0) (j := 6) (by kernel_rfl) rfl rfl (fun K hK => ?_) (fun K hK => ?_)
          ·
            go_simp
            refine hK.out _ _ ?_ (fun hHeld2 => ?_)
            · (try dsimp only); exact ⟨hHeld.1.alloc _, gr_alloc hHeld.2 _⟩
            clear hK K hHeld
            have hHeld := hHeld2
            clear hHeld2
            try simp only [Act.put, List.getElem_toArray, List.getElem_cons_succ, List.getElem_cons_zero, List.setIfInBounds_toArray, List.set_cons_zero, List.set_cons_succ]
            have cx := tab7_cell w3 j1
            have HGW := Lib.hid lt3
            refine wpAnyT_take (i := 3) (v := ?_) rfl (by decide +kernel) (by decide +kernel) (by decide +kernel) (by decide +kernel) (by decide +kernel) (fun _ _ _ h => h) (Or.inl ⟨by rfl, ?_⟩) (by assumption) ?_
            rotate_left
            · intro w hSw; (try dsimp only at hSw); first | (go_simp; done) | (go_simp; with_reducible rfl)
            try simp only [Act.put, List.getElem_toArray, List.getElem_cons_succ, List.getElem_cons_zero, List.setIfInBounds_toArray, List.set_cons_zero, List.set_cons_succ]
            refine wpAnyT_two (i := 4) (j := 6) (by kernel_rfl) rfl rfl (fun K hK => ?_) (fun K hK => ?_)
            ·
              go_simp
              refine hK.out _ _ ?_ (fun hHeld2 => ?_)
              · (try dsimp only); exact hHeld
              clear hK K hHeld
              have hHeld := hHeld2
              clear hHeld2
              try simp only [Act.put, List.getElem_toArray, List.getElem_cons_succ, List.getElem_cons_zero, List.setIfInBounds_toArray, List.set_cons_zero, List.set_cons_succ]
              refine wpAnyT_one (i := 6) (by kernel_rfl) rfl (fun K hK => ?_)
              go_simp
              (refine (srcN_any g _ _ hHeld.1 (by omega) (by omega)).mono ?_; rintro e w5 ⟨z2, y2a, y2b, rfl, hs5, hg5⟩)
              refine hK.out _ _ ?_ (fun hHeld2 => ?_)
              · (try dsimp only); exact ⟨hs5, grownBy_trans hHeld.2 hg5⟩
              clear hK K hHeld
              have hHeld := hHeld2
              clear hHeld2
              try simp only [Act.put, List.getElem_toArray, List.getElem_cons_succ, List.getElem_cons_zero, List.setIfInBounds_toArray, List.set_cons_zero, List.set_cons_succ]
              refine wpAnyT_take (i := 7) (v := ?_) rfl (by decide +kernel) (by decide +kernel) (by decide +kernel) (by decide +kernel) (by decide +kernel) (fun _ _ _ h => h) (Or.inl ⟨by rfl, ?_⟩) (by assumption) ?_
              rotate_left
              · intro w hSw; (try dsimp only at hSw); first | (go_simp; done) | (go_simp; with_reducible rfl)
              try simp only [Act.put, List.getElem_toArray, List.getElem_cons_succ, List.getElem_cons_zero, List.setIfInBounds_toArray, List.set_cons_zero, List.set_cons_succ]
              refine wpAnyT_last (i := 8) (by kernel_rfl) (by kernel_rfl) rfl (by kernel_rfl) (fun K hK => ?_)
              go_simp
              refine hK.out _ _ ?_
              clear hK K
              try simp only [Act.put, List.getElem_toArray, List.getElem_cons_succ, List.getElem_cons_zero, List.setIfInBounds_toArray, List.set_cons_zero, List.set_cons_succ]
              have hS9 := hHeld
              clear hHeld
              go_wp2_with fail
              go_meet
              exact ⟨_, _, rfl, rfl, (tab7_bd j1).1, (tab7_bd j1).2, y2a, by omega, hS9.1, hS9.2⟩
            ·
              go_simp
              (refine (srcN_any g _ _ hHeld.1 (by omega) (by omega)).mono ?_; rintro e w5 ⟨z2, y2a, y2b, rfl, hs5, hg5⟩)
              refine hK.out _ _ ?_ (fun hHeld2 => ?_)
              · (try dsimp only); exact ⟨hs5, grownBy_trans hHeld.2 hg5⟩
              clear hK K hHeld
              have hHeld := hHeld2
              clear hHeld2
              try simp only [Act.put, List.getElem_toArray, List.getElem_cons_succ, List.getElem_cons_zero, List.setIfInBounds_toArray, List.set_cons_zero, List.set_cons_succ]
              have c5 := gr_cell hg5 cx (by have := HGW.out; omega)
              refine wpAnyT_one (i := 4) (by kernel_rfl) rfl (fun K hK => ?_)
              go_simp
              refine hK.out _ _ ?_ (fun hHeld2 => ?_)
              · (try dsimp only); exact hHeld
              clear hK K hHeld
              have hHeld := hHeld2
              clear hHeld2
              try simp only [Act.put, List.getElem_toArray, List.getElem_cons_succ, List.getElem_cons_zero, List.setIfInBounds_toArray, List.set_cons_zero, List.set_cons_succ]
              refine wpAnyT_take (i := 7) (v := ?_) rfl (by decide +kernel) (by decide +kernel) (by decide +kernel) (by decide +kernel) (by decide +kernel) (fun _ _ _ h => h) (Or.inl ⟨by rfl, ?_⟩) (by assumption) ?_
              rotate_left
              · intro w hSw; (try dsimp only at hSw); first | (go_simp; done) | (go_simp; with_reducible rfl)
              try simp only [Act.put, List.getElem_toArray, List.getElem_cons_succ, List.getElem_cons_zero, List.setIfInBounds_toArray, List.set_cons_zero, List.set_cons_succ]
              refine wpAnyT_last (i := 8) (by kernel_rfl) (by kernel_rfl) rfl (by kernel_rfl) (fun K hK => ?_)
              go_simp
              refine hK.out _ _ ?_
              clear hK K
              try simp only [Act.put, List.getElem_toArray, List.getElem_cons_succ, List.getElem_cons_zero, List.setIfInBounds_toArray, List.set_cons_zero, List.set_cons_succ]
              have hS9 := hHeld
              clear hHeld
              go_wp2_with fail
              go_meet
              exact ⟨_, _, rfl, rfl, (tab7_bd j1).1, (tab7_bd j1).2, y2a, by omega, hS9.1, hS9.2⟩
          ·
            go_simp
            (refine (srcN_any g _ _ hHeld.1 (by omega) (by omega)).mono ?_; rintro e w5 ⟨z2, y2a, y2b, rfl, hs5, hg5⟩)
            refine hK.out _ _ ?_ (fun hHeld2 => ?_)
            · (try dsimp only); exact ⟨hs5, grownBy_trans hHeld.2 hg5⟩
            clear hK K hHeld
            have hHeld := hHeld2
            clear hHeld2
            try simp only [Act.put, List.getElem_toArray, List.getElem_cons_succ, List.getElem_cons_zero, List.setIfInBounds_toArray, List.set_cons_zero, List.set_cons_succ]
            refine wpAnyT_one (i := 0) (by kernel_rfl) rfl (fun K hK => ?_)
            go_simp
            refine hK.out _ _ ?_ (fun hHeld2 => ?_)
            · (try dsimp only); exact ⟨hHeld.1.alloc _, gr_alloc hHeld.2 _⟩
            clear hK K hHeld
            have hHeld := hHeld2
            clear hHeld2
            try simp only [Act.put, List.getElem_toArray, List.getElem_cons_succ, List.getElem_cons_zero, List.setIfInBounds_toArray, List.set_cons_zero, List.set_cons_succ]
            have cx := tab7_cell w5 j1
            refine wpAnyT_take (i := 3) (v := ?_) rfl (by decide +kernel) (by decide +kernel) (by decide +kernel) (by decide +kernel) (by decide +kernel) (fun _ _ _ h => h) (Or.inl ⟨by rfl, ?_⟩) (by assumption) ?_
            rotate_left
            · intro w hSw; (try dsimp only at hSw); first | (go_simp; done) | (go_simp; with_reducible rfl)
            try simp only [Act.put, List.getElem_toArray, List.getElem_cons_succ, List.getElem_cons_zero, List.setIfInBounds_toArray, List.set_cons_zero, List.set_cons_succ]
            refine wpAnyT_one (i := 4) (by kernel_rfl) rfl (fun K hK => ?_)
            go_simp
            refine hK.out _ _ ?_ (fun hHeld2 => ?_)
            · (try dsimp only); exact hHeld
            clear hK K hHeld
            have hHeld := hHeld2
            clear hHeld2
            try simp only [Act.put, List.getElem_toArray, List.getElem_cons_succ, List.getElem_cons_zero, List.setIfInBounds_toArray, List.set_cons_zero, List.set_cons_succ]
            refine wpAnyT_take (i := 7) (v := ?_) rfl (by decide +kernel) (by decide +kernel) (by decide +kernel) (by decide +kernel) (by decide +kernel) (fun _ _ _ h => h) (Or.inl ⟨by rfl, ?_⟩) (by assumption) ?_
            rotate_left
            · intro w hSw; (try dsimp only at hSw); first | (go_simp; done) | (go_simp; with_reducible rfl)
            try simp only [Act.put, List.getElem_toArray, List.getElem_cons_succ, List.getElem_cons_zero, List.setIfInBounds_toArray, List.set_cons_zero, List.set_cons_succ]
            refine wpAnyT_last (i := 8) (by kernel_rfl) (by kernel_rfl) rfl (by kernel_rfl) (fun K hK => ?_)
            go_simp
            refine hK.out _ _ ?_
            clear hK K
            try simp only [Act.put, List.getElem_toArray, List.getElem_cons_succ, List.getElem_cons_zero, List.setIfInBounds_toArray, List.set_cons_zero, List.set_cons_succ]
            have hS9 := hHeld
            clear hHeld
            go_wp2_with fail
            go_meet
            exact ⟨_, _, rfl, rfl, (tab7_bd j1).1, (tab7_bd j1).2, y2a, by omega, hS9.1, hS9.2⟩
      case rest =>
        obtain ⟨x, y, rfl, rfl, hx0, hx1, hy0, hy1, hs3, hg3⟩ := hcut
        obtain ⟨w3, rfl⟩ : ∃ x : World, x = wc := ⟨_, rfl⟩
        have HO3 : Hid (w3.ownsRow w1.heap.size 36 5 v l.length (recCells l)) := el_turn0 HO.out hg3 HS1.out.lt
        have HB3 : Hid (Below w.heap.size w w3) := HB.out.trans (grownBy_below hg3 HG.out HS.out.lt)
        have HS3 := Lib.hid hs3
        have HR3 : Hid (IsRecs 5 w3 v l) := ownsRow_isRecs HO3.out rfl HW5.out
        have HC : Hid (flexErr x y l = 0) := HER.out x y hx0 hx1 hy0 hy1
        clear hs3 hg3 hx0 hx1 hy0 hy1
        go_wp2_with fail
        refine (bres_any _ x y l _ HR3.out).mono ?_
        rw [show Resolved x y l w3 = fun e w' => ∃ v, e = .returned (.tuple #[v, .int .i64 0]) ∧ IsInts w' v (resL x y l) ∧ Below w3.heap.size w3 w' from by unfold Resolved; rw [HC.out]]
        rintro e w4 ⟨u, rfl, hu, hb4⟩
        have HU4 := Lib.hid hu
        have HB4 := Lib.hid hb4
        clear hu hb4
        go_wp2_with fail
        refine (rres_any _ x y l _ (HR3.out.of_below HB4.out)).mono ?_
        rw [show Resolved x y l w4 = fun e w' => ∃ v, e = .returned (.tuple #[v, .int .i64 0]) ∧ IsInts w' v (resL x y l) ∧ Below w4.heap.size w4 w' from by unfold Resolved; rw [HC.out]]
        rintro e w5 ⟨t, rfl, ht, hb5⟩
        have HU5 := Lib.hid (HU4.out.of_below hb5)
        have HT5 := Lib.hid ht
        have HB5 : Hid (Below w3.heap.size w3 w5) := HB4.out.trans (hb5.mono HB4.out.size)
        clear ht hb5
        obtain ⟨L1, hL1⟩ : ∃ L, resL x y l = L := ⟨_, rfl⟩
        rw [hL1] at HU5 HT5
        clear hL1
        go_wp2_with fail
        refine (equal_any _ _ L1 L1 _ HU5.out HT5.out).mono ?_
        rw [eqL_self]
        rintro e w6 ⟨rfl, d6, rfl⟩
        have HB6 : Hid (Below w3.heap.size w3 (w5.drewN d6)) := Below_drewN HB5.out d6
        go_wp2
        go_roundw
        case rel => exact ⟨k + 1, by omega, by go_num, HS3.out.kept (HB6.out.mono (by have := HS3.out.lt; omega)), own_below HO3.out HB6.out, HB3.out.trans (HB6.out.mono HB3.out.size)⟩
        case measure => simp [intOf]; omega
    · obtain rfl : k = 6 := by omega
      go_wp2_with (go_at_call 14; refine (awake_any _).mono ?_; rintro e w10 ⟨rfl, hb10⟩)
      go_ret
      exact ⟨rfl, HB.out.trans (hb10.mono HB.out.size)⟩
end Go.Proofs.Ythmdagffhanagaa

