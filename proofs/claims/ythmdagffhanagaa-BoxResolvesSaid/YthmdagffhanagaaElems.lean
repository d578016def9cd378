/- elements of package widgetrylaw18: valid elements out of a reader's numbers. -/
import Derived.Test.YthmdagffhanagaaBoxPlain
import Derived.Test.YthmdagffhanagaaSrc
import Derived.Test.YthmdagffhanagaaTail
import Derived.Deep.AppendLies
namespace Go.Proofs.Ythmdagffhanagaa
open Go.RowKit
set_option linter.unusedVariables false
set_option linter.unusedSimpArgs false

def tab9 : List Int := [0, 1, 7, 10, 33, 50, 100, 300, 1048576]
theorem tab9_bd {i : Nat} (h : i < 9) : 0 ≤ gz tab9 i ∧ gz tab9 i ≤ 1048576 := by
  match i, h with
  | 0, _ => decide
  | 1, _ => decide
  | 2, _ => decide
  | 3, _ => decide
  | 4, _ => decide
  | 5, _ => decide
  | 6, _ => decide
  | 7, _ => decide
  | 8, _ => decide
/-- Elements that are valid. -/
def elemsOk (l : List Rec) : Prop := wide 5 l ∧ flexTo l l.length
theorem elemsOk_nil : elemsOk [] := ⟨fun r h => (by cases h), fun i h => absurd h (Nat.not_lt_zero _)⟩
theorem elemsOk_snoc {l : List Rec} (h : elemsOk l) {a b c d e : Int} (ha : 0 ≤ a ∧ a ≤ 1048576) (hb : 0 ≤ b ∧ b ≤ 1048576) (hc : 0 ≤ c ∧ c ≤ 1048576) (hd : 0 ≤ d ∧ d ≤ 1000) (he : 0 ≤ e ∧ e ≤ 1000) : elemsOk (l ++ [[a, b, c, d, e]]) := by
  refine ⟨fun r hr => ?_, fun i hi => ?_⟩
  · rcases List.mem_append.1 hr with hr | hr
    · exact h.1 r hr
    · simp at hr; subst hr; rfl
  · by_cases hl : i < l.length
    · have e1 : ∀ j, gf (l ++ [[a, b, c, d, e]]) i j = gf l i j := fun j => by simp [gf, List.getElem?_append, hl]
      have := h.2 i hl
      rw [flexB_iff] at this ⊢
      simp only [e1]; exact this
    · have : i = l.length := by simp at hi; omega
      subst this
      rw [flexB_iff]
      have e1 : ∀ j, gf (l ++ [[a, b, c, d, e]]) l.length j = ([a, b, c, d, e] : List Int).getD j 0 := fun j => by simp [gf]
      simp only [e1]
      exact ⟨ha, hb, hc, hd, he⟩
def ElB (g B : Nat) (w w' : World) : Prop :=
  SrcOk w' g ∧ w.grownBy w' (some g) ∧ w'.heap[B]? = some (.cells ((tab9.map (Value.int .i64)).toArray) 3 (0, 0)) ∧ B + 1 ≤ w'.heap.size ∧ w.heap.size = B
section
variable {g B : Nat} {w w1 w2 : World}
theorem ElB.turn (h : ElB g B w w1) (hg : w1.grownBy w2 (some g)) (hs : SrcOk w2 g) (hB : g < B) : ElB g B w w2 := by
  obtain ⟨h1, h2, h3, h4, h5⟩ := h
  have := hg.size
  exact ⟨hs, grownBy_trans h2 hg, (hg.block _ (lt_of_block h3) (fun e => by have := Option.some.inj e; omega)).trans h3, by omega, h5⟩
theorem ElB.alloc (h : ElB g B w w1) (o : Obj) : ElB g B w (w1.alloc o) := by
  obtain ⟨h1, h2, h3, h4, h5⟩ := h
  have hb : Below w1.heap.size w1 (w1.alloc o) := (Below.refl _ _).alloc (Nat.le_refl _) _
  have hl := h1.lt
  exact ⟨h1.kept (hb.mono (by omega)), grownBy_trans h2 (grownBy_of_below hb (Nat.le_refl _) _), (hb.block _ (lt_of_block h3)).trans h3, by simp; omega, h5⟩
theorem ElB.drew (h : ElB g B w w1) : ElB g B w w1.drew := ⟨h.1, grownBy_drewN h.2.1 1, h.2.2⟩
theorem ElB.app {row : Option Nat} (h : ElB g B w w1) (hg : w1.grownBy w2 row) (hr : ∀ q, row = some q → B + 1 ≤ q) (hB : g < B) : ElB g B w w2 := by
  obtain ⟨h1, h2, h3, h4, h5⟩ := h
  have := hg.size
  have hb : Below (g + 1) w1 w2 := ⟨hg.os, hg.tape, hg.output, hg.size, fun k hk => hg.block k (by have := h1.lt; omega) (fun e => by have := hr k e.symm; omega)⟩
  refine ⟨h1.kept hb, ⟨hg.os.trans h2.os, hg.tape.trans h2.tape, hg.output.trans h2.output, Nat.le_trans h2.size hg.size, fun j hj hn => ?_⟩, (hg.block _ (lt_of_block h3) (fun e => by have := hr _ e.symm; omega)).trans h3, by omega, h5⟩
  exact (hg.block j (Nat.lt_of_lt_of_le hj h2.size) (fun e => by have := hr _ e.symm; omega)).trans (h2.block j hj hn)
theorem ElB.cells (h : ElB g B w w1) : ∀ i, i < 9 → w1.cell? ⟨B, i, none⟩ = some (.int .i64 (gz tab9 i)) := fun i hi => by
  rw [cell_of_row w1 _ i _ _ (0, 0) h.2.2.1]
  have : i < tab9.length := hi
  simp [gz, this]
theorem el_turn {k : Nat} {v : Value} {xs : List Value} (h : w1.ownsRow (B + 1) 36 5 v k xs) (hg : w1.grownBy w2 (some g)) (hB : g < B) : w2.ownsRow (B + 1) 36 5 v k xs :=
  h.kept hg (.inr fun e => by have := (h.lt g e).1; omega)
end
theorem info_flex : (Try.prog.info? 36).map (fun i => (i.zero, i.size, i.bytes)) = some (some (.agg #[.int .i64 0, .int .i64 0, .int .i64 0, .int .i64 0, .int .i64 0]), 5, 40) := by kernel_rfl

/-- The reader has given elements. -/
def SrcElems (g : Nat) (w : World) (e : Ending) (w' : World) : Prop := ∃ u l, e = .returned u ∧ l.length ≤ 5 ∧ elemsOk l ∧ w'.ownsRow w.heap.size 36 5 u l.length (recCells l) ∧ SrcOk w' g ∧ w.grownBy w' (some g)

set_option maxHeartbeats 8000000 in
set_option maxRecDepth 100000 in
theorem elems_any (g : Nat) (w : World) (hs : SrcOk w g) : Calls Try.prog 16 #[.pointer (some ⟨g, 0, none⟩)] w (SrcElems g w) := by
  obtain ⟨i0, hi0, hz0, hz1, hz2⟩ := info_parts info_flex
  have hgl := hs.lt
  have HGL := Lib.hid hgl
  have HS := Lib.hid hs
  have HE0 : Hid (ElB g w.heap.size w (w.alloc (.cells #[.int .i64 0, .int .i64 1, .int .i64 7, .int .i64 10, .int .i64 33, .int .i64 50, .int .i64 100, .int .i64 300, .int .i64 1048576] 3))) := by
    have hb : Below w.heap.size w (w.alloc (.cells #[.int .i64 0, .int .i64 1, .int .i64 7, .int .i64 10, .int .i64 33, .int .i64 50, .int .i64 100, .int .i64 300, .int .i64 1048576] 3)) := (Below.refl _ _).alloc (Nat.le_refl _) _
    exact ⟨HS.out.kept (hb.mono (by omega)), grownBy_of_below hb (Nat.le_refl _) _, heap_alloc_new w _, by simp, rfl⟩
  clear hs hgl
  go_enter Try.func16, Try.ntmps16
  go_wp2_with (go_at_call 17; refine (srcN_any g _ _ HE0.out.1 (by omega) (by omega)).mono ?_; rintro e w2 ⟨z, z0, z1, rfl, hs2, hg2⟩; have HE2 := Lib.hid (HE0.out.turn hg2 hs2 HGL.out); clear hs2 hg2)
  go_loopw [4, 5] (fun u i wr => ∃ (k : Nat) (l : List Rec), k + l.length ≤ 5 ∧ i = .int .i64 k ∧ elemsOk l ∧ ElB g w.heap.size w wr ∧ wr.ownsRow (w.heap.size + 1) 36 5 u l.length (recCells l)) (fun _ i _ => (intOf i).toNat)
  case atStart =>
    refine ⟨z.toNat, [], by simpa using (by omega : z.toNat ≤ 5), ?_, elemsOk_nil, HE2.out, World.ownsRow_nil _ _ _ _⟩
    all_goals (try rw [Int.toNat_of_nonneg z0])
  case round =>
    obtain ⟨k, l, hk, rfl, hok, hE, hO⟩ := hrel
    have HOK := Lib.hid hok
    have HE1 := Lib.hid hE
    have HO1 := Lib.hid hO
    obtain ⟨m, hm⟩ : ∃ m, l.length = m := ⟨_, rfl⟩
    have HM := Lib.hid hm
    rw [hm] at hk HO1
    clear hok hE hO hm
    by_cases hkp : 0 < k
    · have hkp' : (0 : Int) < (k : Int) := by omega
      go_wp2_with fail
      refine wp_region_T (S := (fun w' => (∀ i, i < 9 → w'.cell? ⟨w.heap.size, i, none⟩ = some (.int .i64 (gz tab9 i))) ∧ ElB g w.heap.size w w')) 23 (by kernel_rfl) (⟨HE1.out.cells, HE1.out.drew⟩) (fun hHeld => ?_)
      refine wpAnyT_take (i := 0) (v := ?_) rfl (by decide +kernel) (by decide +kernel) (by decide +kernel) (by decide +kernel) (by decide +kernel) (fun _ _ _ h => h) (Or.inl ⟨by rfl, ?_⟩) (by assumption) ?_
      rotate_left
      · intro w hSw; (try dsimp only at hSw); first | (go_simp; done) | (go_simp; with_reducible rfl)
      try simp only [Act.put, List.setIfInBounds_toArray, List.set_cons_zero, List.set_cons_succ]
      refine wpAnyT_take (i := 1) (v := ?_) rfl (by decide +kernel) (by decide +kernel) (by decide +kernel) (by decide +kernel) (by decide +kernel) (fun _ _ _ h => h) (Or.inl ⟨by rfl, ?_⟩) (by assumption) ?_
      rotate_left
      · intro w hSw; (try dsimp only at hSw); first | (go_simp; done) | (go_simp; with_reducible rfl)
      try simp only [Act.put, List.setIfInBounds_toArray, List.set_cons_zero, List.set_cons_succ]
      refine wpAnyT_take (i := 2) (v := ?_) rfl (by decide +kernel) (by decide +kernel) (by decide +kernel) (by decide +kernel) (by decide +kernel) (fun _ _ _ h => h) (Or.inl ⟨by rfl, ?_⟩) (by assumption) ?_
      rotate_left
      · intro w hSw; (try dsimp only at hSw); first | (go_simp; done) | (go_simp; with_reducible rfl)
      try simp only [Act.put, List.setIfInBounds_toArray, List.set_cons_zero, List.set_cons_succ]
      refine wpAnyT_take (i := 6) (v := ?_) rfl (by decide +kernel) (by decide +kernel) (by decide +kernel) (by decide +kernel) (by decide +kernel) (fun _ _ _ h => h) (Or.inl ⟨by rfl, ?_⟩) (by assumption) ?_
      rotate_left
      · intro w hSw; (try dsimp only at hSw); first | (go_simp; done) | (go_simp; with_reducible rfl)
      try simp only [Act.put, List.setIfInBounds_toArray, List.set_cons_zero, List.set_cons_succ]
      refine wpAnyT_take (i := 7) (v := ?_) rfl (by decide +kernel) (by decide +kernel) (by decide +kernel) (by decide +kernel) (by decide +kernel) (fun _ _ _ h => h) (Or.inl ⟨by rfl, ?_⟩) (by assumption) ?_
      rotate_left
      · intro w hSw; (try dsimp only at hSw); first | (go_simp; done) | (go_simp; with_reducible rfl)
      try simp only [Act.put, List.setIfInBounds_toArray, List.set_cons_zero, List.set_cons_succ]
      refine wpAnyT_take (i := 11) (v := ?_) rfl (by decide +kernel) (by decide +kernel) (by decide +kernel) (by decide +kernel) (by decide +kernel) (fun _ _ _ h => h) (Or.inl ⟨by rfl, ?_⟩) (by assumption) ?_
      rotate_left
      · intro w hSw; (try dsimp only at hSw); first | (go_simp; done) | (go_simp; with_reducible rfl)
      try simp only [Act.put, List.setIfInBounds_toArray, List.set_cons_zero, List.set_cons_succ]
      refine wpAnyT_take (i := 12) (v := ?_) rfl (by decide +kernel) (by decide +kernel) (by decide +kernel) (by decide +kernel) (by decide +kernel) (fun _ _ _ h => h) (Or.inl ⟨by rfl, ?_⟩) (by assumption) ?_
      rotate_left
      · intro w hSw; (try dsimp only at hSw); first | (go_simp; done) | (go_simp; with_reducible rfl)
      try simp only [Act.put, List.setIfInBounds_toArray, List.set_cons_zero, List.set_cons_succ]
      refine wpAnyT_take (i := 16) (v := ?_) rfl (by decide +kernel) (by decide +kernel) (by decide +kernel) (by decide +kernel) (by decide +kernel) (fun _ _ _ h => h) (Or.inl ⟨by rfl, ?_⟩) (by assumption) ?_
      rotate_left
      · intro w hSw; (try dsimp only at hSw); first | (go_simp; done) | (go_simp; with_reducible rfl)
      try simp only [Act.put, List.setIfInBounds_toArray, List.set_cons_zero, List.set_cons_succ]
      refine wpAnyT_take (i := 18) (v := ?_) rfl (by decide +kernel) (by decide +kernel) (by decide +kernel) (by decide +kernel) (by decide +kernel) (fun _ _ _ h => h) (Or.inl ⟨by rfl, ?_⟩) (by assumption) ?_
      rotate_left
      · intro w hSw; (try dsimp only at hSw); first | (go_simp; done) | (go_simp; with_reducible rfl)
      try simp only [Act.put, List.setIfInBounds_toArray, List.set_cons_zero, List.set_cons_succ]
      refine wpAnyT_one (i := 3) (by kernel_rfl) rfl (fun K hK => ?_)
      go_simp
      (refine (srcN_any g _ _ hHeld.2.1 (by omega) (by omega)).mono ?_; rintro e w3 ⟨y1, y1a, y1b, rfl, hs3, hg3⟩; obtain ⟨i1, rfl⟩ := Int.eq_ofNat_of_zero_le y1a; have jj1 : ((i1 : Nat) : Int) < 9 := Int.lt_of_le_of_lt y1b (by decide); have j1 : i1 < 9 := Int.ofNat_lt.1 jj1)
      refine hK.out _ _ ?_ (fun hHeld2 => ?_)
      · (try dsimp only); exact ⟨(ElB.turn hHeld.2 hg3 hs3 HGL.out).cells, ElB.turn hHeld.2 hg3 hs3 HGL.out⟩
      clear hK K hHeld
      have hHeld := hHeld2
      clear hHeld2
      try simp only [Act.put, List.setIfInBounds_toArray, List.set_cons_zero, List.set_cons_succ]
      have HO3 := Lib.hid (el_turn (by exact HO1.out) hg3 HGL.out)
      clear hs3 hg3
      refine wpAnyT_take (i := 4) (v := ?_) rfl (by decide +kernel) (by decide +kernel) (by decide +kernel) (by decide +kernel) (by decide +kernel) (fun _ _ _ h => h) (Or.inl ⟨by rfl, ?_⟩) (by assumption) ?_
      rotate_left
      · intro w hSw; (try dsimp only at hSw); first | (go_simp; done) | (go_simp; with_reducible rfl)
      try simp only [Act.put, List.setIfInBounds_toArray, List.set_cons_zero, List.set_cons_succ]
      refine wpAnyT_take (i := 5) (v := ?_) rfl (by decide +kernel) (by decide +kernel) (by decide +kernel) (by decide +kernel) (by decide +kernel) (fun _ _ _ h => h) (Or.inl ⟨by rfl, ?_⟩) (by assumption) ?_
      rotate_left
      · intro w hSw; (try dsimp only at hSw); first | (go_simp; done) | (go_simp; with_reducible rfl)
      try simp only [Act.put, List.setIfInBounds_toArray, List.set_cons_zero, List.set_cons_succ]
      refine wpAnyT_one (i := 8) (by kernel_rfl) rfl (fun K hK => ?_)
      go_simp
      (refine (srcN_any g _ _ hHeld.2.1 (by omega) (by omega)).mono ?_; rintro e w4 ⟨y2, y2a, y2b, rfl, hs4, hg4⟩; obtain ⟨i2, rfl⟩ := Int.eq_ofNat_of_zero_le y2a; have jj2 : ((i2 : Nat) : Int) < 9 := Int.lt_of_le_of_lt y2b (by decide); have j2 : i2 < 9 := Int.ofNat_lt.1 jj2)
      refine hK.out _ _ ?_ (fun hHeld2 => ?_)
      · (try dsimp only); exact ⟨(ElB.turn hHeld.2 hg4 hs4 HGL.out).cells, ElB.turn hHeld.2 hg4 hs4 HGL.out⟩
      clear hK K hHeld
      have hHeld := hHeld2
      clear hHeld2
      try simp only [Act.put, List.setIfInBounds_toArray, List.set_cons_zero, List.set_cons_succ]
      have HO4 := Lib.hid (el_turn (by exact HO3.out) hg4 HGL.out)
      clear hs4 hg4
      refine wpAnyT_take (i := 9) (v := ?_) rfl (by decide +kernel) (by decide +kernel) (by decide +kernel) (by decide +kernel) (by decide +kernel) (fun _ _ _ h => h) (Or.inl ⟨by rfl, ?_⟩) (by assumption) ?_
      rotate_left
      · intro w hSw; (try dsimp only at hSw); first | (go_simp; done) | (go_simp; with_reducible rfl)
      try simp only [Act.put, List.setIfInBounds_toArray, List.set_cons_zero, List.set_cons_succ]
      refine wpAnyT_take (i := 10) (v := ?_) rfl (by decide +kernel) (by decide +kernel) (by decide +kernel) (by decide +kernel) (by decide +kernel) (fun _ _ _ h => h) (Or.inl ⟨by rfl, ?_⟩) (by assumption) ?_
      rotate_left
      · intro w hSw; (try dsimp only at hSw); first | (go_simp; done) | (go_simp; with_reducible rfl)
      try simp only [Act.put, List.setIfInBounds_toArray, List.set_cons_zero, List.set_cons_succ]
      refine wpAnyT_one (i := 13) (by kernel_rfl) rfl (fun K hK => ?_)
      go_simp
      (refine (srcN_any g _ _ hHeld.2.1 (by omega) (by omega)).mono ?_; rintro e w5 ⟨y3, y3a, y3b, rfl, hs5, hg5⟩; obtain ⟨i3, rfl⟩ := Int.eq_ofNat_of_zero_le y3a; have jj3 : ((i3 : Nat) : Int) < 9 := Int.lt_of_le_of_lt y3b (by decide); have j3 : i3 < 9 := Int.ofNat_lt.1 jj3)
      refine hK.out _ _ ?_ (fun hHeld2 => ?_)
      · (try dsimp only); exact ⟨(ElB.turn hHeld.2 hg5 hs5 HGL.out).cells, ElB.turn hHeld.2 hg5 hs5 HGL.out⟩
      clear hK K hHeld
      have hHeld := hHeld2
      clear hHeld2
      try simp only [Act.put, List.setIfInBounds_toArray, List.set_cons_zero, List.set_cons_succ]
      have HO5 := Lib.hid (el_turn (by exact HO4.out) hg5 HGL.out)
      clear hs5 hg5
      refine wpAnyT_take (i := 14) (v := ?_) rfl (by decide +kernel) (by decide +kernel) (by decide +kernel) (by decide +kernel) (by decide +kernel) (fun _ _ _ h => h) (Or.inl ⟨by rfl, ?_⟩) (by assumption) ?_
      rotate_left
      · intro w hSw; (try dsimp only at hSw); first | (go_simp; done) | (go_simp; with_reducible rfl)
      try simp only [Act.put, List.setIfInBounds_toArray, List.set_cons_zero, List.set_cons_succ]
      refine wpAnyT_take (i := 15) (v := ?_) rfl (by decide +kernel) (by decide +kernel) (by decide +kernel) (by decide +kernel) (by decide +kernel) (fun _ _ _ h => h) (Or.inl ⟨by rfl, ?_⟩) (by assumption) ?_
      rotate_left
      · intro w hSw; (try dsimp only at hSw); first | (go_simp; done) | (go_simp; with_reducible rfl)
      try simp only [Act.put, List.setIfInBounds_toArray, List.set_cons_zero, List.set_cons_succ]
      refine wpAnyT_one (i := 17) (by kernel_rfl) rfl (fun K hK => ?_)
      go_simp
      (refine (srcN_any g _ _ hHeld.2.1 (by omega) (by omega)).mono ?_; rintro e w6 ⟨z4, y4a, y4b, rfl, hs6, hg6⟩)
      refine hK.out _ _ ?_ (fun hHeld2 => ?_)
      · (try dsimp only); exact ⟨(ElB.turn hHeld.2 hg6 hs6 HGL.out).cells, ElB.turn hHeld.2 hg6 hs6 HGL.out⟩
      clear hK K hHeld
      have hHeld := hHeld2
      clear hHeld2
      try simp only [Act.put, List.setIfInBounds_toArray, List.set_cons_zero, List.set_cons_succ]
      have HO6 := Lib.hid (el_turn (by exact HO5.out) hg6 HGL.out)
      clear hs6 hg6
      refine wpAnyT_one (i := 19) (by kernel_rfl) rfl (fun K hK => ?_)
      go_simp
      (refine (srcN_any g _ _ hHeld.2.1 (by omega) (by omega)).mono ?_; rintro e w7 ⟨z5, y5a, y5b, rfl, hs7, hg7⟩)
      refine hK.out _ _ ?_ (fun hHeld2 => ?_)
      · (try dsimp only); exact ⟨(ElB.turn hHeld.2 hg7 hs7 HGL.out).cells, ElB.turn hHeld.2 hg7 hs7 HGL.out⟩
      clear hK K hHeld
      have hHeld := hHeld2
      clear hHeld2
      try simp only [Act.put, List.setIfInBounds_toArray, List.set_cons_zero, List.set_cons_succ]
      have HO7 := Lib.hid (el_turn (by exact HO6.out) hg7 HGL.out)
      clear hs7 hg7
      refine wpAnyT_take (i := 20) (v := ?_) rfl (by decide +kernel) (by decide +kernel) (by decide +kernel) (by decide +kernel) (by decide +kernel) (fun _ _ _ h => h) (Or.inl ⟨by rfl, ?_⟩) (by assumption) ?_
      rotate_left
      · intro w hSw; (try dsimp only at hSw); first | (go_simp; done) | (go_simp; with_reducible rfl)
      try simp only [Act.put, List.setIfInBounds_toArray, List.set_cons_zero, List.set_cons_succ]
      have HE7 := Lib.hid hHeld.2
      refine wpAnyT_one (i := 21) (by kernel_rfl) rfl (fun K hK => ?_)
      go_simp
      refine hK.out _ _ ?_ (fun hHeld2 => ?_)
      · (try dsimp only); exact ⟨(HE7.out.alloc _).cells, HE7.out.alloc _⟩
      clear hK K hHeld
      have hHeld := hHeld2
      clear hHeld2
      try simp only [Act.put, List.setIfInBounds_toArray, List.set_cons_zero, List.set_cons_succ]
      refine wpAnyT_one (i := 22) (by kernel_rfl) rfl (fun K hK => ?_)
      (refine step_append_lies _ (by rfl) _ _ _ (by rfl) (w.heap.size + 1) 36 i0 _ 5 40 Try.underlying22 hi0 hz0 hz1 hz2 rfl (by omega) _ m (recCells l) (by rfl) (HO7.out.alloc _) ⟨w7.heap.size, 0, none⟩ 1 1 [.int .i64 (gz tab9 i1), .int .i64 (gz tab9 i2), .int .i64 (gz tab9 i3), .int .i64 z4, .int .i64 z5] (by rfl) (by rfl) (World.news_of_block (cs := #[.int .i64 (gz tab9 i1), .int .i64 (gz tab9 i2), .int .i64 (gz tab9 i3), .int .i64 z4, .int .i64 z5]) (t := 36) (fr := (0, 0)) (heap_alloc_new w7 _)) (by simp [Value.oneCell']) (by omega) (by unfold maxLen; omega) (by omega) (by have := HE7.out.2.2.2.1; simp; omega) (w7.heap.size + 1) (by simp) ?_; intro gg cap' w8 hown8 hgrow8 hat8 hlt8; have HE8 : Hid (ElB g w.heap.size w w8) := ElB.app (HE7.out.alloc _) hgrow8 (fun q hq => (HO7.out.lt q hq).1) HGL.out)
      refine hK.out _ _ ?_ (fun hHeld2 => ?_)
      · (try dsimp only); exact ⟨HE8.out.cells, HE8.out⟩
      clear hK K hHeld
      have hHeld := hHeld2
      clear hHeld2
      try simp only [Act.put, List.setIfInBounds_toArray, List.set_cons_zero, List.set_cons_succ]
      have HO8 : Hid (w8.ownsRow (w.heap.size + 1) 36 5 (.slice (some ⟨gg, 0, none⟩) (m + 1) cap') (l ++ [[gz tab9 i1, gz tab9 i2, gz tab9 i3, z4, z5]]).length (recCells (l ++ [[gz tab9 i1, gz tab9 i2, gz tab9 i3, z4, z5]]))) := by
        show World.ownsRow _ _ _ _ _ _ _
        rw [recCells_append, List.length_append, HM.out]; exact hown8
      have HOK8 : Hid (elemsOk (l ++ [[gz tab9 i1, gz tab9 i2, gz tab9 i3, z4, z5]])) := elemsOk_snoc HOK.out (tab9_bd j1) (tab9_bd j2) (tab9_bd j3) (by omega) (by omega)
      clear hown8 hgrow8 hat8 hlt8
      refine wpAnyT_last (i := 23) (by kernel_rfl) (by kernel_rfl) rfl (by kernel_rfl) (fun K hK => ?_)
      go_simp
      refine hK.out _ _ ?_
      clear hK K
      try simp only [Act.put, List.setIfInBounds_toArray, List.set_cons_zero, List.set_cons_succ]
      clear hHeld
      go_wp2
      go_roundw
      case rel => exact ⟨k - 1, _, by rw [List.length_append, HM.out]; simp; omega, by congr 1; omega, HOK8.out, HE8.out, HO8.out⟩
      case measure => simp [intOf]; omega
    · obtain rfl : k = 0 := by omega
      go_wp2
      go_ret
      refine ⟨_, l, rfl, by rw [HM.out]; omega, HOK.out, ?_, HE1.out.1, HE1.out.2.1⟩
      rw [HM.out]
      obtain ⟨h1, h2⟩ := HO1.out
      refine ⟨h1, ?_⟩
      rcases h2 with h2 | ⟨gq, cap, cur, rfl, hgq, rest⟩
      · exact .inl h2
      · exact .inr ⟨gq, cap, cur, rfl, by omega, rest⟩
end Go.Proofs.Ythmdagffhanagaa

