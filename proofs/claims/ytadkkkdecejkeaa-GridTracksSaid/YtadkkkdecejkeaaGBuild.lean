/- build of package widgetrylaw19: valid tracks and items out of a reader's numbers. -/
import Derived.Test.YtadkkkdecejkeaaRows3
import Derived.Test.YtadkkkdecejkeaaSrcR
import Derived.Test.YtadkkkdecejkeaaRecs
import Derived.Test.YtadkkkdecejkeaaTail
import Derived.Deep.AppendLies
import Derived.OneCell
namespace Go.Proofs.Ytadkkkdecejkeaa
open Go.RowKit
attribute [local go_sem ↓] Go.wp_at_zero Go.wp_at_succ
set_option linter.unusedVariables false
set_option linter.unusedSimpArgs false

/-- Valid tracks and items of build. -/
structure Built19 (l it : List Rec) : Prop where
  l0 : 1 ≤ l.length
  l1 : l.length ≤ 5
  i1 : it.length ≤ 6
  wl : wide 2 l
  wi : wide 4 it
  tb : trksB l = true
  ib : itsB it l.length = true
  lo : ∀ i, i < l.length → gf l i 1 ≤ 1000
  im : ∀ j, j < it.length → gf it j 2 ≤ 49
theorem wide_nil (c : Nat) : wide c [] := fun r h => (by cases h)
theorem wide_snoc {c : Nat} {l : List Rec} {r : Rec} (h : wide c l) (hr : r.length = c) : wide c (l ++ [r]) := fun x hx => by
  rcases List.mem_append.1 hx with hx | hx
  · exact h x hx
  · simp at hx; subst hx; exact hr
theorem gf_snoc_lt {l : List Rec} {r : Rec} {i : Nat} (h : i < l.length) (j : Nat) : gf (l ++ [r]) i j = gf l i j := by simp [gf, List.getElem?_append, h]
theorem gf_snoc_at (l : List Rec) (r : Rec) (j : Nat) : gf (l ++ [r]) l.length j = r.getD j 0 := by simp [gf]
theorem trksB_nil : trksB [] = true := rfl
theorem trksB_snoc {l : List Rec} {a b : Int} (h : trksB l = true) (hr : trkB a b = true) : trksB (l ++ [[a, b]]) = true := by
  refine List.all_eq_true.2 fun i hi => ?_
  have hi2 := List.mem_range.1 hi
  by_cases hl : i < l.length
  · rw [gf_snoc_lt hl, gf_snoc_lt hl]; exact trksB_at h hl
  · obtain rfl : i = l.length := by simp at hi2; omega
    rw [gf_snoc_at, gf_snoc_at]; exact hr
theorem itsB_nil (n : Nat) : itsB [] n = true := rfl
theorem itsB_snoc {it : List Rec} {n : Nat} {a b c d : Int} (h : itsB it n = true) (ha : 0 ≤ a ∧ a < (n : Int)) (hb : 1 ≤ b ∧ b ≤ (n : Int) - a) (hc : 0 ≤ c ∧ c ≤ 1048576) (hd : 0 ≤ d ∧ d ≤ 1048576) : itsB (it ++ [[a, b, c, d]]) n = true := by
  refine List.all_eq_true.2 fun i hi => ?_
  have hi2 := List.mem_range.1 hi
  by_cases hl : i < it.length
  · have := itsB_at h hl
    unfold itB at this ⊢
    simp only [gf_snoc_lt hl]; exact this
  · obtain rfl : i = it.length := by simp at hi2; omega
    unfold itB
    simp only [gf_snoc_at, Bool.and_eq_true, lenB_iff, decide_eq_true_eq, List.getD_cons_zero, List.getD_cons_succ]
    exact ⟨⟨⟨⟨⟨hc, hd⟩, ha.1⟩, ha.2⟩, hb.1⟩, hb.2⟩
def okT (l : List Rec) : Prop := trksB l = true ∧ ∀ i, i < l.length → gf l i 1 ≤ 1000
def okI (it : List Rec) (n : Nat) : Prop := itsB it n = true ∧ ∀ j, j < it.length → gf it j 2 ≤ 49
theorem okT_nil : okT [] := ⟨rfl, fun i h => absurd h (Nat.not_lt_zero _)⟩
theorem okI_nil (n : Nat) : okI [] n := ⟨rfl, fun i h => absurd h (Nat.not_lt_zero _)⟩
theorem okT_snoc {l : List Rec} {a b : Int} (h : okT l) (hr : trkB a b = true ∧ b ≤ 1000) : okT (l ++ [[a, b]]) :=
  ⟨trksB_snoc h.1 hr.1, fun i hi => by
    by_cases hl : i < l.length
    · rw [gf_snoc_lt hl]; exact h.2 i hl
    · obtain rfl : i = l.length := by simp at hi; omega
      rw [gf_snoc_at]; exact hr.2⟩
theorem okI_snoc {it : List Rec} {n : Nat} {a b c d : Int} (h : okI it n) (ha : 0 ≤ a ∧ a < (n : Int)) (hb : 1 ≤ b ∧ b ≤ (n : Int) - a) (hc : 0 ≤ c ∧ c ≤ 49) (hd : 0 ≤ d ∧ d ≤ 1048576) : okI (it ++ [[a, b, c, d]]) n :=
  ⟨itsB_snoc h.1 ha hb (by omega) hd, fun i hi => by
    by_cases hl : i < it.length
    · rw [gf_snoc_lt hl]; exact h.2 i hl
    · obtain rfl : i = it.length := by simp at hi; omega
      rw [gf_snoc_at]; exact hc.2⟩
/-- Only the reader's block has turned, of those that were. -/
def Bld (g : Nat) (w w' : World) : Prop := SrcOk w' g ∧ w.grownBy w' (some g)
section
variable {g : Nat} {w w1 w2 : World}
theorem Bld.turn (h : Bld g w w1) (hg : w1.grownBy w2 (some g)) (hs : SrcOk w2 g) : Bld g w w2 := ⟨hs, grownBy_trans h.2 hg⟩
theorem Bld.keep (h : Bld g w w1) (hb : Below w.heap.size w1 w2) (hgl : g < w.heap.size) : Bld g w w2 :=
  ⟨h.1.kept (hb.mono (by omega)), hb.os.trans h.2.os, hb.tape.trans h.2.tape, hb.output.trans h.2.output, Nat.le_trans h.2.size hb.size, fun j hj hn => (hb.block j hj).trans (h.2.block j hj hn)⟩
theorem Bld.alloc (h : Bld g w w1) (hgl : g < w.heap.size) (o : Obj) : Bld g w (w1.alloc o) := h.keep ((Below.refl _ _).alloc h.2.size o) hgl
theorem Bld.set (h : Bld g w w1) (hgl : g < w.heap.size) {T : Nat} (hT : w.heap.size ≤ T) (i : Nat) (v : Value) : Bld g w (w1.setCell ⟨T, i, none⟩ v) := h.keep ((Below.refl _ _).setCell (p := ⟨T, i, none⟩) hT v) hgl
theorem row_turn {e sz n : Nat} {v : Value} {xs : List Value} {H : Nat} (h : w1.ownsRow H e sz v n xs) (hg : w1.grownBy w2 (some g)) (hgl : g < H) : w2.ownsRow H e sz v n xs := h.kept hg (.inr fun e => by have := (h.lt g e).1; omega)
theorem row_far {e sz n : Nat} {v : Value} {xs : List Value} {H T : Nat} (h : w1.ownsRow H e sz v n xs) (hT : w1.heap.size ≤ T) : v.ownBlock ≠ some T := fun e => by have := (h.lt T e).2; omega
theorem turn_cell {T i : Nat} {v : Value} (hg : w1.grownBy w2 (some g)) (hc : w1.cell? ⟨T, i, none⟩ = some v) (hT : T ≠ g) : w2.cell? ⟨T, i, none⟩ = some v := hg.cell hc (by simpa using hT)
theorem turn_free {T : Nat} (hg : w1.grownBy w2 (some g)) (hlt : T < w1.heap.size) (hf : ∀ i, w1.frozen? ⟨T, i, none⟩ = false) (hT : T ≠ g) : ∀ i, w2.frozen? ⟨T, i, none⟩ = false := fun i => (World.frozen?_of_block (a := ⟨T, i, none⟩) (hg.block T hlt (by simpa using hT))).trans (hf i)
end
/-- Block X holds an item. -/
def ExB (W : World) (X : Nat) (p s c d : Int) : Prop := W.heap[X]? = some (.cells #[.int .i64 p, .int .i64 s, .int .i64 c, .int .i64 d] 44 (0, 0))
section
variable {W W' : World} {X g : Nat} {p s c d : Int}
theorem ExB.lt (h : ExB W X p s c d) : X < W.heap.size := lt_of_block h
theorem ExB.c0 (h : ExB W X p s c d) : W.cell? ⟨X, 0, none⟩ = some (.int .i64 p) := by rw [cell_of_row W X 0 _ _ (0, 0) h]; rfl
theorem ExB.c1 (h : ExB W X p s c d) : W.cell? ⟨X, 1, none⟩ = some (.int .i64 s) := by rw [cell_of_row W X 1 _ _ (0, 0) h]; rfl
theorem ExB.c2 (h : ExB W X p s c d) : W.cell? ⟨X, 2, none⟩ = some (.int .i64 c) := by rw [cell_of_row W X 2 _ _ (0, 0) h]; rfl
theorem ExB.c3 (h : ExB W X p s c d) : W.cell? ⟨X, 3, none⟩ = some (.int .i64 d) := by rw [cell_of_row W X 3 _ _ (0, 0) h]; rfl
theorem ExB.free (h : ExB W X p s c d) (i : Nat) : W.frozen? ⟨X, i, none⟩ = false := by
  unfold ExB at h
  simp [World.frozen?, h]
theorem ExB.set1 (h : ExB W X p s c d) (v : Int) : ExB (W.setCell ⟨X, 1, none⟩ (.int .i64 v)) X p v c d := by
  unfold ExB at h ⊢
  simp [World.setCell, h, Array.getElem?_modify]
theorem ExB.set3 (h : ExB W X p s c d) (v : Int) : ExB (W.setCell ⟨X, 3, none⟩ (.int .i64 v)) X p s c v := by
  unfold ExB at h ⊢
  simp [World.setCell, h, Array.getElem?_modify]
theorem ExB.turn (h : ExB W X p s c d) (hg : W.grownBy W' (some g)) (hX : X ≠ g) : ExB W' X p s c d := (hg.block X h.lt (by simpa using hX)).trans h
end
theorem info_track : (Try.prog.info? 42).map (fun i => (i.zero, i.size, i.bytes)) = some (some (.agg #[.int .i64 0, .int .i64 0]), 2, 16) := by kernel_rfl
theorem info_ext : (Try.prog.info? 44).map (fun i => (i.zero, i.size, i.bytes)) = some (some (.agg #[.int .i64 0, .int .i64 0, .int .i64 0, .int .i64 0]), 4, 32) := by kernel_rfl
/-- The reader has given tracks and items. -/
def SrcTracks (g : Nat) (w : World) (e : Ending) (w' : World) : Prop :=
  ∃ v vi l it, e = .returned (.tuple #[v, vi]) ∧ Built19 l it ∧ w'.ownsRow w.heap.size 42 2 v l.length (recCells l) ∧ w'.ownsRow w.heap.size 44 4 vi it.length (recCells it) ∧ Bld g w w'

set_option maxHeartbeats 8000000 in
set_option maxRecDepth 100000 in
theorem gbuild_any (g : Nat) (w : World) (hs : SrcOk w g) : Calls Try.prog 12 #[.pointer (some ⟨g, 0, none⟩)] w (SrcTracks g w) := by
  obtain ⟨i0, hi0, hz0, hz1, hz2⟩ := info_parts info_track
  obtain ⟨j0, ji0, jz0, jz1, jz2⟩ := info_parts info_ext
  have HGL := Lib.hid hs.lt
  have HE0 : Hid (Bld g w w) := ⟨hs, World.grownBy.refl w _⟩
  clear hs
  go_enter Try.func12, Try.ntmps12
  go_wp2_with fail
  refine (srcRange_any g _ _ _ HE0.out.1 (by omega) (by omega) (by omega)).mono ?_
  rintro e w2 ⟨z, z0, z1, rfl, hs2, hg2⟩
  have HE2 := Lib.hid (HE0.out.turn hg2 hs2)
  obtain ⟨n, rfl⟩ := Int.eq_ofNat_of_zero_le (show 0 ≤ z by omega)
  have hn1 : 1 ≤ n := by omega
  have hn5 : n ≤ 5 := by omega
  clear hs2 hg2 z0 z1
  go_wp2_with fail
  go_loopw [4, 5] (fun u i wr => ∃ (k : Nat) (l : List Rec), k + l.length = n ∧ i = .int .i64 k ∧ wide 2 l ∧ okT l ∧ Bld g w wr ∧ wr.ownsRow w.heap.size 42 2 u l.length (recCells l)) (fun _ i _ => (intOf i).toNat)
  case atStart => exact ⟨n, [], by simp, rfl, wide_nil _, okT_nil, HE2.out, World.ownsRow_nil _ _ _ _⟩
  case round =>
    obtain ⟨k, l, hk, rfl, hwd, htb, hE, hO⟩ := hrel
    have HWD := Lib.hid hwd
    have HTB := Lib.hid htb
    have HE1 := Lib.hid hE
    have HO1 := Lib.hid hO
    obtain ⟨m, hm⟩ : ∃ m, l.length = m := ⟨_, rfl⟩
    have HM := Lib.hid hm
    rw [hm] at hk HO1
    clear hwd htb hE hO hm
    by_cases hkp : 0 < k
    ·
      as_aux_lemma =>
        have hkp' : (0 : Int) < (k : Int) := by omega
        go_wp2_with fail
        refine (srcN_any g _ _ HE1.out.1 (by omega) (by omega)).mono ?_
        rintro e w3 ⟨z, z0, z1, rfl, hs3, hg3⟩
        have HE3 := Lib.hid (HE1.out.turn hg3 hs3)
        have HO3 := Lib.hid (row_turn HO1.out hg3 HGL.out)
        clear hs3 hg3
        go_upto_region 6 with fail
        have HE4 := Lib.hid (HE3.out.alloc HGL.out (.cells #[.int .i64 z, .int .i64 0] 42))
        have HO4 := Lib.hid (HO3.out.alloc (.cells #[.int .i64 z, .int .i64 0] 42))
        have hblk := heap_alloc_new w3 (.cells #[.int .i64 z, .int .i64 0] 42)
        have HFR := Lib.hid (row_far HO3.out (Nat.le_refl _))
        have HTT : Hid (w.heap.size ≤ w3.heap.size ∧ w3.heap.size ≠ g ∧ w3.heap.size < (w3.alloc (.cells #[.int .i64 z, .int .i64 0] 42)).heap.size) := ⟨HE3.out.2.size, by have := HE3.out.1.lt; omega, by simp⟩
        obtain ⟨T, hT⟩ : ∃ T, w3.heap.size = T := ⟨_, rfl⟩
        obtain ⟨W4, hW4⟩ : ∃ W, w3.alloc (.cells #[.int .i64 z, .int .i64 0] 42) = W := ⟨_, rfl⟩
        rw [hW4] at HE4 HO4 hblk HTT ⊢
        rw [hT] at hblk HFR HTT ⊢
        have c0 : W4.cell? ⟨T, 0, none⟩ = some (.int .i64 z) := by rw [cell_of_row W4 T 0 _ _ (0, 0) hblk]; rfl
        have c1 : W4.cell? ⟨T, 1, none⟩ = some (.int .i64 0) := by rw [cell_of_row W4 T 1 _ _ (0, 0) hblk]; rfl
        have HF4 : Hid (∀ i, W4.frozen? ⟨T, i, none⟩ = false) := fun i => by simp [World.frozen?, hblk]
        have C0 := Lib.hid c0
        clear hT hW4 hblk
        by_cases hz : z = 0
        ·
          as_aux_lemma =>
            have d0 : (z == 0) = true := by simpa using hz
            have HZ := Lib.hid hz
            clear hz
            go_wp2_with fail
            refine (srcN_any g _ _ HE4.out.1 (by omega) (by omega)).mono ?_
            rintro e w6 ⟨x, x0, x1, rfl, hs6, hg6⟩
            have HE6 := Lib.hid (HE4.out.turn hg6 hs6)
            have HO6 := Lib.hid (row_turn HO4.out hg6 HGL.out)
            have f6 := turn_free hg6 HTT.out.2.2 HF4.out HTT.out.2.1 1
            have c6 := turn_cell hg6 C0.out HTT.out.2.1
            have c61 := turn_cell hg6 c1 HTT.out.2.1
            clear hs6 hg6 c0 c1
            have C6 := Lib.hid c6
            have C61 := Lib.hid c61
            go_upto_region 11 with fail
            have HE7 := Lib.hid (HE6.out.set HGL.out HTT.out.1 1 (.int .i64 x))
            have HO7 := Lib.hid (ownsRow_setCell_other HO6.out (a := ⟨T, 1, none⟩) HFR.out (.int .i64 x))
            have c70 : (w6.setCell ⟨T, 1, none⟩ (.int .i64 x)).cell? ⟨T, 0, none⟩ = some (.int .i64 z) := by rw [World.cell?_setCell_other _ _ _ _ (by simp)]; exact C6.out
            have c71 : (w6.setCell ⟨T, 1, none⟩ (.int .i64 x)).cell? ⟨T, 1, none⟩ = some (.int .i64 x) := World.cell?_setCell_same _ _ _ (by rw [C61.out])
            have hxb : trkB z x = true ∧ x ≤ 1000 := ⟨by rw [HZ.out]; unfold trkB; rw [if_pos rfl, lenB_iff]; omega, by omega⟩
            obtain ⟨W7, hW7⟩ : ∃ W, w6.setCell ⟨T, 1, none⟩ (.int .i64 x) = W := ⟨_, rfl⟩
            rw [hW7] at HE7 HO7 c70 c71 ⊢
            clear hW7 c6 c61 f6
            go_wp2_with (at_builtin; refine wpList_append_lies _ rfl _ _ 22 rfl w.heap.size 42 i0 _ 2 16 Try.underlying22 hi0 hz0 hz1 hz2 rfl (by omega) _ m (recCells l) rfl (HO7.out.alloc _) ⟨W7.heap.size, 0, none⟩ 1 1 [.int .i64 z, .int .i64 x] rfl rfl (World.news_of_block (cs := #[.int .i64 z, .int .i64 x]) (t := 42) (fr := (0, 0)) (heap_alloc_new W7 _)) (by simp [Value.oneCell']) (by omega) (by unfold maxLen; omega) (by omega) (by have := HE7.out.2.size; simp; omega) _ rfl ?_; intro gg cap' w8 hown8 hgrow8 hat8 hlt8; have HE8 : Hid (Bld g w w8) := (HE7.out.alloc HGL.out _).keep ((Below.refl _ _).grown hgrow8 (by have := HE7.out.2.size; simp; omega) (fun q hq => (HO7.out.lt q hq).1)) HGL.out; have HO8 := Lib.hid hown8; clear hown8 hgrow8 hat8 hlt8)
            go_roundw
            case rel => exact ⟨k - 1, l ++ [[z, x]], by rw [List.length_append, HM.out]; simp; omega, by congr 1; omega, wide_snoc HWD.out rfl, okT_snoc HTB.out hxb, HE8.out, by rw [List.length_append, HM.out, recCells_append]; exact HO8.out⟩
            case measure => simp [intOf]; omega
        by_cases hz2 : z = 2
        ·
          as_aux_lemma =>
            have d0 : (z == 0) = false := by simpa using hz
            have d2 : (z == 2) = true := by simpa using hz2
            have HZ := Lib.hid hz2
            clear hz hz2
            go_wp2_with fail
            refine (srcRange_any g _ _ _ HE4.out.1 (by omega) (by omega) (by omega)).mono ?_
            rintro e w6 ⟨x, x0, x1, rfl, hs6, hg6⟩
            have HE6 := Lib.hid (HE4.out.turn hg6 hs6)
            have HO6 := Lib.hid (row_turn HO4.out hg6 HGL.out)
            have f6 := turn_free hg6 HTT.out.2.2 HF4.out HTT.out.2.1 1
            have c6 := turn_cell hg6 C0.out HTT.out.2.1
            have c61 := turn_cell hg6 c1 HTT.out.2.1
            clear hs6 hg6 c0 c1
            have C6 := Lib.hid c6
            have C61 := Lib.hid c61
            go_upto_region 11 with fail
            have HE7 := Lib.hid (HE6.out.set HGL.out HTT.out.1 1 (.int .i64 x))
            have HO7 := Lib.hid (ownsRow_setCell_other HO6.out (a := ⟨T, 1, none⟩) HFR.out (.int .i64 x))
            have c70 : (w6.setCell ⟨T, 1, none⟩ (.int .i64 x)).cell? ⟨T, 0, none⟩ = some (.int .i64 z) := by rw [World.cell?_setCell_other _ _ _ _ (by simp)]; exact C6.out
            have c71 : (w6.setCell ⟨T, 1, none⟩ (.int .i64 x)).cell? ⟨T, 1, none⟩ = some (.int .i64 x) := World.cell?_setCell_same _ _ _ (by rw [C61.out])
            have hxb : trkB z x = true ∧ x ≤ 1000 := ⟨by rw [HZ.out]; unfold trkB; rw [if_neg (by omega), if_neg (by omega), if_pos rfl]; simp; omega, by omega⟩
            obtain ⟨W7, hW7⟩ : ∃ W, w6.setCell ⟨T, 1, none⟩ (.int .i64 x) = W := ⟨_, rfl⟩
            rw [hW7] at HE7 HO7 c70 c71 ⊢
            clear hW7 c6 c61 f6
            go_wp2_with (at_builtin; refine wpList_append_lies _ rfl _ _ 22 rfl w.heap.size 42 i0 _ 2 16 Try.underlying22 hi0 hz0 hz1 hz2 rfl (by omega) _ m (recCells l) rfl (HO7.out.alloc _) ⟨W7.heap.size, 0, none⟩ 1 1 [.int .i64 z, .int .i64 x] rfl rfl (World.news_of_block (cs := #[.int .i64 z, .int .i64 x]) (t := 42) (fr := (0, 0)) (heap_alloc_new W7 _)) (by simp [Value.oneCell']) (by omega) (by unfold maxLen; omega) (by omega) (by have := HE7.out.2.size; simp; omega) _ rfl ?_; intro gg cap' w8 hown8 hgrow8 hat8 hlt8; have HE8 : Hid (Bld g w w8) := (HE7.out.alloc HGL.out _).keep ((Below.refl _ _).grown hgrow8 (by have := HE7.out.2.size; simp; omega) (fun q hq => (HO7.out.lt q hq).1)) HGL.out; have HO8 := Lib.hid hown8; clear hown8 hgrow8 hat8 hlt8)
            go_roundw
            case rel => exact ⟨k - 1, l ++ [[z, x]], by rw [List.length_append, HM.out]; simp; omega, by congr 1; omega, wide_snoc HWD.out rfl, okT_snoc HTB.out hxb, HE8.out, by rw [List.length_append, HM.out, recCells_append]; exact HO8.out⟩
            case measure => simp [intOf]; omega
        ·
          as_aux_lemma =>
            have d0 : (z == 0) = false := by simpa using hz
            have d2 : (z == 2) = false := by simpa using hz2
            obtain ⟨x, hx⟩ : ∃ x : Int, 0 = x := ⟨_, rfl⟩
            have hxb : trkB z x = true ∧ x ≤ 1000 := ⟨by unfold trkB; rw [if_neg hz, if_pos (by omega)]; simpa using hx.symm, by omega⟩
            have HE7 := Lib.hid HE4.out
            have HO7 := Lib.hid HO4.out
            rw [hx] at c1
            obtain ⟨W7, hW7⟩ : ∃ W, W4 = W := ⟨_, rfl⟩
            rw [hW7] at HE7 HO7 c0 c1 ⊢
            clear hz hz2 hW7 hx
            go_wp2_with (at_builtin; refine wpList_append_lies _ rfl _ _ 22 rfl w.heap.size 42 i0 _ 2 16 Try.underlying22 hi0 hz0 hz1 hz2 rfl (by omega) _ m (recCells l) rfl (HO7.out.alloc _) ⟨W7.heap.size, 0, none⟩ 1 1 [.int .i64 z, .int .i64 x] rfl rfl (World.news_of_block (cs := #[.int .i64 z, .int .i64 x]) (t := 42) (fr := (0, 0)) (heap_alloc_new W7 _)) (by simp [Value.oneCell']) (by omega) (by unfold maxLen; omega) (by omega) (by have := HE7.out.2.size; simp; omega) _ rfl ?_; intro gg cap' w8 hown8 hgrow8 hat8 hlt8; have HE8 : Hid (Bld g w w8) := (HE7.out.alloc HGL.out _).keep ((Below.refl _ _).grown hgrow8 (by have := HE7.out.2.size; simp; omega) (fun q hq => (HO7.out.lt q hq).1)) HGL.out; have HO8 := Lib.hid hown8; clear hown8 hgrow8 hat8 hlt8)
            go_roundw
            case rel => exact ⟨k - 1, l ++ [[z, x]], by rw [List.length_append, HM.out]; simp; omega, by congr 1; omega, wide_snoc HWD.out rfl, okT_snoc HTB.out hxb, HE8.out, by rw [List.length_append, HM.out, recCells_append]; exact HO8.out⟩
            case measure => simp [intOf]; omega
    · obtain rfl : k = 0 := by omega
      as_aux_lemma =>
        obtain ⟨w3, rfl⟩ : ∃ x : World, x = wr := ⟨_, rfl⟩
        obtain rfl : m = n := by omega
        obtain ⟨n, rfl⟩ : ∃ x, x = m := ⟨_, rfl⟩
        obtain ⟨vt, hvt⟩ : ∃ v, u4 = v := ⟨_, rfl⟩
        rw [hvt] at HO1 ⊢
        have HOT := Lib.hid HO1.out
        obtain ⟨ta, tc, hte⟩ := own_form HO1.out
        clear HO1 hvt
        subst hte
        go_wp2_with fail
        refine (srcN_any g _ _ HE1.out.1 (by omega) (by omega)).mono ?_
        rintro e w4 ⟨z, z0, z1, rfl, hs4, hg4⟩
        have HE4 := Lib.hid (HE1.out.turn hg4 hs4)
        have HT4 := Lib.hid (row_turn HOT.out hg4 HGL.out)
        obtain ⟨q, rfl⟩ := Int.eq_ofNat_of_zero_le z0
        have hq6 : q ≤ 6 := by omega
        have hnn : (1 : Int) ≤ (n : Int) := by omega
        obtain ⟨vt, hvt⟩ : ∃ v, Value.slice ta n tc = v := ⟨_, rfl⟩
        have HVT := Lib.hid hvt
        rw [hvt] at HT4
        clear hs4 hg4 z1 z0 HOT hvt
        go_wp2_with fail
        go_loopw [7, 8] (fun u i wr => ∃ (k : Nat) (it : List Rec), k + it.length = q ∧ i = .int .i64 k ∧ wide 4 it ∧ okI it n ∧ Bld g w wr ∧ wr.ownsRow w.heap.size 42 2 vt n (recCells l) ∧ wr.ownsRow w.heap.size 44 4 u it.length (recCells it) ∧ sep u vt) (fun _ i _ => (intOf i).toNat)
        case atStart => exact ⟨q, [], by simp, rfl, wide_nil _, okI_nil _, HE4.out, HT4.out, World.ownsRow_nil _ _ _ _, fun x h => (by cases h)⟩
        case round =>
          obtain ⟨k, it, hk, rfl, hwd, htb, hE, hT, hO, hsp⟩ := hrel
          have HWI := Lib.hid hwd
          have HIB := Lib.hid htb
          have HE1 := Lib.hid hE
          have HT1 := Lib.hid hT
          have HO1 := Lib.hid hO
          have HSP := Lib.hid hsp
          obtain ⟨m, hm⟩ : ∃ m, it.length = m := ⟨_, rfl⟩
          have HMI := Lib.hid hm
          rw [hm] at hk HO1
          clear hwd htb hE hT hO hm hsp
          by_cases hkp : 0 < k
          ·
            as_aux_lemma =>
              have hkp' : (0 : Int) < (k : Int) := by omega
              go_wp2_with fail
              refine (srcN_any g _ _ HE1.out.1 hnn (by omega)).mono ?_
              rintro e w3 ⟨p, p0, p1, rfl, hs3, hg3⟩
              have HE3 := Lib.hid (HE1.out.turn hg3 hs3)
              have HO3 := Lib.hid (row_turn HO1.out hg3 HGL.out)
              have HT3 := Lib.hid (row_turn HT1.out hg3 HGL.out)
              clear hs3 hg3
              go_wp2_with fail
              refine (srcN_any g _ _ HE3.out.1 (by omega) (by omega)).mono ?_
              rintro e w4 ⟨c, c0, c1, rfl, hs4, hg4⟩
              have HE4 := Lib.hid (HE3.out.turn hg4 hs4)
              have HO4 := Lib.hid (row_turn HO3.out hg4 HGL.out)
              have HT4 := Lib.hid (row_turn HT3.out hg4 HGL.out)
              clear hs4 hg4
              go_upto_region 17 with fail
              have HE5 := Lib.hid (HE4.out.alloc HGL.out (.cells #[.int .i64 p, .int .i64 0, .int .i64 c, .int .i64 0] 44))
              have HO5 := Lib.hid (HO4.out.alloc (.cells #[.int .i64 p, .int .i64 0, .int .i64 c, .int .i64 0] 44))
              have HT5 := Lib.hid (HT4.out.alloc (.cells #[.int .i64 p, .int .i64 0, .int .i64 c, .int .i64 0] 44))
              have hblk := heap_alloc_new w4 (.cells #[.int .i64 p, .int .i64 0, .int .i64 c, .int .i64 0] 44)
              have HFO := Lib.hid (row_far HO4.out (Nat.le_refl _))
              have HFT := Lib.hid (row_far HT4.out (Nat.le_refl _))
              have HXX : Hid (w.heap.size ≤ w4.heap.size ∧ w4.heap.size ≠ g ∧ w4.heap.size < (w4.alloc (.cells #[.int .i64 p, .int .i64 0, .int .i64 c, .int .i64 0] 44)).heap.size) := ⟨HE4.out.2.size, by have := HE4.out.1.lt; omega, by simp⟩
              obtain ⟨X, hX⟩ : ∃ T, w4.heap.size = T := ⟨_, rfl⟩
              obtain ⟨W5, hW5⟩ : ∃ W, w4.alloc (.cells #[.int .i64 p, .int .i64 0, .int .i64 c, .int .i64 0] 44) = W := ⟨_, rfl⟩
              rw [hW5] at HE5 HO5 HT5 hblk HXX ⊢
              rw [hX] at hblk HFO HFT HXX ⊢
              have HX5 : Hid (ExB W5 X p 0 c 0) := hblk
              have x0 := HX5.out.c0
              have hw1 : IntKind.i64.wrap ((n : Int) - p) = (n : Int) - p := IntWalk.i64_in _ (by omega)
              clear hX hW5 hblk
              go_wp2_with fail
              refine (srcN_any g _ _ HE5.out.1 (by omega) (by omega)).mono ?_
              rintro e w6 ⟨s, s0, s1, rfl, hs6, hg6⟩
              have HE6 := Lib.hid (HE5.out.turn hg6 hs6)
              have HO6 := Lib.hid (row_turn HO5.out hg6 HGL.out)
              have HT6 := Lib.hid (row_turn HT5.out hg6 HGL.out)
              have HX6 := Lib.hid (HX5.out.turn hg6 HXX.out.2.1)
              have hw2 : IntKind.i64.wrap (1 + s) = 1 + s := IntWalk.i64_in _ (by omega)
              have f6 := HX6.out.free 1
              have x61 := HX6.out.c1
              clear hs6 hg6 x0 hw1
              go_upto_region 18 with fail
              have HE7 := Lib.hid (HE6.out.set HGL.out HXX.out.1 1 (.int .i64 (1 + s)))
              have HO7 := Lib.hid (ownsRow_setCell_other HO6.out (a := ⟨X, 1, none⟩) HFO.out (.int .i64 (1 + s)))
              have HT7 := Lib.hid (ownsRow_setCell_other HT6.out (a := ⟨X, 1, none⟩) HFT.out (.int .i64 (1 + s)))
              have HX7 := Lib.hid (HX6.out.set1 (1 + s))
              obtain ⟨W6, hW6⟩ : ∃ W, w6.setCell ⟨X, 1, none⟩ (.int .i64 (1 + s)) = W := ⟨_, rfl⟩
              rw [hW6] at HE7 HO7 HT7 HX7 ⊢
              clear hW6 f6 hw2 x61
              -- the drawn region: Max
              have HS0 : Hid (W6.drew.cell? ⟨X, 2, none⟩ = some (.int .i64 c) ∧ W6.drew.frozen? ⟨X, 3, none⟩ = false ∧ SrcOk W6.drew g ∧ W6.grownBy W6.drew (some g)) := ⟨HX7.out.c2, HX7.out.free 3, HE7.out.1, grownBy_drewN (World.grownBy.refl W6 _) 1⟩
              go_cut [] (fun wx => ∃ d0 : Int, 0 ≤ d0 ∧ d0 ≤ 59 ∧ Bld g w wx ∧ wx.ownsRow w.heap.size 44 4 u7 m (recCells it) ∧ wx.ownsRow w.heap.size 42 2 vt n (recCells l) ∧ ExB wx X p (1 + s) c (c + d0))
              case first =>
                as_aux_lemma =>
                  refine wp_region_T (S := (fun w' => w'.cell? ⟨X, 2, none⟩ = some (.int .i64 c) ∧ w'.frozen? ⟨X, 3, none⟩ = false ∧ SrcOk w' g ∧ W6.grownBy w' (some g))) 6 (by kernel_rfl) (HS0.out) (fun hHeld => ?_)
                  refine wpAnyT_take (i := 0) (v := ?_) rfl (by decide +kernel) (by decide +kernel) (by decide +kernel) (by decide +kernel) (by decide +kernel) (fun _ _ _ h => h) (Or.inl ⟨by rfl, ?_⟩) (by assumption) ?_
                  rotate_left
                  · intro w hSw; (try dsimp only at hSw); first | (go_simp; done) | (go_simp; with_reducible rfl)
                  try simp only [Act.put, List.getElem_toArray, List.getElem_cons_succ, List.getElem_cons_zero, List.setIfInBounds_toArray, List.set_cons_zero, List.set_cons_succ]
                  refine wpAnyT_take (i := 1) (v := ?_) rfl (by decide +kernel) (by decide +kernel) (by decide +kernel) (by decide +kernel) (by decide +kernel) (fun _ _ _ h => h) (Or.inl ⟨by rfl, ?_⟩) (by assumption) ?_
                  rotate_left
                  · intro w hSw; (try dsimp only at hSw); first | (go_simp; done) | (go_simp; with_reducible rfl)
                  try simp only [Act.put, List.getElem_toArray, List.getElem_cons_succ, List.getElem_cons_zero, List.setIfInBounds_toArray, List.set_cons_zero, List.set_cons_succ]
                  refine wpAnyT_take (i := 2) (v := ?_) rfl (by decide +kernel) (by decide +kernel) (by decide +kernel) (by decide +kernel) (by decide +kernel) (fun _ _ _ h => h) (Or.inl ⟨by rfl, ?_⟩) (by assumption) ?_
                  rotate_left
                  · intro w hSw; (try dsimp only at hSw); first | (go_simp; done) | (go_simp; with_reducible rfl)
                  try simp only [Act.put, List.getElem_toArray, List.getElem_cons_succ, List.getElem_cons_zero, List.setIfInBounds_toArray, List.set_cons_zero, List.set_cons_succ]
                  refine wpAnyT_one (i := 3) (by kernel_rfl) rfl (fun K hK => ?_)
                  go_simp
                  (refine (srcN_any g _ _ hHeld.2.2.1 (by omega) (by omega)).mono ?_; rintro e w8 ⟨d0, d00, d01, rfl, hs8, hg8⟩; have HG8 := Lib.hid (grownBy_trans hHeld.2.2.2 hg8); have HS8 := Lib.hid hs8; clear hs8 hg8)
                  refine hK.out _ _ ?_ (fun hHeld2 => ?_)
                  · (try dsimp only); exact ⟨turn_cell HG8.out HX7.out.c2 HXX.out.2.1, (HX7.out.turn HG8.out HXX.out.2.1).free 3, HS8.out, HG8.out⟩
                  clear hK K hHeld
                  have hHeld := hHeld2
                  clear hHeld2
                  try simp only [Act.put, List.getElem_toArray, List.getElem_cons_succ, List.getElem_cons_zero, List.setIfInBounds_toArray, List.set_cons_zero, List.set_cons_succ]
                  have hw3 : IntKind.i64.wrap (c + d0) = c + d0 := IntWalk.i64_in _ (by omega)
                  have HX8 := Lib.hid (HX7.out.turn HG8.out HXX.out.2.1)
                  have f8 := HX8.out.free 3
                  have x83 := HX8.out.c3
                  refine wpAnyT_take (i := 4) (v := ?_) rfl (by decide +kernel) (by decide +kernel) (by decide +kernel) (by decide +kernel) (by decide +kernel) (fun _ _ _ h => h) (Or.inl ⟨by rfl, ?_⟩) (by assumption) ?_
                  rotate_left
                  · intro w hSw; (try dsimp only at hSw); first | (go_simp; done) | (go_simp; with_reducible rfl)
                  try simp only [Act.put, List.getElem_toArray, List.getElem_cons_succ, List.getElem_cons_zero, List.setIfInBounds_toArray, List.set_cons_zero, List.set_cons_succ]
                  refine wpAnyT_take (i := 5) (v := ?_) rfl (by decide +kernel) (by decide +kernel) (by decide +kernel) (by decide +kernel) (by decide +kernel) (fun _ _ _ h => h) (Or.inl ⟨by rfl, ?_⟩) (by assumption) ?_
                  rotate_left
                  · intro w hSw; (try dsimp only at hSw); first | (go_simp; done) | (go_simp; with_reducible rfl)
                  try simp only [Act.put, List.getElem_toArray, List.getElem_cons_succ, List.getElem_cons_zero, List.setIfInBounds_toArray, List.set_cons_zero, List.set_cons_succ]
                  refine wpAnyT_last (i := 6) (by kernel_rfl) (by kernel_rfl) rfl (by kernel_rfl) (fun K hK => ?_)
                  go_simp
                  refine hK.out _ _ ?_
                  clear hK K
                  try simp only [Act.put, List.getElem_toArray, List.getElem_cons_succ, List.getElem_cons_zero, List.setIfInBounds_toArray, List.set_cons_zero, List.set_cons_succ]
                  clear hHeld
                  go_wp2_with fail
                  go_meet
                  exact ⟨d0, d00, by omega, (HE7.out.turn HG8.out HS8.out).set HGL.out HXX.out.1 3 _, ownsRow_setCell_other (row_turn HO7.out HG8.out HGL.out) HFO.out _, ownsRow_setCell_other (row_turn HT7.out HG8.out HGL.out) HFT.out _, HX8.out.set3 _⟩
              case rest =>
                obtain ⟨d0, d00, d01, hE8, hO8, hT8, hX8⟩ := hcut
                obtain ⟨w8, rfl⟩ : ∃ x : World, x = wc := ⟨_, rfl⟩
                have HE8 := Lib.hid hE8
                have HO8 := Lib.hid hO8
                have HT8 := Lib.hid hT8
                have HX8 := Lib.hid hX8
                clear hE8 hO8 hT8 hX8 HE7 HO7 HT7 HX7 HS0 HE6 HO6 HT6 HX6 HE5 HO5 HT5 HX5 HE4 HO4 HT4 HE3 HO3 HT3
                go_wp2_with fail
                refine (srcN_any g _ _ HE8.out.1 (by omega) (by omega)).mono ?_
                rintro e w9 ⟨r, r0, r1, rfl, hs9, hg9⟩
                have HE9 := Lib.hid (HE8.out.turn hg9 hs9)
                have HO9 := Lib.hid (row_turn HO8.out hg9 HGL.out)
                have HT9 := Lib.hid (row_turn HT8.out hg9 HGL.out)
                have HX9 := Lib.hid (HX8.out.turn hg9 HXX.out.2.1)
                clear hs9 hg9 HE8 HO8 HT8 HX8
                by_cases hr : r = 0
                ·
                  as_aux_lemma =>
                    have dr : (r == 0) = true := by simpa using hr
                    clear hr
                    go_wp2_with fail
                    refine (srcN_any g _ _ HE9.out.1 (by omega) (by omega)).mono ?_
                    rintro e wa ⟨d, dd0, dd1, rfl, hsa, hga⟩
                    have HEa := Lib.hid (HE9.out.turn hga hsa)
                    have HOa := Lib.hid (row_turn HO9.out hga HGL.out)
                    have HTa := Lib.hid (row_turn HT9.out hga HGL.out)
                    have HXa := Lib.hid (HX9.out.turn hga HXX.out.2.1)
                    have fa := HXa.out.free 3
                    have xa3 := HXa.out.c3
                    clear hsa hga
                    go_upto_region 21 with fail
                    have HE7 := Lib.hid (HEa.out.set HGL.out HXX.out.1 3 (.int .i64 d))
                    have HO7 := Lib.hid (ownsRow_setCell_other HOa.out (a := ⟨X, 3, none⟩) HFO.out (.int .i64 d))
                    have HT7 := Lib.hid (ownsRow_setCell_other HTa.out (a := ⟨X, 3, none⟩) HFT.out (.int .i64 d))
                    have HX7 := Lib.hid (HXa.out.set3 d)
                    obtain ⟨W7, hW7⟩ : ∃ W, wa.setCell ⟨X, 3, none⟩ (.int .i64 d) = W := ⟨_, rfl⟩
                    rw [hW7] at HE7 HO7 HT7 HX7 ⊢
                    have y0 := HX7.out.c0
                    have y1 := HX7.out.c1
                    have y2 := HX7.out.c2
                    have y3 := HX7.out.c3
                    have hit : okI (it ++ [[p, 1 + s, c, d]]) n := okI_snoc HIB.out ⟨p0, by omega⟩ (by omega) (by omega) (by omega)
                    clear hW7 fa xa3
                    go_wp2_with (at_builtin; refine wpList_append_lies _ rfl _ _ 23 rfl w.heap.size 44 j0 _ 4 32 Try.underlying23 ji0 jz0 jz1 jz2 rfl (by omega) _ m (recCells it) rfl (HO7.out.alloc _) ⟨W7.heap.size, 0, none⟩ 1 1 [.int .i64 p, .int .i64 (1 + s), .int .i64 c, .int .i64 d] rfl rfl (World.news_of_block (cs := #[.int .i64 p, .int .i64 (1 + s), .int .i64 c, .int .i64 d]) (t := 44) (fr := (0, 0)) (heap_alloc_new W7 _)) (by simp [Value.oneCell']) (by omega) (by unfold maxLen; omega) (by omega) (by have := HE7.out.2.size; simp; omega) _ rfl ?_; intro gg cap' w8 hown8 hgrow8 hat8 hlt8; have HE8 : Hid (Bld g w w8) := (HE7.out.alloc HGL.out _).keep ((Below.refl _ _).grown hgrow8 (by have := HE7.out.2.size; simp; omega) (fun q hq => (HO7.out.lt q hq).1)) HGL.out; have HT8 : Hid (w8.ownsRow w.heap.size 42 2 vt n (recCells l)) := (HT7.out.alloc _).kept hgrow8 HSP.out.kept; have HSP8 : Hid (sep (.slice (some ⟨gg, 0, none⟩) (m + 1) cap') vt) := HSP.out.new (HT7.out.alloc _) hat8; have HO8 := Lib.hid hown8; clear hown8 hgrow8 hat8 hlt8)
                    go_roundw
                    case rel => exact ⟨k - 1, it ++ [[p, 1 + s, c, d]], by rw [List.length_append, HMI.out]; simp; omega, by congr 1; omega, wide_snoc HWI.out rfl, hit, HE8.out, HT8.out, by rw [List.length_append, HMI.out, recCells_append]; exact HO8.out, HSP8.out⟩
                    case measure => simp [intOf]; omega
                ·
                  as_aux_lemma =>
                    have dr : (r == 0) = false := by simpa using hr
                    obtain ⟨d, hd⟩ : ∃ d, c + d0 = d := ⟨_, rfl⟩
                    have HE7 := Lib.hid HE9.out
                    have HO7 := Lib.hid HO9.out
                    have HT7 := Lib.hid HT9.out
                    have HX7 := Lib.hid HX9.out
                    rw [hd] at HX7
                    obtain ⟨W7, hW7⟩ : ∃ W, w9 = W := ⟨_, rfl⟩
                    rw [hW7] at HE7 HO7 HT7 HX7 ⊢
                    have y0 := HX7.out.c0
                    have y1 := HX7.out.c1
                    have y2 := HX7.out.c2
                    have y3 := HX7.out.c3
                    have hit : okI (it ++ [[p, 1 + s, c, d]]) n := okI_snoc HIB.out ⟨p0, by omega⟩ (by omega) (by omega) (by omega)
                    clear hW7 hr hd
                    go_wp2_with (at_builtin; refine wpList_append_lies _ rfl _ _ 23 rfl w.heap.size 44 j0 _ 4 32 Try.underlying23 ji0 jz0 jz1 jz2 rfl (by omega) _ m (recCells it) rfl (HO7.out.alloc _) ⟨W7.heap.size, 0, none⟩ 1 1 [.int .i64 p, .int .i64 (1 + s), .int .i64 c, .int .i64 d] rfl rfl (World.news_of_block (cs := #[.int .i64 p, .int .i64 (1 + s), .int .i64 c, .int .i64 d]) (t := 44) (fr := (0, 0)) (heap_alloc_new W7 _)) (by simp [Value.oneCell']) (by omega) (by unfold maxLen; omega) (by omega) (by have := HE7.out.2.size; simp; omega) _ rfl ?_; intro gg cap' w8 hown8 hgrow8 hat8 hlt8; have HE8 : Hid (Bld g w w8) := (HE7.out.alloc HGL.out _).keep ((Below.refl _ _).grown hgrow8 (by have := HE7.out.2.size; simp; omega) (fun q hq => (HO7.out.lt q hq).1)) HGL.out; have HT8 : Hid (w8.ownsRow w.heap.size 42 2 vt n (recCells l)) := (HT7.out.alloc _).kept hgrow8 HSP.out.kept; have HSP8 : Hid (sep (.slice (some ⟨gg, 0, none⟩) (m + 1) cap') vt) := HSP.out.new (HT7.out.alloc _) hat8; have HO8 := Lib.hid hown8; clear hown8 hgrow8 hat8 hlt8)
                    go_roundw
                    case rel => exact ⟨k - 1, it ++ [[p, 1 + s, c, d]], by rw [List.length_append, HMI.out]; simp; omega, by congr 1; omega, wide_snoc HWI.out rfl, hit, HE8.out, HT8.out, by rw [List.length_append, HMI.out, recCells_append]; exact HO8.out, HSP8.out⟩
                    case measure => simp [intOf]; omega
          · obtain rfl : k = 0 := by omega
            have HBB : Hid (Built19 l it) := ⟨by rw [HM.out]; omega, by rw [HM.out]; omega, by rw [HMI.out]; omega, HWD.out, HWI.out, HTB.out.1, by rw [HM.out]; exact HIB.out.1, HTB.out.2, HIB.out.2⟩
            have hvv := HVT.out
            go_wp2_with fail
            go_ret2
            exact ⟨_, _, l, it, rfl, HBB.out, by rw [hvv, HM.out]; exact HT1.out, by rw [HMI.out]; exact HO1.out, HE1.out⟩
end Go.Proofs.Ytadkkkdecejkeaa

