/- Animation of a reader (package widgetrybase): any animation; only the reader's block turns (printed by wip/gen_src.py). -/
import Derived.Test.YtfcffmjmohkpoaaFill
import Derived.Test.YtfcffmjmohkpoaaSrcR
import Derived.Test.YtfcffmjmohkpoaaTail
import Derived.Test.YtfcffmjmohkpoaaHalt
import Derived.Deep.AppendLies
import Derived.Deep.QuietTactic
import Derived.BigQuiet
import Derived.Deep.CutBlock
import Derived.Deep.CutRange
namespace Go.Proofs.Ytfcffmjmohkpoaa
open Go.RowKit
set_option linter.unusedVariables false
set_option linter.unusedSimpArgs false

section
variable {P : Program} {ops : Array Oper} {Q : Exit → Act → World → Prop} {md : Region.Mode} {S : World → Prop} {n : Nat}
/-- Numbers i and j may come up. -/
theorem wpAnyT_two {i j : Nat} {oi oj : Oper} {fuel : Nat} {listed : Array Bool} {a : Act} {w : World} (hr : Region.ready md ops listed = [i, j]) (hoi : ops[i]? = some oi) (hoj : ops[j]? = some oj)
    (hi : ∀ K' : Act → World → Prop, Shut (∀ a w, S w → (S w → wpAnyT P md ops Q S n fuel (listed.setIfInBounds i true) a w) → K' a w) → if Region.wanted oi (yielded ops a.tmps) = true then Oper.wp P oi a w K' Q else K' (a.put oi.dst undef) w)
    (hj : ∀ K' : Act → World → Prop, Shut (∀ a w, S w → (S w → wpAnyT P md ops Q S n fuel (listed.setIfInBounds j true) a w) → K' a w) → if Region.wanted oj (yielded ops a.tmps) = true then Oper.wp P oj a w K' Q else K' (a.put oj.dst undef) w) :
    wpAnyT P md ops Q S n (fuel + 1) listed a w := by
  refine ⟨fun h0 => (by rw [hr] at h0; cases h0), fun q hq => ?_⟩
  rw [hr] at hq
  have hqq : q = i ∨ q = j := by simpa using hq
  rcases hqq with rfl | rfl
  · exact wpOp_step hoi (fun K' hK => hi K' (fun a w hS hW => hK a w ⟨fun _ => hS, hW hS⟩))
  · exact wpOp_step hoj (fun K' hK => hj K' (fun a w hS hW => hK a w ⟨fun _ => hS, hW hS⟩))
end
/-- A store of a whole animation, in a region that draws its order. -/
theorem step_store_anim0 {ops : Array Oper} {o : Oper} {a : Act} {w : World} {K : Act → World → Prop} {Q : Exit → Act → World → Prop} {E : Prop} (hgd : o.guard = none) (x y : Operand) (ho : o.op = .store 38 x y)
    (b : Nat) (vs : List Value) (hl : vs.length = 16) (hx : a.eval x = .pointer (some ⟨b, 0, none⟩)) (hy : a.eval y = .agg vs.toArray) (cs : List Value) (t : TypeId) (hc : AnimBlk w b t cs)
    (h1 : vs.toArray.all (·.oneCell') = true)
    (h : ∀ w', AnimBlk w' b t vs → w' = w.setCells b 0 vs → K (a.put o.dst undef) w') : if Region.wanted o (yielded ops a.tmps) = true then Oper.wp Try.prog o a w K Q else E := by
  have hw : Region.wanted o (yielded ops a.tmps) = true := by simp [Region.wanted, hgd]
  rw [if_pos hw]
  refine wp_store_mid 38 x y ho b 0 vs.toArray hx hy (by rw [List.size_toArray, hl]; exact hc.there) (by rw [List.size_toArray, hl]; exact anim_row.2) h1 (h _ ?_ rfl)
  have k := AnimBlk.fillL b t vs 0 w cs hc (by rw [hl, hc.1])
  simpa using k
def tabA : List Int := [0, 1, -1, 10, 100, -300, 1000, 1048576, -1048576]
def zeroA : List Int := [0, 0, 0, 0, 0, 0, 0, 0, 0, 0, 0, 0, 0, 0, 0, 0]
/-- The reader is whole, the cell of the result and the table are in place. -/
def AnB (g B : Nat) (w w' : World) : Prop :=
  SrcOk w' g ∧ w.grownBy w' (some g) ∧ AnimBlk w' B 38 (zeroA.map (Value.int .i64)) ∧ w'.heap[B + 1]? = some (.cells ((tabA.map (Value.int .i64)).toArray) 3 (0, 0)) ∧ B + 2 ≤ w'.heap.size ∧ g < B ∧ w.heap.size = B
/-- And block b holds some animation. -/
def AnZ (g B b : Nat) (w w' : World) : Prop := AnB g B w w' ∧ B + 2 ≤ b ∧ ∃ l : List Int, l.length = 16 ∧ AnimBlk w' b 38 (l.map (Value.int .i64))
section
variable {g B b : Nat} {w w1 w2 : World}
theorem AnB.turn (h : AnB g B w w1) (hg : w1.grownBy w2 (some g)) (hs : SrcOk w2 g) : AnB g B w w2 := by
  obtain ⟨h1, h2, h3, h4, h5, h6, h7⟩ := h
  have := hg.size
  exact ⟨hs, grownBy_trans h2 hg, ⟨h3.1, (hg.block _ h3.lt (fun e => by have := Option.some.inj e; omega)).trans h3.2⟩, (hg.block _ (lt_of_block h4) (fun e => by have := Option.some.inj e; omega)).trans h4, by omega, h6, h7⟩
theorem AnB.alloc (h : AnB g B w w1) (o : Obj) : AnB g B w (w1.alloc o) := by
  obtain ⟨h1, h2, h3, h4, h5, h6, h7⟩ := h
  have hb : Below w1.heap.size w1 (w1.alloc o) := (Below.refl _ _).alloc (Nat.le_refl _) _
  have hl := h1.lt
  exact ⟨h1.kept (hb.mono (by omega)), grownBy_trans h2 (grownBy_of_below hb (Nat.le_refl _) _), h3.alloc o, (hb.block _ (lt_of_block h4)).trans h4, by simp; omega, h6, h7⟩
theorem AnB.drew (h : AnB g B w w1) : AnB g B w w1.drew := ⟨h.1, grownBy_drewN h.2.1 1, h.2.2⟩
theorem AnB.low (h : AnB g B w w1) {C : Nat} (hb : Below C w1 w2) (hC : B + 2 ≤ C) : AnB g B w w2 := by
  obtain ⟨h1, h2, h3, h4, h5, h6, h7⟩ := h
  have := hb.size
  refine ⟨h1.kept (hb.mono (by omega)), ⟨hb.os.trans h2.os, hb.tape.trans h2.tape, hb.output.trans h2.output, Nat.le_trans h2.size hb.size, fun j hj hn => ?_⟩, ⟨h3.1, (hb.block _ (by omega)).trans h3.2⟩, (hb.block _ (by omega)).trans h4, by omega, h6, h7⟩
  exact (hb.block j (by omega)).trans (h2.block j hj hn)
theorem AnB.tab (h : AnB g B w w1) : ∀ i, i < 9 → w1.cell? ⟨B + 1, i, none⟩ = some (.int .i64 (gz tabA i)) := fun i hi => by
  rw [cell_of_row w1 _ i _ _ (0, 0) h.2.2.2.1]
  have : i < tabA.length := hi
  simp [gz, this]
theorem AnB.anew (h : AnB g B w w1) : AnB g B w (w1.alloc (.cells ((zeroA.map (Value.int .i64)).toArray) 38)) := h.alloc _
theorem AnZ.turn (h : AnZ g B b w w1) (hg : w1.grownBy w2 (some g)) (hs : SrcOk w2 g) : AnZ g B b w w2 := by
  obtain ⟨h1, h2, l, h3, h4⟩ := h
  have := h1.2.2.2.2.2.1
  exact ⟨h1.turn hg hs, h2, l, h3, h4.1, (hg.block _ h4.lt (fun e => by have := Option.some.inj e; omega)).trans h4.2⟩
theorem AnZ.alloc (h : AnZ g B b w w1) (o : Obj) : AnZ g B b w (w1.alloc o) := by
  obtain ⟨h1, h2, l, h3, h4⟩ := h
  exact ⟨h1.alloc o, h2, l, h3, h4.alloc o⟩
theorem AnZ.drew (h : AnZ g B b w w1) : AnZ g B b w w1.drew := by
  obtain ⟨h1, h2, l, h3, h4⟩ := h
  exact ⟨h1.drew, h2, l, h3, h4⟩
theorem AnZ.set (h : AnZ g B b w w1) (i : Nat) (x : Int) : AnZ g B b w (w1.setCell ⟨b, i, none⟩ (.int .i64 x)) := by
  obtain ⟨h1, h2, l, h3, h4⟩ := h
  refine ⟨h1.low (C := b) ((Below.refl b w1).setCell (p := ⟨b, i, none⟩) (Nat.le_refl _) _) h2, h2, l.set i x, by rw [List.length_set]; exact h3, ?_⟩
  have k := h4.set i (.int .i64 x)
  rwa [show (l.map (Value.int .i64)).set i (.int .i64 x) = (l.set i x).map (Value.int .i64) by rw [List.map_set]] at k
theorem AnZ.cellx (h : AnZ g B b w w1) (i : Nat) (hi : i < 16) : ∃ z : Int, w1.cell? ⟨b, i, none⟩ = some (.int .i64 z) := by
  obtain ⟨h1, h2, l, h3, h4⟩ := h
  refine ⟨gz l i, ?_⟩
  rw [h4.cell i]
  have : i < l.length := by omega
  simp [gz, this]
theorem AnZ.free (h : AnZ g B b w w1) (i : Nat) : w1.frozen? ⟨b, i, none⟩ = false := by
  obtain ⟨h1, h2, l, h3, h4⟩ := h
  exact h4.free i
theorem AnZ.lt (h : AnZ g B b w w1) : b < w1.heap.size := by
  obtain ⟨h1, h2, l, h3, h4⟩ := h
  exact h4.lt
theorem AnZ.made (h : AnB g B w w1) (o : Obj) : AnB g B w (w1.alloc o) := h.alloc o
end
theorem blk_turn {w1 w2 : World} {g B b : Nat} {cs : List Value} (h : AnimBlk w1 b 38 cs) (hg : w1.grownBy w2 (some g)) (h0 : g < B) (h1 : B + 2 ≤ b) : AnimBlk w2 b 38 cs :=
  ⟨h.1, (hg.block _ h.lt (fun e => by have := Option.some.inj e; omega)).trans h.2⟩
theorem anB_start {g : Nat} {w : World} (hs : SrcOk w g) : AnB g w.heap.size w ((w.alloc (.cells ((zeroA.map (Value.int .i64)).toArray) 38)).alloc (.cells ((tabA.map (Value.int .i64)).toArray) 3)) := by
  have hb : Below w.heap.size w ((w.alloc (.cells ((zeroA.map (Value.int .i64)).toArray) 38)).alloc (.cells ((tabA.map (Value.int .i64)).toArray) 3)) := ((Below.refl _ _).alloc (Nat.le_refl _) _).alloc (by simp) _
  have hl := hs.lt
  refine ⟨hs.kept (hb.mono (by omega)), grownBy_of_below hb (Nat.le_refl _) _, (animBlk_new w (zeroA.map (Value.int .i64)) _ rfl).alloc _, ?_, by simp, hl, rfl⟩
  have k := heap_alloc_new (w.alloc (.cells ((zeroA.map (Value.int .i64)).toArray) 38)) (.cells ((tabA.map (Value.int .i64)).toArray) 3)
  rwa [World.size_alloc] at k

/-- The reader has given a bool. -/
def SrcBool (g : Nat) (w : World) (e : Ending) (w' : World) : Prop := ∃ b : Bool, e = .returned (.bool b) ∧ SrcOk w' g ∧ w.grownBy w' (some g)
theorem srcChance_any (g : Nat) (n : Int) (w : World) (hs : SrcOk w g) (hn0 : 1 ≤ n) (hn1 : n ≤ 1099511627776) :
    Calls Try.prog 53 #[.pointer (some ⟨g, 0, none⟩), .int .i64 n] w (SrcBool g w) := by
  have HS := Lib.hid hs
  clear hs
  go_enter Try.func53, Try.ntmps53
  go_wp2_with fail
  refine (srcN_any g _ _ HS.out hn0 hn1).mono ?_
  rintro e w2 ⟨z, z0, z1, rfl, hs2, hg2⟩
  have HS2 := Lib.hid hs2
  have HG2 := Lib.hid hg2
  clear hs2 hg2
  go_wp2
  go_ret
  exact ⟨_, rfl, HS2.out, HG2.out⟩
/-- The reader has given a number as it is. -/
def SrcRaw (g : Nat) (w : World) (e : Ending) (w' : World) : Prop := ∃ z : Int, -9223372036854775808 ≤ z ∧ z ≤ 9223372036854775807 ∧ e = .returned (.int .i64 z) ∧ SrcOk w' g ∧ w.grownBy w' (some g)
theorem srcRaw_any (g : Nat) (w : World) (hs : SrcOk w g) :
    Calls Try.prog 54 #[.pointer (some ⟨g, 0, none⟩)] w (SrcRaw g w) := by
  have HS := Lib.hid hs
  obtain ⟨a, xs, l, cap, k, h1, h2, h3, h4, h5, h6, h7⟩ := hs
  have c0 : w.cell? ⟨g, 0, none⟩ = some (.slice a l cap) := by rw [cell_of_row w g 0 _ _ (0, 0) h1]; rfl
  have c1 : w.cell? ⟨g, 1, none⟩ = some (.int .i64 k) := by rw [cell_of_row w g 1 _ _ (0, 0) h1]; rfl
  have fr : w.frozen? ⟨g, 1, none⟩ = false := by simp [World.frozen?, h1]
  have hgl : g < w.heap.size := lt_of_block h1
  have H1 := Lib.hid h1
  have H7 := Lib.hid h7
  have H6 := Lib.hid h6
  unfold maxLen at h3
  clear h1 h7 h6
  by_cases hk : k < l
  · obtain ⟨b, off, rfl, hlt, hcell⟩ := H7.out (by omega)
    have hc := hcell k hk
    have hk' : (k : Int) < (l : Int) := by omega
    have hk0 : (0 : Int) ≤ (k : Int) := by omega
    have hx1 : IntKind.i64.wrap ((k : Int) + 1) = (k : Int) + 1 := IntWalk.i64_in _ (by omega)
    have hx2 : IntKind.i64.wrap ((k : Int) + 1 - 1) = (k : Int) := by rw [IntWalk.i64_in _ (by omega)]; omega
    obtain ⟨x, hx⟩ : ∃ x, gz xs k = x := ⟨_, rfl⟩
    have hxb := H6.out k
    rw [hx] at hc hxb
    have HN : Hid (∀ d d2, SrcOk (((w.drewN d2).setCell ⟨g, 1, none⟩ (.int .i64 ((k : Int) + 1))).drewN d) g) := fun d d2 => by
      refine ⟨some ⟨b, off, none⟩, xs, l, cap, k + 1, ?_, h2, by unfold maxLen; omega, by omega, h5, H6.out, fun _ => ⟨b, off, rfl, hlt, fun i hi => ?_⟩⟩
      · have := H1.out
        show ((w.drewN d2).setCell ⟨g, 1, none⟩ (.int .i64 ((k : Int) + 1))).heap[g]? = _
        have e2 : (w.drewN d2).heap[g]? = w.heap[g]? := rfl
        simp [World.setCell, e2, this, Array.getElem?_modify]
      · have hne : b ≠ g := by omega
        rw [World.cell?_drewN, World.cell?_setCell_other _ _ _ _ (by simp; try omega), World.cell?_drewN]
        exact hcell i hi
    have HG : Hid (∀ d d2, w.grownBy (((w.drewN d2).setCell ⟨g, 1, none⟩ (.int .i64 ((k : Int) + 1))).drewN d) (some g)) := fun d d2 => grownBy_drewN (grownBy_trans (grownBy_drewN (World.grownBy.refl w _) d2) (grownBy_set (w.drewN d2) g 1 _)) d
    have hbg : b ≠ g := by omega
    have hbg2 : ¬ g = b := by omega
    have hXB := Lib.hid hxb
    clear hcell hx hxb
    go_enter Try.func54, Try.ntmps54
    go_wp2_with fail
    go_quiet (fail)
    go_upto_region 4 with fail
    have s0 : ∀ d2, ((w.drewN d2).setCell ⟨g, 1, none⟩ (.int .i64 ((k : Int) + 1))).cell? ⟨g, 0, none⟩ = some (.slice (some ⟨b, off, none⟩) l cap) := fun d2 => by rw [World.cell?_setCell_other _ _ _ _ (by simp), World.cell?_drewN]; exact c0
    have s1 : ∀ d2, ((w.drewN d2).setCell ⟨g, 1, none⟩ (.int .i64 ((k : Int) + 1))).cell? ⟨g, 1, none⟩ = some (.int .i64 ((k : Int) + 1)) := fun d2 => World.cell?_setCell_same _ _ _ (u := .int .i64 (k : Int)) (by rw [World.cell?_drewN]; exact c1)
    have s2 : ∀ d2, ((w.drewN d2).setCell ⟨g, 1, none⟩ (.int .i64 ((k : Int) + 1))).cell? ⟨b, off + k, none⟩ = some (.int .i64 x) := fun d2 => by rw [World.cell?_setCell_other _ _ _ _ (by simp; try omega), World.cell?_drewN]; exact hc
    go_quiet (fail)
    go_wp2_with fail
    go_ret
    exact ⟨x, hXB.out.1, hXB.out.2, rfl, HN.out _ _, HG.out _ _⟩
  · have hk' : (l : Int) ≤ (k : Int) := by omega
    have HN : Hid (∀ d, SrcOk (w.drewN d) g) := fun d => HS.out
    have HG : Hid (∀ d, w.grownBy (w.drewN d) (some g)) := fun d => grownBy_drewN (World.grownBy.refl w _) d
    go_enter Try.func54, Try.ntmps54
    go_wp2_with fail
    go_quiet (fail)
    go_wp2_with fail
    go_ret
    exact ⟨0, by omega, by omega, rfl, HN.out _, HG.out _⟩

set_option maxHeartbeats 2000000 in
set_option maxRecDepth 100000 in
theorem lit6 {ops : Array Oper} {rest : List Oper} {Q : Exit → Act → World → Prop} {t : TypeId} {s : String} {e : Array Edge} {u0 u1 u2 u3 u4 u5 u6 u7 u8 u9 u10 u11 u12 u13 u14 u15 u16 u17 u18 u19 u20 u21 u22 u23 u24 u25 u26 u27 u28 u29 u30 u31 u32 u33 u34 u35 u36 u37 u38 u39 u40 u41 u42 u43 u44 u45 u46 u47 u48 u49 u50 u51 u52 u53 u54 u55 u56 u57 u58 u59 u60 u61 u62 u63 u64 u65 u66 u67 u68 u69 u70 u71 u72 u73 u74 u75 u76 u77 u78 u79 u80 u81 u82 u83 u84 u85 u86 u87 u88 u89 u90 u91 u92 u93 u94 u95 u96 u97 u98 u99 u100 u101 u102 : Value} {w : World}
   (hQ : wpList Try.prog ops Q rest ⟨#[u0, u1, u2, u3, u4, u5, u6, u7, u8, u9, u10, u11, u12, u13, u14, u15, u16, u17, u18, u19, u20, u21, u22, u23, u24, u25, u26, u27, u28, u29, .slice (some ⟨w.heap.size, 0, none⟩) 6 6, u31, u32, u33, u34, u35, u36, u37, u38, u39, u40, u41, u42, u43, u44, u45, u46, u47, u48, u49, u50, u51, u52, u53, u54, u55, u56, u57, u58, u59, u60, u61, u62, u63, u64, u65, u66, u67, u68, u69, u70, u71, u72, u73, u74, u75, u76, u77, u78, u79, u80, u81, u82, u83, u84, u85, u86, u87, u88, u89, u90, u91, u92, u93, u94, u95, u96, u97, u98, u99, u100, u101, u102], []⟩ (w.alloc (.cells #[.int .i64 1, .int .i64 2, .int .i64 10, .int .i64 100, .int .i64 400, .int .i64 1000] 3))) :
   wpList Try.prog ops Q (⟨some 30, .buildSlice 24 6 #[(0, .const (.int .i64 1)), (1, .const (.int .i64 2)), (2, .const (.int .i64 10)), (3, .const (.int .i64 100)), (4, .const (.int .i64 400)), (5, .const (.int .i64 1000))], t, s, e, none⟩ :: rest) ⟨#[u0, u1, u2, u3, u4, u5, u6, u7, u8, u9, u10, u11, u12, u13, u14, u15, u16, u17, u18, u19, u20, u21, u22, u23, u24, u25, u26, u27, u28, u29, u30, u31, u32, u33, u34, u35, u36, u37, u38, u39, u40, u41, u42, u43, u44, u45, u46, u47, u48, u49, u50, u51, u52, u53, u54, u55, u56, u57, u58, u59, u60, u61, u62, u63, u64, u65, u66, u67, u68, u69, u70, u71, u72, u73, u74, u75, u76, u77, u78, u79, u80, u81, u82, u83, u84, u85, u86, u87, u88, u89, u90, u91, u92, u93, u94, u95, u96, u97, u98, u99, u100, u101, u102], []⟩ w := by
  obtain ⟨G, hG⟩ : ∃ G, wpList Try.prog ops Q rest ⟨#[u0, u1, u2, u3, u4, u5, u6, u7, u8, u9, u10, u11, u12, u13, u14, u15, u16, u17, u18, u19, u20, u21, u22, u23, u24, u25, u26, u27, u28, u29, .slice (some ⟨w.heap.size, 0, none⟩) 6 6, u31, u32, u33, u34, u35, u36, u37, u38, u39, u40, u41, u42, u43, u44, u45, u46, u47, u48, u49, u50, u51, u52, u53, u54, u55, u56, u57, u58, u59, u60, u61, u62, u63, u64, u65, u66, u67, u68, u69, u70, u71, u72, u73, u74, u75, u76, u77, u78, u79, u80, u81, u82, u83, u84, u85, u86, u87, u88, u89, u90, u91, u92, u93, u94, u95, u96, u97, u98, u99, u100, u101, u102], []⟩ (w.alloc (.cells #[.int .i64 1, .int .i64 2, .int .i64 10, .int .i64 100, .int .i64 400, .int .i64 1000] 3)) = G := ⟨_, rfl⟩
  rw [hG] at hQ
  refine wpList_step (fun K hK => ?_)
  have HK := Lib.hid hK
  clear hK
  go_wp2
  refine HK.out _ _ ?_
  rw [hG]
  exact hQ
set_option maxHeartbeats 4000000 in
set_option maxRecDepth 100000 in
/-- The literal struct. -/
theorem build_anim {ρ : Operand → Value} {t : TypeId} {s : String} {e : Array Edge} {y1 y3 y5 x4 x5 y21 : Int} (h1 : ρ (.tmp 8) = .int .i64 y1) (h2 : ρ (.tmp 10) = .int .i64 y3) (h3 : ρ (.tmp 12) = .int .i64 y5) (h4 : ρ (.tmp 19) = .int .i64 x4) (h5 : ρ (.tmp 26) = .int .i64 x5) (h6 : ρ (.tmp 28) = .int .i64 y21) (w : World) :
    (execOp ρ (⟨some 29, .build 38 #[(0, .tmp 8), (1, .tmp 10), (2, .tmp 12), (3, .tmp 19), (4, .tmp 26), (5, .tmp 28)], t, s, e, none⟩ : Oper)).run Try.prog w = .ok (.value (.agg #[.int .i64 y1, .int .i64 y3, .int .i64 y5, .int .i64 x4, .int .i64 x5, .int .i64 y21, .int .i64 0, .int .i64 0, .int .i64 0, .int .i64 0, .int .i64 0, .int .i64 0, .int .i64 0, .int .i64 0, .int .i64 0, .int .i64 0])) w := by
  go_simp
  all_goals (try simp [h1, h2, h3, h4, h5, h6])
/-- The reader has given an animation. -/
def SrcAnim (g : Nat) (w : World) (e : Ending) (w' : World) : Prop := ∃ e0 e1 e2 e3 e4 e5 e6 e7 e8 e9 e10 e11 e12 e13 e14 e15 : Int, e = .returned (.agg #[.int .i64 e0, .int .i64 e1, .int .i64 e2, .int .i64 e3, .int .i64 e4, .int .i64 e5, .int .i64 e6, .int .i64 e7, .int .i64 e8, .int .i64 e9, .int .i64 e10, .int .i64 e11, .int .i64 e12, .int .i64 e13, .int .i64 e14, .int .i64 e15]) ∧ SrcOk w' g ∧ w.grownBy w' (some g)
theorem SrcAnim.of {g : Nat} {w w' : World} {l : List Int} (h : l.length = 16) (hs : SrcOk w' g) (hg : w.grownBy w' (some g)) : SrcAnim g w (.returned (.agg (l.map (Value.int .i64)).toArray)) w' := by
  match l, h with
  | [e0, e1, e2, e3, e4, e5, e6, e7, e8, e9, e10, e11, e12, e13, e14, e15], _ => exact ⟨e0, e1, e2, e3, e4, e5, e6, e7, e8, e9, e10, e11, e12, e13, e14, e15, rfl, hs, hg⟩

set_option maxHeartbeats 16000000 in
set_option maxRecDepth 100000 in
theorem src_anim (g : Nat) (w : World) (hs : SrcOk w g) : Calls Try.prog 21 #[.pointer (some ⟨g, 0, none⟩)] w (SrcAnim g w) := by
  have hgl := hs.lt
  have HGL := Lib.hid hgl
  have HE0 := Lib.hid (anB_start hs)
  clear hs hgl
  go_enter Try.func21, Try.ntmps21
  go_upto_region 2 with fail
  obtain ⟨wr, hwr⟩ : ∃ wr, ((w.alloc (.cells #[.int .i64 0, .int .i64 0, .int .i64 0, .int .i64 0, .int .i64 0, .int .i64 0, .int .i64 0, .int .i64 0, .int .i64 0, .int .i64 0, .int .i64 0, .int .i64 0, .int .i64 0, .int .i64 0, .int .i64 0, .int .i64 0] 38)).alloc (.cells #[.int .i64 0, .int .i64 1, .int .i64 (-1), .int .i64 10, .int .i64 100, .int .i64 (-300), .int .i64 1000, .int .i64 1048576, .int .i64 (-1048576)] 3)) = wr := ⟨_, rfl⟩
  have HE1 : Hid (AnB g w.heap.size w wr) := by rw [← hwr]; exact HE0.out
  rw [hwr]
  clear hwr HE0
  go_cut [4] (fun p wx => ∃ b, p = .pointer (some ⟨b, 0, none⟩) ∧ AnZ g w.heap.size b w wx)
  case first =>
    as_aux_lemma =>
      rename_i J K' hJ hK'
      have HJ := Lib.hid hJ
      have HK' := Lib.hid hK'
      clear hJ hK'
      refine wp_region_T (S := (fun w' => (∀ i, i < 9 → w'.cell? ⟨w.heap.size + 1, i, none⟩ = some (.int .i64 (gz tabA i))) ∧ AnB g w.heap.size w w')) 24 (by kernel_rfl) (⟨HE1.out.drew.tab, HE1.out.drew⟩) (fun hHeld => ?_)
      obtain ⟨w0, hw0⟩ : ∃ w0, wr.drew = w0 := ⟨_, rfl⟩
      rw [hw0] at hHeld ⊢
      clear hw0 HE1
      refine wpAnyT_take (i := 0) (v := ?_) rfl (by decide +kernel) (by decide +kernel) (by decide +kernel) (by decide +kernel) (by decide +kernel) (fun _ _ _ h => h) (Or.inl ⟨by rfl, ?_⟩) (by assumption) ?_
      rotate_left
      · intro w hSw; (try dsimp only at hSw); first | (go_simp; done) | (go_simp; with_reducible rfl)
      try simp only [Act.put, List.getElem_toArray, List.getElem_cons_succ, List.getElem_cons_zero, List.setIfInBounds_toArray, List.set_cons_zero, List.set_cons_succ]
      refine wpAnyT_take (i := 2) (v := ?_) rfl (by decide +kernel) (by decide +kernel) (by decide +kernel) (by decide +kernel) (by decide +kernel) (fun _ _ _ h => h) (Or.inl ⟨by rfl, ?_⟩) (by assumption) ?_
      rotate_left
      · intro w hSw; (try dsimp only at hSw); first | (go_simp; done) | (go_simp; with_reducible rfl)
      try simp only [Act.put, List.getElem_toArray, List.getElem_cons_succ, List.getElem_cons_zero, List.setIfInBounds_toArray, List.set_cons_zero, List.set_cons_succ]
      refine wpAnyT_take (i := 4) (v := ?_) rfl (by decide +kernel) (by decide +kernel) (by decide +kernel) (by decide +kernel) (by decide +kernel) (fun _ _ _ h => h) (Or.inl ⟨by rfl, ?_⟩) (by assumption) ?_
      rotate_left
      · intro w hSw; (try dsimp only at hSw); first | (go_simp; done) | (go_simp; with_reducible rfl)
      try simp only [Act.put, List.getElem_toArray, List.getElem_cons_succ, List.getElem_cons_zero, List.setIfInBounds_toArray, List.set_cons_zero, List.set_cons_succ]
      refine wpAnyT_take (i := 6) (v := ?_) rfl (by decide +kernel) (by decide +kernel) (by decide +kernel) (by decide +kernel) (by decide +kernel) (fun _ _ _ h => h) (Or.inl ⟨by rfl, ?_⟩) (by assumption) ?_
      rotate_left
      · intro w hSw; (try dsimp only at hSw); first | (go_simp; done) | (go_simp; with_reducible rfl)
      try simp only [Act.put, List.getElem_toArray, List.getElem_cons_succ, List.getElem_cons_zero, List.setIfInBounds_toArray, List.set_cons_zero, List.set_cons_succ]
      refine wpAnyT_take (i := 7) (v := ?_) rfl (by decide +kernel) (by decide +kernel) (by decide +kernel) (by decide +kernel) (by decide +kernel) (fun _ _ _ h => h) (Or.inl ⟨by rfl, ?_⟩) (by assumption) ?_
      rotate_left
      · intro w hSw; (try dsimp only at hSw); first | (go_simp; done) | (go_simp; with_reducible rfl)
      try simp only [Act.put, List.getElem_toArray, List.getElem_cons_succ, List.getElem_cons_zero, List.setIfInBounds_toArray, List.set_cons_zero, List.set_cons_succ]
      refine wpAnyT_take (i := 8) (v := ?_) rfl (by decide +kernel) (by decide +kernel) (by decide +kernel) (by decide +kernel) (by decide +kernel) (fun _ _ _ h => h) (Or.inl ⟨by rfl, ?_⟩) (by assumption) ?_
      rotate_left
      · intro w hSw; (try dsimp only at hSw); first | (go_simp; done) | (go_simp; with_reducible rfl)
      try simp only [Act.put, List.getElem_toArray, List.getElem_cons_succ, List.getElem_cons_zero, List.setIfInBounds_toArray, List.set_cons_zero, List.set_cons_succ]
      refine wpAnyT_take (i := 9) (v := ?_) rfl (by decide +kernel) (by decide +kernel) (by decide +kernel) (by decide +kernel) (by decide +kernel) (fun _ _ _ h => h) (Or.inl ⟨by rfl, ?_⟩) (by assumption) ?_
      rotate_left
      · intro w hSw; (try dsimp only at hSw); first | (go_simp; done) | (go_simp; with_reducible rfl)
      try simp only [Act.put, List.getElem_toArray, List.getElem_cons_succ, List.getElem_cons_zero, List.setIfInBounds_toArray, List.set_cons_zero, List.set_cons_succ]
      refine wpAnyT_take (i := 13) (v := ?_) rfl (by decide +kernel) (by decide +kernel) (by decide +kernel) (by decide +kernel) (by decide +kernel) (fun _ _ _ h => h) (Or.inl ⟨by rfl, ?_⟩) (by assumption) ?_
      rotate_left
      · intro w hSw; (try dsimp only at hSw); first | (go_simp; done) | (go_simp; with_reducible rfl)
      try simp only [Act.put, List.getElem_toArray, List.getElem_cons_succ, List.getElem_cons_zero, List.setIfInBounds_toArray, List.set_cons_zero, List.set_cons_succ]
      refine wpAnyT_take (i := 14) (v := ?_) rfl (by decide +kernel) (by decide +kernel) (by decide +kernel) (by decide +kernel) (by decide +kernel) (fun _ _ _ h => h) (Or.inl ⟨by rfl, ?_⟩) (by assumption) ?_
      rotate_left
      · intro w hSw; (try dsimp only at hSw); first | (go_simp; done) | (go_simp; with_reducible rfl)
      try simp only [Act.put, List.getElem_toArray, List.getElem_cons_succ, List.getElem_cons_zero, List.setIfInBounds_toArray, List.set_cons_zero, List.set_cons_succ]
      refine wpAnyT_take (i := 15) (v := ?_) rfl (by decide +kernel) (by decide +kernel) (by decide +kernel) (by decide +kernel) (by decide +kernel) (fun _ _ _ h => h) (Or.inl ⟨by rfl, ?_⟩) (by assumption) ?_
      rotate_left
      · intro w hSw; (try dsimp only at hSw); first | (go_simp; done) | (go_simp; with_reducible rfl)
      try simp only [Act.put, List.getElem_toArray, List.getElem_cons_succ, List.getElem_cons_zero, List.setIfInBounds_toArray, List.set_cons_zero, List.set_cons_succ]
      refine wpAnyT_take (i := 16) (v := ?_) rfl (by decide +kernel) (by decide +kernel) (by decide +kernel) (by decide +kernel) (by decide +kernel) (fun _ _ _ h => h) (Or.inl ⟨by rfl, ?_⟩) (by assumption) ?_
      rotate_left
      · intro w hSw; (try dsimp only at hSw); first | (go_simp; done) | (go_simp; with_reducible rfl)
      try simp only [Act.put, List.getElem_toArray, List.getElem_cons_succ, List.getElem_cons_zero, List.setIfInBounds_toArray, List.set_cons_zero, List.set_cons_succ]
      refine wpAnyT_take (i := 20) (v := ?_) rfl (by decide +kernel) (by decide +kernel) (by decide +kernel) (by decide +kernel) (by decide +kernel) (fun _ _ _ h => h) (Or.inl ⟨by rfl, ?_⟩) (by assumption) ?_
      rotate_left
      · intro w hSw; (try dsimp only at hSw); first | (go_simp; done) | (go_simp; with_reducible rfl)
      try simp only [Act.put, List.getElem_toArray, List.getElem_cons_succ, List.getElem_cons_zero, List.setIfInBounds_toArray, List.set_cons_zero, List.set_cons_succ]
      have HW := Lib.hid hHeld.2
      refine wpAnyT_two (i := 1) (j := 23) (by kernel_rfl) rfl rfl (fun K hK => ?_) (fun K hK => ?_)
      ·
        go_simp
        (refine (srcRange_any g _ _ _ hHeld.2.1 (by omega) (by omega) (by omega)).mono ?_; rintro e w1 ⟨y1, y1a, y1b, rfl, hs1, hg1⟩)
        refine hK.out _ _ ?_ (fun hHeld2 => ?_)
        · (try dsimp only); exact ⟨(AnB.turn hHeld.2 hg1 hs1).tab, AnB.turn hHeld.2 hg1 hs1⟩
        clear hK K hHeld
        have hHeld := hHeld2
        clear hHeld2
        try simp only [Act.put, List.getElem_toArray, List.getElem_cons_succ, List.getElem_cons_zero, List.setIfInBounds_toArray, List.set_cons_zero, List.set_cons_succ]
        clear HW
        clear hs1 hg1
        have HW := Lib.hid hHeld.2
        refine wpAnyT_two (i := 3) (j := 23) (by kernel_rfl) rfl rfl (fun K hK => ?_) (fun K hK => ?_)
        ·
          go_simp
          (refine (srcN_any g _ _ hHeld.2.1 (by omega) (by omega)).mono ?_; rintro e w3 ⟨y3, y3a, y3b, rfl, hs3, hg3⟩)
          refine hK.out _ _ ?_ (fun hHeld2 => ?_)
          · (try dsimp only); exact ⟨(AnB.turn hHeld.2 hg3 hs3).tab, AnB.turn hHeld.2 hg3 hs3⟩
          clear hK K hHeld
          have hHeld := hHeld2
          clear hHeld2
          try simp only [Act.put, List.getElem_toArray, List.getElem_cons_succ, List.getElem_cons_zero, List.setIfInBounds_toArray, List.set_cons_zero, List.set_cons_succ]
          clear HW
          clear hs3 hg3
          have HW := Lib.hid hHeld.2
          refine wpAnyT_two (i := 5) (j := 23) (by kernel_rfl) rfl rfl (fun K hK => ?_) (fun K hK => ?_)
          ·
            go_simp
            (refine (srcRange_any g _ _ _ hHeld.2.1 (by omega) (by omega) (by omega)).mono ?_; rintro e w5 ⟨y5, y5a, y5b, rfl, hs5, hg5⟩)
            refine hK.out _ _ ?_ (fun hHeld2 => ?_)
            · (try dsimp only); exact ⟨(AnB.turn hHeld.2 hg5 hs5).tab, AnB.turn hHeld.2 hg5 hs5⟩
            clear hK K hHeld
            have hHeld := hHeld2
            clear hHeld2
            try simp only [Act.put, List.getElem_toArray, List.getElem_cons_succ, List.getElem_cons_zero, List.setIfInBounds_toArray, List.set_cons_zero, List.set_cons_succ]
            clear HW
            clear hs5 hg5
            have HW := Lib.hid hHeld.2
            refine wpAnyT_two (i := 10) (j := 23) (by kernel_rfl) rfl rfl (fun K hK => ?_) (fun K hK => ?_)
            ·
              go_simp
              (refine (srcN_any g _ _ hHeld.2.1 (by omega) (by omega)).mono ?_; rintro e w10 ⟨y10, y10a, y10b, rfl, hs10, hg10⟩; obtain ⟨i1, rfl⟩ := Int.eq_ofNat_of_zero_le y10a; have jji1 : ((i1 : Nat) : Int) < 9 := Int.lt_of_le_of_lt y10b (by decide); have ji1 : i1 < 9 := Int.ofNat_lt.1 jji1)
              refine hK.out _ _ ?_ (fun hHeld2 => ?_)
              · (try dsimp only); exact ⟨(AnB.turn hHeld.2 hg10 hs10).tab, AnB.turn hHeld.2 hg10 hs10⟩
              clear hK K hHeld
              have hHeld := hHeld2
              clear hHeld2
              try simp only [Act.put, List.getElem_toArray, List.getElem_cons_succ, List.getElem_cons_zero, List.setIfInBounds_toArray, List.set_cons_zero, List.set_cons_succ]
              clear HW
              clear hs10 hg10
              refine wpAnyT_take (i := 11) (v := ?_) rfl (by decide +kernel) (by decide +kernel) (by decide +kernel) (by decide +kernel) (by decide +kernel) (fun _ _ _ h => h) (Or.inl ⟨by rfl, ?_⟩) (by assumption) ?_
              rotate_left
              · intro w hSw; (try dsimp only at hSw); first | (go_simp; done) | (go_simp; with_reducible rfl)
              try simp only [Act.put, List.getElem_toArray, List.getElem_cons_succ, List.getElem_cons_zero, List.setIfInBounds_toArray, List.set_cons_zero, List.set_cons_succ]
              refine wpAnyT_take (i := 12) (v := ?_) rfl (by decide +kernel) (by decide +kernel) (by decide +kernel) (by decide +kernel) (by decide +kernel) (fun _ _ _ h => h) (Or.inl ⟨by rfl, ?_⟩) (by assumption) ?_
              rotate_left
              · intro w hSw; (try dsimp only at hSw); first | (go_simp; done) | (go_simp; with_reducible rfl)
              try simp only [Act.put, List.getElem_toArray, List.getElem_cons_succ, List.getElem_cons_zero, List.setIfInBounds_toArray, List.set_cons_zero, List.set_cons_succ]
              have HW := Lib.hid hHeld.2
              refine wpAnyT_two (i := 17) (j := 23) (by kernel_rfl) rfl rfl (fun K hK => ?_) (fun K hK => ?_)
              ·
                go_simp
                (refine (srcN_any g _ _ hHeld.2.1 (by omega) (by omega)).mono ?_; rintro e w17 ⟨y17, y17a, y17b, rfl, hs17, hg17⟩; obtain ⟨i2, rfl⟩ := Int.eq_ofNat_of_zero_le y17a; have jji2 : ((i2 : Nat) : Int) < 9 := Int.lt_of_le_of_lt y17b (by decide); have ji2 : i2 < 9 := Int.ofNat_lt.1 jji2)
                refine hK.out _ _ ?_ (fun hHeld2 => ?_)
                · (try dsimp only); exact ⟨(AnB.turn hHeld.2 hg17 hs17).tab, AnB.turn hHeld.2 hg17 hs17⟩
                clear hK K hHeld
                have hHeld := hHeld2
                clear hHeld2
                try simp only [Act.put, List.getElem_toArray, List.getElem_cons_succ, List.getElem_cons_zero, List.setIfInBounds_toArray, List.set_cons_zero, List.set_cons_succ]
                clear HW
                clear hs17 hg17
                refine wpAnyT_take (i := 18) (v := ?_) rfl (by decide +kernel) (by decide +kernel) (by decide +kernel) (by decide +kernel) (by decide +kernel) (fun _ _ _ h => h) (Or.inl ⟨by rfl, ?_⟩) (by assumption) ?_
                rotate_left
                · intro w hSw; (try dsimp only at hSw); first | (go_simp; done) | (go_simp; with_reducible rfl)
                try simp only [Act.put, List.getElem_toArray, List.getElem_cons_succ, List.getElem_cons_zero, List.setIfInBounds_toArray, List.set_cons_zero, List.set_cons_succ]
                refine wpAnyT_take (i := 19) (v := ?_) rfl (by decide +kernel) (by decide +kernel) (by decide +kernel) (by decide +kernel) (by decide +kernel) (fun _ _ _ h => h) (Or.inl ⟨by rfl, ?_⟩) (by assumption) ?_
                rotate_left
                · intro w hSw; (try dsimp only at hSw); first | (go_simp; done) | (go_simp; with_reducible rfl)
                try simp only [Act.put, List.getElem_toArray, List.getElem_cons_succ, List.getElem_cons_zero, List.setIfInBounds_toArray, List.set_cons_zero, List.set_cons_succ]
                have HW := Lib.hid hHeld.2
                refine wpAnyT_two (i := 21) (j := 23) (by kernel_rfl) rfl rfl (fun K hK => ?_) (fun K hK => ?_)
                ·
                  go_simp
                  (refine (srcN_any g _ _ hHeld.2.1 (by omega) (by omega)).mono ?_; rintro e w21 ⟨y21, y21a, y21b, rfl, hs21, hg21⟩)
                  refine hK.out _ _ ?_ (fun hHeld2 => ?_)
                  · (try dsimp only); exact ⟨(AnB.turn hHeld.2 hg21 hs21).tab, AnB.turn hHeld.2 hg21 hs21⟩
                  clear hK K hHeld
                  have hHeld := hHeld2
                  clear hHeld2
                  try simp only [Act.put, List.getElem_toArray, List.getElem_cons_succ, List.getElem_cons_zero, List.setIfInBounds_toArray, List.set_cons_zero, List.set_cons_succ]
                  clear HW
                  clear hs21 hg21
                  refine wpAnyT_take (i := 22) (v := .agg #[.int .i64 y1, .int .i64 y3, .int .i64 y5, .int .i64 (gz tabA i1), .int .i64 (gz tabA i2), .int .i64 y21, .int .i64 0, .int .i64 0, .int .i64 0, .int .i64 0, .int .i64 0, .int .i64 0, .int .i64 0, .int .i64 0, .int .i64 0, .int .i64 0]) rfl (by decide +kernel) (by decide +kernel) (by decide +kernel) (by decide +kernel) (by decide +kernel) (fun _ _ _ h => h) (Or.inl ⟨by rfl, fun w _ => build_anim rfl rfl rfl rfl rfl rfl w⟩) (by assumption) ?_
                  try simp only [Act.put, List.getElem_toArray, List.getElem_cons_succ, List.getElem_cons_zero, List.setIfInBounds_toArray, List.set_cons_zero, List.set_cons_succ]
                  have HW := Lib.hid hHeld.2
                  refine wpAnyT_one (i := 23) (by kernel_rfl) rfl (fun K hK => ?_)
                  go_simp
                  refine hK.out _ _ ?_ (fun hHeld2 => ?_)
                  · (try dsimp only); exact ⟨(AnB.alloc HW.out _).tab, AnB.alloc HW.out _⟩
                  clear hK K hHeld
                  have hHeld := hHeld2
                  clear hHeld2
                  try simp only [Act.put, List.getElem_toArray, List.getElem_cons_succ, List.getElem_cons_zero, List.setIfInBounds_toArray, List.set_cons_zero, List.set_cons_succ]
                  have HA : Hid (AnB g w.heap.size w (w21.alloc (.cells #[.int .i64 0, .int .i64 0, .int .i64 0, .int .i64 0, .int .i64 0, .int .i64 0, .int .i64 0, .int .i64 0, .int .i64 0, .int .i64 0, .int .i64 0, .int .i64 0, .int .i64 0, .int .i64 0, .int .i64 0, .int .i64 0] 38)) ∧ w.heap.size + 2 ≤ w21.heap.size ∧ AnimBlk (w21.alloc (.cells #[.int .i64 0, .int .i64 0, .int .i64 0, .int .i64 0, .int .i64 0, .int .i64 0, .int .i64 0, .int .i64 0, .int .i64 0, .int .i64 0, .int .i64 0, .int .i64 0, .int .i64 0, .int .i64 0, .int .i64 0, .int .i64 0] 38)) w21.heap.size 38 [.int .i64 0, .int .i64 0, .int .i64 0, .int .i64 0, .int .i64 0, .int .i64 0, .int .i64 0, .int .i64 0, .int .i64 0, .int .i64 0, .int .i64 0, .int .i64 0, .int .i64 0, .int .i64 0, .int .i64 0, .int .i64 0]) := ⟨hHeld.2, HW.out.2.2.2.2.1, animBlk_new w21 [.int .i64 0, .int .i64 0, .int .i64 0, .int .i64 0, .int .i64 0, .int .i64 0, .int .i64 0, .int .i64 0, .int .i64 0, .int .i64 0, .int .i64 0, .int .i64 0, .int .i64 0, .int .i64 0, .int .i64 0, .int .i64 0] _ rfl⟩
                  refine wpAnyT_last (i := 24) (by kernel_rfl) (by kernel_rfl) rfl (by kernel_rfl) (fun K hK => ?_)
                  refine step_store_anim0 (by rfl) _ _ (by rfl) _ ([.int .i64 y1, .int .i64 y3, .int .i64 y5, .int .i64 (gz tabA i1), .int .i64 (gz tabA i2), .int .i64 y21, .int .i64 0, .int .i64 0, .int .i64 0, .int .i64 0, .int .i64 0, .int .i64 0, .int .i64 0, .int .i64 0, .int .i64 0, .int .i64 0] : List Value) (by rfl) (by rfl) (by rfl) _ _ HA.out.2.2 (by simp [Value.oneCell']) ?_
                  intro wz hAz hwz
                  refine hK.out _ _ ?_
                  clear hK K hHeld
                  try simp only [Act.put, List.getElem_toArray, List.getElem_cons_succ, List.getElem_cons_zero, List.setIfInBounds_toArray, List.set_cons_zero, List.set_cons_succ]
                  refine HK'.out _ _ (Met.intro (HJ.out _ _ ?_))
                  (repeat apply Exists.intro)
                  refine ⟨?_, rfl⟩
                  exact ⟨_, rfl, by subst hwz; exact AnB.low HA.out.1 (below_fillL HA.out.2.1 _ _ _ (Below.refl _ _)) (Nat.le_refl _), HA.out.2.1, [y1, y3, y5, gz tabA i1, gz tabA i2, y21, 0, 0, 0, 0, 0, 0, 0, 0, 0, 0], rfl, hAz⟩
                ·
                  go_simp
                  refine hK.out _ _ ?_ (fun hHeld2 => ?_)
                  · (try dsimp only); exact ⟨(AnB.alloc HW.out _).tab, AnB.alloc HW.out _⟩
                  clear hK K hHeld
                  have hHeld := hHeld2
                  clear hHeld2
                  try simp only [Act.put, List.getElem_toArray, List.getElem_cons_succ, List.getElem_cons_zero, List.setIfInBounds_toArray, List.set_cons_zero, List.set_cons_succ]
                  as_aux_lemma =>
                    have HA : Hid (AnB g w.heap.size w (w17.alloc (.cells #[.int .i64 0, .int .i64 0, .int .i64 0, .int .i64 0, .int .i64 0, .int .i64 0, .int .i64 0, .int .i64 0, .int .i64 0, .int .i64 0, .int .i64 0, .int .i64 0, .int .i64 0, .int .i64 0, .int .i64 0, .int .i64 0] 38)) ∧ w.heap.size + 2 ≤ w17.heap.size ∧ AnimBlk (w17.alloc (.cells #[.int .i64 0, .int .i64 0, .int .i64 0, .int .i64 0, .int .i64 0, .int .i64 0, .int .i64 0, .int .i64 0, .int .i64 0, .int .i64 0, .int .i64 0, .int .i64 0, .int .i64 0, .int .i64 0, .int .i64 0, .int .i64 0] 38)) w17.heap.size 38 [.int .i64 0, .int .i64 0, .int .i64 0, .int .i64 0, .int .i64 0, .int .i64 0, .int .i64 0, .int .i64 0, .int .i64 0, .int .i64 0, .int .i64 0, .int .i64 0, .int .i64 0, .int .i64 0, .int .i64 0, .int .i64 0]) := ⟨hHeld.2, HW.out.2.2.2.2.1, animBlk_new w17 [.int .i64 0, .int .i64 0, .int .i64 0, .int .i64 0, .int .i64 0, .int .i64 0, .int .i64 0, .int .i64 0, .int .i64 0, .int .i64 0, .int .i64 0, .int .i64 0, .int .i64 0, .int .i64 0, .int .i64 0, .int .i64 0] _ rfl⟩
                    obtain ⟨bb, hbb⟩ : ∃ bb, w17.heap.size = bb := ⟨_, rfl⟩
                    rw [hbb] at HA
                    try rw [hbb]
                    refine wpAnyT_one (i := 21) (by kernel_rfl) rfl (fun K hK => ?_)
                    go_simp
                    (refine (srcN_any g _ _ hHeld.2.1 (by omega) (by omega)).mono ?_; rintro e w21 ⟨y21, y21a, y21b, rfl, hs21, hg21⟩)
                    refine hK.out _ _ ?_ (fun hHeld2 => ?_)
                    · (try dsimp only); exact ⟨(AnB.turn hHeld.2 hg21 hs21).tab, AnB.turn hHeld.2 hg21 hs21⟩
                    clear hK K hHeld
                    have hHeld := hHeld2
                    clear hHeld2
                    try simp only [Act.put, List.getElem_toArray, List.getElem_cons_succ, List.getElem_cons_zero, List.setIfInBounds_toArray, List.set_cons_zero, List.set_cons_succ]
                    have HA : Hid (AnB g w.heap.size w w21 ∧ w.heap.size + 2 ≤ bb ∧ AnimBlk w21 bb 38 [.int .i64 0, .int .i64 0, .int .i64 0, .int .i64 0, .int .i64 0, .int .i64 0, .int .i64 0, .int .i64 0, .int .i64 0, .int .i64 0, .int .i64 0, .int .i64 0, .int .i64 0, .int .i64 0, .int .i64 0, .int .i64 0]) := ⟨AnB.turn HA.out.1 hg21 hs21, HA.out.2.1, blk_turn HA.out.2.2 hg21 HGL.out HA.out.2.1⟩
                    clear hs21 hg21
                    refine wpAnyT_take (i := 22) (v := .agg #[.int .i64 y1, .int .i64 y3, .int .i64 y5, .int .i64 (gz tabA i1), .int .i64 (gz tabA i2), .int .i64 y21, .int .i64 0, .int .i64 0, .int .i64 0, .int .i64 0, .int .i64 0, .int .i64 0, .int .i64 0, .int .i64 0, .int .i64 0, .int .i64 0]) rfl (by decide +kernel) (by decide +kernel) (by decide +kernel) (by decide +kernel) (by decide +kernel) (fun _ _ _ h => h) (Or.inl ⟨by rfl, fun w _ => build_anim rfl rfl rfl rfl rfl rfl w⟩) (by assumption) ?_
                    try simp only [Act.put, List.getElem_toArray, List.getElem_cons_succ, List.getElem_cons_zero, List.setIfInBounds_toArray, List.set_cons_zero, List.set_cons_succ]
                    refine wpAnyT_last (i := 24) (by kernel_rfl) (by kernel_rfl) rfl (by kernel_rfl) (fun K hK => ?_)
                    refine step_store_anim0 (by rfl) _ _ (by rfl) _ ([.int .i64 y1, .int .i64 y3, .int .i64 y5, .int .i64 (gz tabA i1), .int .i64 (gz tabA i2), .int .i64 y21, .int .i64 0, .int .i64 0, .int .i64 0, .int .i64 0, .int .i64 0, .int .i64 0, .int .i64 0, .int .i64 0, .int .i64 0, .int .i64 0] : List Value) (by rfl) (by rfl) (by rfl) _ _ HA.out.2.2 (by simp [Value.oneCell']) ?_
                    intro wz hAz hwz
                    refine hK.out _ _ ?_
                    clear hK K hHeld
                    try simp only [Act.put, List.getElem_toArray, List.getElem_cons_succ, List.getElem_cons_zero, List.setIfInBounds_toArray, List.set_cons_zero, List.set_cons_succ]
                    refine HK'.out _ _ (Met.intro (HJ.out _ _ ?_))
                    (repeat apply Exists.intro)
                    refine ⟨?_, rfl⟩
                    exact ⟨_, rfl, by subst hwz; exact AnB.low HA.out.1 (below_fillL HA.out.2.1 _ _ _ (Below.refl _ _)) (Nat.le_refl _), HA.out.2.1, [y1, y3, y5, gz tabA i1, gz tabA i2, y21, 0, 0, 0, 0, 0, 0, 0, 0, 0, 0], rfl, hAz⟩
              ·
                go_simp
                refine hK.out _ _ ?_ (fun hHeld2 => ?_)
                · (try dsimp only); exact ⟨(AnB.alloc HW.out _).tab, AnB.alloc HW.out _⟩
                clear hK K hHeld
                have hHeld := hHeld2
                clear hHeld2
                try simp only [Act.put, List.getElem_toArray, List.getElem_cons_succ, List.getElem_cons_zero, List.setIfInBounds_toArray, List.set_cons_zero, List.set_cons_succ]
                as_aux_lemma =>
                  have HA : Hid (AnB g w.heap.size w (w10.alloc (.cells #[.int .i64 0, .int .i64 0, .int .i64 0, .int .i64 0, .int .i64 0, .int .i64 0, .int .i64 0, .int .i64 0, .int .i64 0, .int .i64 0, .int .i64 0, .int .i64 0, .int .i64 0, .int .i64 0, .int .i64 0, .int .i64 0] 38)) ∧ w.heap.size + 2 ≤ w10.heap.size ∧ AnimBlk (w10.alloc (.cells #[.int .i64 0, .int .i64 0, .int .i64 0, .int .i64 0, .int .i64 0, .int .i64 0, .int .i64 0, .int .i64 0, .int .i64 0, .int .i64 0, .int .i64 0, .int .i64 0, .int .i64 0, .int .i64 0, .int .i64 0, .int .i64 0] 38)) w10.heap.size 38 [.int .i64 0, .int .i64 0, .int .i64 0, .int .i64 0, .int .i64 0, .int .i64 0, .int .i64 0, .int .i64 0, .int .i64 0, .int .i64 0, .int .i64 0, .int .i64 0, .int .i64 0, .int .i64 0, .int .i64 0, .int .i64 0]) := ⟨hHeld.2, HW.out.2.2.2.2.1, animBlk_new w10 [.int .i64 0, .int .i64 0, .int .i64 0, .int .i64 0, .int .i64 0, .int .i64 0, .int .i64 0, .int .i64 0, .int .i64 0, .int .i64 0, .int .i64 0, .int .i64 0, .int .i64 0, .int .i64 0, .int .i64 0, .int .i64 0] _ rfl⟩
                  obtain ⟨bb, hbb⟩ : ∃ bb, w10.heap.size = bb := ⟨_, rfl⟩
                  rw [hbb] at HA
                  try rw [hbb]
                  refine wpAnyT_one (i := 17) (by kernel_rfl) rfl (fun K hK => ?_)
                  go_simp
                  (refine (srcN_any g _ _ hHeld.2.1 (by omega) (by omega)).mono ?_; rintro e w17 ⟨y17, y17a, y17b, rfl, hs17, hg17⟩; obtain ⟨i2, rfl⟩ := Int.eq_ofNat_of_zero_le y17a; have jji2 : ((i2 : Nat) : Int) < 9 := Int.lt_of_le_of_lt y17b (by decide); have ji2 : i2 < 9 := Int.ofNat_lt.1 jji2)
                  refine hK.out _ _ ?_ (fun hHeld2 => ?_)
                  · (try dsimp only); exact ⟨(AnB.turn hHeld.2 hg17 hs17).tab, AnB.turn hHeld.2 hg17 hs17⟩
                  clear hK K hHeld
                  have hHeld := hHeld2
                  clear hHeld2
                  try simp only [Act.put, List.getElem_toArray, List.getElem_cons_succ, List.getElem_cons_zero, List.setIfInBounds_toArray, List.set_cons_zero, List.set_cons_succ]
                  have HA : Hid (AnB g w.heap.size w w17 ∧ w.heap.size + 2 ≤ bb ∧ AnimBlk w17 bb 38 [.int .i64 0, .int .i64 0, .int .i64 0, .int .i64 0, .int .i64 0, .int .i64 0, .int .i64 0, .int .i64 0, .int .i64 0, .int .i64 0, .int .i64 0, .int .i64 0, .int .i64 0, .int .i64 0, .int .i64 0, .int .i64 0]) := ⟨AnB.turn HA.out.1 hg17 hs17, HA.out.2.1, blk_turn HA.out.2.2 hg17 HGL.out HA.out.2.1⟩
                  clear hs17 hg17
                  refine wpAnyT_take (i := 18) (v := ?_) rfl (by decide +kernel) (by decide +kernel) (by decide +kernel) (by decide +kernel) (by decide +kernel) (fun _ _ _ h => h) (Or.inl ⟨by rfl, ?_⟩) (by assumption) ?_
                  rotate_left
                  · intro w hSw; (try dsimp only at hSw); first | (go_simp; done) | (go_simp; with_reducible rfl)
                  try simp only [Act.put, List.getElem_toArray, List.getElem_cons_succ, List.getElem_cons_zero, List.setIfInBounds_toArray, List.set_cons_zero, List.set_cons_succ]
                  refine wpAnyT_take (i := 19) (v := ?_) rfl (by decide +kernel) (by decide +kernel) (by decide +kernel) (by decide +kernel) (by decide +kernel) (fun _ _ _ h => h) (Or.inl ⟨by rfl, ?_⟩) (by assumption) ?_
                  rotate_left
                  · intro w hSw; (try dsimp only at hSw); first | (go_simp; done) | (go_simp; with_reducible rfl)
                  try simp only [Act.put, List.getElem_toArray, List.getElem_cons_succ, List.getElem_cons_zero, List.setIfInBounds_toArray, List.set_cons_zero, List.set_cons_succ]
                  refine wpAnyT_one (i := 21) (by kernel_rfl) rfl (fun K hK => ?_)
                  go_simp
                  (refine (srcN_any g _ _ hHeld.2.1 (by omega) (by omega)).mono ?_; rintro e w21 ⟨y21, y21a, y21b, rfl, hs21, hg21⟩)
                  refine hK.out _ _ ?_ (fun hHeld2 => ?_)
                  · (try dsimp only); exact ⟨(AnB.turn hHeld.2 hg21 hs21).tab, AnB.turn hHeld.2 hg21 hs21⟩
                  clear hK K hHeld
                  have hHeld := hHeld2
                  clear hHeld2
                  try simp only [Act.put, List.getElem_toArray, List.getElem_cons_succ, List.getElem_cons_zero, List.setIfInBounds_toArray, List.set_cons_zero, List.set_cons_succ]
                  have HA : Hid (AnB g w.heap.size w w21 ∧ w.heap.size + 2 ≤ bb ∧ AnimBlk w21 bb 38 [.int .i64 0, .int .i64 0, .int .i64 0, .int .i64 0, .int .i64 0, .int .i64 0, .int .i64 0, .int .i64 0, .int .i64 0, .int .i64 0, .int .i64 0, .int .i64 0, .int .i64 0, .int .i64 0, .int .i64 0, .int .i64 0]) := ⟨AnB.turn HA.out.1 hg21 hs21, HA.out.2.1, blk_turn HA.out.2.2 hg21 HGL.out HA.out.2.1⟩
                  clear hs21 hg21
                  refine wpAnyT_take (i := 22) (v := .agg #[.int .i64 y1, .int .i64 y3, .int .i64 y5, .int .i64 (gz tabA i1), .int .i64 (gz tabA i2), .int .i64 y21, .int .i64 0, .int .i64 0, .int .i64 0, .int .i64 0, .int .i64 0, .int .i64 0, .int .i64 0, .int .i64 0, .int .i64 0, .int .i64 0]) rfl (by decide +kernel) (by decide +kernel) (by decide +kernel) (by decide +kernel) (by decide +kernel) (fun _ _ _ h => h) (Or.inl ⟨by rfl, fun w _ => build_anim rfl rfl rfl rfl rfl rfl w⟩) (by assumption) ?_
                  try simp only [Act.put, List.getElem_toArray, List.getElem_cons_succ, List.getElem_cons_zero, List.setIfInBounds_toArray, List.set_cons_zero, List.set_cons_succ]
                  refine wpAnyT_last (i := 24) (by kernel_rfl) (by kernel_rfl) rfl (by kernel_rfl) (fun K hK => ?_)
                  refine step_store_anim0 (by rfl) _ _ (by rfl) _ ([.int .i64 y1, .int .i64 y3, .int .i64 y5, .int .i64 (gz tabA i1), .int .i64 (gz tabA i2), .int .i64 y21, .int .i64 0, .int .i64 0, .int .i64 0, .int .i64 0, .int .i64 0, .int .i64 0, .int .i64 0, .int .i64 0, .int .i64 0, .int .i64 0] : List Value) (by rfl) (by rfl) (by rfl) _ _ HA.out.2.2 (by simp [Value.oneCell']) ?_
                  intro wz hAz hwz
                  refine hK.out _ _ ?_
                  clear hK K hHeld
                  try simp only [Act.put, List.getElem_toArray, List.getElem_cons_succ, List.getElem_cons_zero, List.setIfInBounds_toArray, List.set_cons_zero, List.set_cons_succ]
                  refine HK'.out _ _ (Met.intro (HJ.out _ _ ?_))
                  (repeat apply Exists.intro)
                  refine ⟨?_, rfl⟩
                  exact ⟨_, rfl, by subst hwz; exact AnB.low HA.out.1 (below_fillL HA.out.2.1 _ _ _ (Below.refl _ _)) (Nat.le_refl _), HA.out.2.1, [y1, y3, y5, gz tabA i1, gz tabA i2, y21, 0, 0, 0, 0, 0, 0, 0, 0, 0, 0], rfl, hAz⟩
            ·
              go_simp
              refine hK.out _ _ ?_ (fun hHeld2 => ?_)
              · (try dsimp only); exact ⟨(AnB.alloc HW.out _).tab, AnB.alloc HW.out _⟩
              clear hK K hHeld
              have hHeld := hHeld2
              clear hHeld2
              try simp only [Act.put, List.getElem_toArray, List.getElem_cons_succ, List.getElem_cons_zero, List.setIfInBounds_toArray, List.set_cons_zero, List.set_cons_succ]
              as_aux_lemma =>
                have HA : Hid (AnB g w.heap.size w (w5.alloc (.cells #[.int .i64 0, .int .i64 0, .int .i64 0, .int .i64 0, .int .i64 0, .int .i64 0, .int .i64 0, .int .i64 0, .int .i64 0, .int .i64 0, .int .i64 0, .int .i64 0, .int .i64 0, .int .i64 0, .int .i64 0, .int .i64 0] 38)) ∧ w.heap.size + 2 ≤ w5.heap.size ∧ AnimBlk (w5.alloc (.cells #[.int .i64 0, .int .i64 0, .int .i64 0, .int .i64 0, .int .i64 0, .int .i64 0, .int .i64 0, .int .i64 0, .int .i64 0, .int .i64 0, .int .i64 0, .int .i64 0, .int .i64 0, .int .i64 0, .int .i64 0, .int .i64 0] 38)) w5.heap.size 38 [.int .i64 0, .int .i64 0, .int .i64 0, .int .i64 0, .int .i64 0, .int .i64 0, .int .i64 0, .int .i64 0, .int .i64 0, .int .i64 0, .int .i64 0, .int .i64 0, .int .i64 0, .int .i64 0, .int .i64 0, .int .i64 0]) := ⟨hHeld.2, HW.out.2.2.2.2.1, animBlk_new w5 [.int .i64 0, .int .i64 0, .int .i64 0, .int .i64 0, .int .i64 0, .int .i64 0, .int .i64 0, .int .i64 0, .int .i64 0, .int .i64 0, .int .i64 0, .int .i64 0, .int .i64 0, .int .i64 0, .int .i64 0, .int .i64 0] _ rfl⟩
                obtain ⟨bb, hbb⟩ : ∃ bb, w5.heap.size = bb := ⟨_, rfl⟩
                rw [hbb] at HA
                try rw [hbb]
                refine wpAnyT_one (i := 10) (by kernel_rfl) rfl (fun K hK => ?_)
                go_simp
                (refine (srcN_any g _ _ hHeld.2.1 (by omega) (by omega)).mono ?_; rintro e w10 ⟨y10, y10a, y10b, rfl, hs10, hg10⟩; obtain ⟨i1, rfl⟩ := Int.eq_ofNat_of_zero_le y10a; have jji1 : ((i1 : Nat) : Int) < 9 := Int.lt_of_le_of_lt y10b (by decide); have ji1 : i1 < 9 := Int.ofNat_lt.1 jji1)
                refine hK.out _ _ ?_ (fun hHeld2 => ?_)
                · (try dsimp only); exact ⟨(AnB.turn hHeld.2 hg10 hs10).tab, AnB.turn hHeld.2 hg10 hs10⟩
                clear hK K hHeld
                have hHeld := hHeld2
                clear hHeld2
                try simp only [Act.put, List.getElem_toArray, List.getElem_cons_succ, List.getElem_cons_zero, List.setIfInBounds_toArray, List.set_cons_zero, List.set_cons_succ]
                have HA : Hid (AnB g w.heap.size w w10 ∧ w.heap.size + 2 ≤ bb ∧ AnimBlk w10 bb 38 [.int .i64 0, .int .i64 0, .int .i64 0, .int .i64 0, .int .i64 0, .int .i64 0, .int .i64 0, .int .i64 0, .int .i64 0, .int .i64 0, .int .i64 0, .int .i64 0, .int .i64 0, .int .i64 0, .int .i64 0, .int .i64 0]) := ⟨AnB.turn HA.out.1 hg10 hs10, HA.out.2.1, blk_turn HA.out.2.2 hg10 HGL.out HA.out.2.1⟩
                clear hs10 hg10
                refine wpAnyT_take (i := 11) (v := ?_) rfl (by decide +kernel) (by decide +kernel) (by decide +kernel) (by decide +kernel) (by decide +kernel) (fun _ _ _ h => h) (Or.inl ⟨by rfl, ?_⟩) (by assumption) ?_
                rotate_left
                · intro w hSw; (try dsimp only at hSw); first | (go_simp; done) | (go_simp; with_reducible rfl)
                try simp only [Act.put, List.getElem_toArray, List.getElem_cons_succ, List.getElem_cons_zero, List.setIfInBounds_toArray, List.set_cons_zero, List.set_cons_succ]
                refine wpAnyT_take (i := 12) (v := ?_) rfl (by decide +kernel) (by decide +kernel) (by decide +kernel) (by decide +kernel) (by decide +kernel) (fun _ _ _ h => h) (Or.inl ⟨by rfl, ?_⟩) (by assumption) ?_
                rotate_left
                · intro w hSw; (try dsimp only at hSw); first | (go_simp; done) | (go_simp; with_reducible rfl)
                try simp only [Act.put, List.getElem_toArray, List.getElem_cons_succ, List.getElem_cons_zero, List.setIfInBounds_toArray, List.set_cons_zero, List.set_cons_succ]
                refine wpAnyT_one (i := 17) (by kernel_rfl) rfl (fun K hK => ?_)
                go_simp
                (refine (srcN_any g _ _ hHeld.2.1 (by omega) (by omega)).mono ?_; rintro e w17 ⟨y17, y17a, y17b, rfl, hs17, hg17⟩; obtain ⟨i2, rfl⟩ := Int.eq_ofNat_of_zero_le y17a; have jji2 : ((i2 : Nat) : Int) < 9 := Int.lt_of_le_of_lt y17b (by decide); have ji2 : i2 < 9 := Int.ofNat_lt.1 jji2)
                refine hK.out _ _ ?_ (fun hHeld2 => ?_)
                · (try dsimp only); exact ⟨(AnB.turn hHeld.2 hg17 hs17).tab, AnB.turn hHeld.2 hg17 hs17⟩
                clear hK K hHeld
                have hHeld := hHeld2
                clear hHeld2
                try simp only [Act.put, List.getElem_toArray, List.getElem_cons_succ, List.getElem_cons_zero, List.setIfInBounds_toArray, List.set_cons_zero, List.set_cons_succ]
                have HA : Hid (AnB g w.heap.size w w17 ∧ w.heap.size + 2 ≤ bb ∧ AnimBlk w17 bb 38 [.int .i64 0, .int .i64 0, .int .i64 0, .int .i64 0, .int .i64 0, .int .i64 0, .int .i64 0, .int .i64 0, .int .i64 0, .int .i64 0, .int .i64 0, .int .i64 0, .int .i64 0, .int .i64 0, .int .i64 0, .int .i64 0]) := ⟨AnB.turn HA.out.1 hg17 hs17, HA.out.2.1, blk_turn HA.out.2.2 hg17 HGL.out HA.out.2.1⟩
                clear hs17 hg17
                refine wpAnyT_take (i := 18) (v := ?_) rfl (by decide +kernel) (by decide +kernel) (by decide +kernel) (by decide +kernel) (by decide +kernel) (fun _ _ _ h => h) (Or.inl ⟨by rfl, ?_⟩) (by assumption) ?_
                rotate_left
                · intro w hSw; (try dsimp only at hSw); first | (go_simp; done) | (go_simp; with_reducible rfl)
                try simp only [Act.put, List.getElem_toArray, List.getElem_cons_succ, List.getElem_cons_zero, List.setIfInBounds_toArray, List.set_cons_zero, List.set_cons_succ]
                refine wpAnyT_take (i := 19) (v := ?_) rfl (by decide +kernel) (by decide +kernel) (by decide +kernel) (by decide +kernel) (by decide +kernel) (fun _ _ _ h => h) (Or.inl ⟨by rfl, ?_⟩) (by assumption) ?_
                rotate_left
                · intro w hSw; (try dsimp only at hSw); first | (go_simp; done) | (go_simp; with_reducible rfl)
                try simp only [Act.put, List.getElem_toArray, List.getElem_cons_succ, List.getElem_cons_zero, List.setIfInBounds_toArray, List.set_cons_zero, List.set_cons_succ]
                refine wpAnyT_one (i := 21) (by kernel_rfl) rfl (fun K hK => ?_)
                go_simp
                (refine (srcN_any g _ _ hHeld.2.1 (by omega) (by omega)).mono ?_; rintro e w21 ⟨y21, y21a, y21b, rfl, hs21, hg21⟩)
                refine hK.out _ _ ?_ (fun hHeld2 => ?_)
                · (try dsimp only); exact ⟨(AnB.turn hHeld.2 hg21 hs21).tab, AnB.turn hHeld.2 hg21 hs21⟩
                clear hK K hHeld
                have hHeld := hHeld2
                clear hHeld2
                try simp only [Act.put, List.getElem_toArray, List.getElem_cons_succ, List.getElem_cons_zero, List.setIfInBounds_toArray, List.set_cons_zero, List.set_cons_succ]
                have HA : Hid (AnB g w.heap.size w w21 ∧ w.heap.size + 2 ≤ bb ∧ AnimBlk w21 bb 38 [.int .i64 0, .int .i64 0, .int .i64 0, .int .i64 0, .int .i64 0, .int .i64 0, .int .i64 0, .int .i64 0, .int .i64 0, .int .i64 0, .int .i64 0, .int .i64 0, .int .i64 0, .int .i64 0, .int .i64 0, .int .i64 0]) := ⟨AnB.turn HA.out.1 hg21 hs21, HA.out.2.1, blk_turn HA.out.2.2 hg21 HGL.out HA.out.2.1⟩
                clear hs21 hg21
                refine wpAnyT_take (i := 22) (v := .agg #[.int .i64 y1, .int .i64 y3, .int .i64 y5, .int .i64 (gz tabA i1), .int .i64 (gz tabA i2), .int .i64 y21, .int .i64 0, .int .i64 0, .int .i64 0, .int .i64 0, .int .i64 0, .int .i64 0, .int .i64 0, .int .i64 0, .int .i64 0, .int .i64 0]) rfl (by decide +kernel) (by decide +kernel) (by decide +kernel) (by decide +kernel) (by decide +kernel) (fun _ _ _ h => h) (Or.inl ⟨by rfl, fun w _ => build_anim rfl rfl rfl rfl rfl rfl w⟩) (by assumption) ?_
                try simp only [Act.put, List.getElem_toArray, List.getElem_cons_succ, List.getElem_cons_zero, List.setIfInBounds_toArray, List.set_cons_zero, List.set_cons_succ]
                refine wpAnyT_last (i := 24) (by kernel_rfl) (by kernel_rfl) rfl (by kernel_rfl) (fun K hK => ?_)
                refine step_store_anim0 (by rfl) _ _ (by rfl) _ ([.int .i64 y1, .int .i64 y3, .int .i64 y5, .int .i64 (gz tabA i1), .int .i64 (gz tabA i2), .int .i64 y21, .int .i64 0, .int .i64 0, .int .i64 0, .int .i64 0, .int .i64 0, .int .i64 0, .int .i64 0, .int .i64 0, .int .i64 0, .int .i64 0] : List Value) (by rfl) (by rfl) (by rfl) _ _ HA.out.2.2 (by simp [Value.oneCell']) ?_
                intro wz hAz hwz
                refine hK.out _ _ ?_
                clear hK K hHeld
                try simp only [Act.put, List.getElem_toArray, List.getElem_cons_succ, List.getElem_cons_zero, List.setIfInBounds_toArray, List.set_cons_zero, List.set_cons_succ]
                refine HK'.out _ _ (Met.intro (HJ.out _ _ ?_))
                (repeat apply Exists.intro)
                refine ⟨?_, rfl⟩
                exact ⟨_, rfl, by subst hwz; exact AnB.low HA.out.1 (below_fillL HA.out.2.1 _ _ _ (Below.refl _ _)) (Nat.le_refl _), HA.out.2.1, [y1, y3, y5, gz tabA i1, gz tabA i2, y21, 0, 0, 0, 0, 0, 0, 0, 0, 0, 0], rfl, hAz⟩
          ·
            go_simp
            refine hK.out _ _ ?_ (fun hHeld2 => ?_)
            · (try dsimp only); exact ⟨(AnB.alloc HW.out _).tab, AnB.alloc HW.out _⟩
            clear hK K hHeld
            have hHeld := hHeld2
            clear hHeld2
            try simp only [Act.put, List.getElem_toArray, List.getElem_cons_succ, List.getElem_cons_zero, List.setIfInBounds_toArray, List.set_cons_zero, List.set_cons_succ]
            as_aux_lemma =>
              have HA : Hid (AnB g w.heap.size w (w3.alloc (.cells #[.int .i64 0, .int .i64 0, .int .i64 0, .int .i64 0, .int .i64 0, .int .i64 0, .int .i64 0, .int .i64 0, .int .i64 0, .int .i64 0, .int .i64 0, .int .i64 0, .int .i64 0, .int .i64 0, .int .i64 0, .int .i64 0] 38)) ∧ w.heap.size + 2 ≤ w3.heap.size ∧ AnimBlk (w3.alloc (.cells #[.int .i64 0, .int .i64 0, .int .i64 0, .int .i64 0, .int .i64 0, .int .i64 0, .int .i64 0, .int .i64 0, .int .i64 0, .int .i64 0, .int .i64 0, .int .i64 0, .int .i64 0, .int .i64 0, .int .i64 0, .int .i64 0] 38)) w3.heap.size 38 [.int .i64 0, .int .i64 0, .int .i64 0, .int .i64 0, .int .i64 0, .int .i64 0, .int .i64 0, .int .i64 0, .int .i64 0, .int .i64 0, .int .i64 0, .int .i64 0, .int .i64 0, .int .i64 0, .int .i64 0, .int .i64 0]) := ⟨hHeld.2, HW.out.2.2.2.2.1, animBlk_new w3 [.int .i64 0, .int .i64 0, .int .i64 0, .int .i64 0, .int .i64 0, .int .i64 0, .int .i64 0, .int .i64 0, .int .i64 0, .int .i64 0, .int .i64 0, .int .i64 0, .int .i64 0, .int .i64 0, .int .i64 0, .int .i64 0] _ rfl⟩
              obtain ⟨bb, hbb⟩ : ∃ bb, w3.heap.size = bb := ⟨_, rfl⟩
              rw [hbb] at HA
              try rw [hbb]
              refine wpAnyT_one (i := 5) (by kernel_rfl) rfl (fun K hK => ?_)
              go_simp
              (refine (srcRange_any g _ _ _ hHeld.2.1 (by omega) (by omega) (by omega)).mono ?_; rintro e w5 ⟨y5, y5a, y5b, rfl, hs5, hg5⟩)
              refine hK.out _ _ ?_ (fun hHeld2 => ?_)
              · (try dsimp only); exact ⟨(AnB.turn hHeld.2 hg5 hs5).tab, AnB.turn hHeld.2 hg5 hs5⟩
              clear hK K hHeld
              have hHeld := hHeld2
              clear hHeld2
              try simp only [Act.put, List.getElem_toArray, List.getElem_cons_succ, List.getElem_cons_zero, List.setIfInBounds_toArray, List.set_cons_zero, List.set_cons_succ]
              have HA : Hid (AnB g w.heap.size w w5 ∧ w.heap.size + 2 ≤ bb ∧ AnimBlk w5 bb 38 [.int .i64 0, .int .i64 0, .int .i64 0, .int .i64 0, .int .i64 0, .int .i64 0, .int .i64 0, .int .i64 0, .int .i64 0, .int .i64 0, .int .i64 0, .int .i64 0, .int .i64 0, .int .i64 0, .int .i64 0, .int .i64 0]) := ⟨AnB.turn HA.out.1 hg5 hs5, HA.out.2.1, blk_turn HA.out.2.2 hg5 HGL.out HA.out.2.1⟩
              clear hs5 hg5
              refine wpAnyT_one (i := 10) (by kernel_rfl) rfl (fun K hK => ?_)
              go_simp
              (refine (srcN_any g _ _ hHeld.2.1 (by omega) (by omega)).mono ?_; rintro e w10 ⟨y10, y10a, y10b, rfl, hs10, hg10⟩; obtain ⟨i1, rfl⟩ := Int.eq_ofNat_of_zero_le y10a; have jji1 : ((i1 : Nat) : Int) < 9 := Int.lt_of_le_of_lt y10b (by decide); have ji1 : i1 < 9 := Int.ofNat_lt.1 jji1)
              refine hK.out _ _ ?_ (fun hHeld2 => ?_)
              · (try dsimp only); exact ⟨(AnB.turn hHeld.2 hg10 hs10).tab, AnB.turn hHeld.2 hg10 hs10⟩
              clear hK K hHeld
              have hHeld := hHeld2
              clear hHeld2
              try simp only [Act.put, List.getElem_toArray, List.getElem_cons_succ, List.getElem_cons_zero, List.setIfInBounds_toArray, List.set_cons_zero, List.set_cons_succ]
              have HA : Hid (AnB g w.heap.size w w10 ∧ w.heap.size + 2 ≤ bb ∧ AnimBlk w10 bb 38 [.int .i64 0, .int .i64 0, .int .i64 0, .int .i64 0, .int .i64 0, .int .i64 0, .int .i64 0, .int .i64 0, .int .i64 0, .int .i64 0, .int .i64 0, .int .i64 0, .int .i64 0, .int .i64 0, .int .i64 0, .int .i64 0]) := ⟨AnB.turn HA.out.1 hg10 hs10, HA.out.2.1, blk_turn HA.out.2.2 hg10 HGL.out HA.out.2.1⟩
              clear hs10 hg10
              refine wpAnyT_take (i := 11) (v := ?_) rfl (by decide +kernel) (by decide +kernel) (by decide +kernel) (by decide +kernel) (by decide +kernel) (fun _ _ _ h => h) (Or.inl ⟨by rfl, ?_⟩) (by assumption) ?_
              rotate_left
              · intro w hSw; (try dsimp only at hSw); first | (go_simp; done) | (go_simp; with_reducible rfl)
              try simp only [Act.put, List.getElem_toArray, List.getElem_cons_succ, List.getElem_cons_zero, List.setIfInBounds_toArray, List.set_cons_zero, List.set_cons_succ]
              refine wpAnyT_take (i := 12) (v := ?_) rfl (by decide +kernel) (by decide +kernel) (by decide +kernel) (by decide +kernel) (by decide +kernel) (fun _ _ _ h => h) (Or.inl ⟨by rfl, ?_⟩) (by assumption) ?_
              rotate_left
              · intro w hSw; (try dsimp only at hSw); first | (go_simp; done) | (go_simp; with_reducible rfl)
              try simp only [Act.put, List.getElem_toArray, List.getElem_cons_succ, List.getElem_cons_zero, List.setIfInBounds_toArray, List.set_cons_zero, List.set_cons_succ]
              refine wpAnyT_one (i := 17) (by kernel_rfl) rfl (fun K hK => ?_)
              go_simp
              (refine (srcN_any g _ _ hHeld.2.1 (by omega) (by omega)).mono ?_; rintro e w17 ⟨y17, y17a, y17b, rfl, hs17, hg17⟩; obtain ⟨i2, rfl⟩ := Int.eq_ofNat_of_zero_le y17a; have jji2 : ((i2 : Nat) : Int) < 9 := Int.lt_of_le_of_lt y17b (by decide); have ji2 : i2 < 9 := Int.ofNat_lt.1 jji2)
              refine hK.out _ _ ?_ (fun hHeld2 => ?_)
              · (try dsimp only); exact ⟨(AnB.turn hHeld.2 hg17 hs17).tab, AnB.turn hHeld.2 hg17 hs17⟩
              clear hK K hHeld
              have hHeld := hHeld2
              clear hHeld2
              try simp only [Act.put, List.getElem_toArray, List.getElem_cons_succ, List.getElem_cons_zero, List.setIfInBounds_toArray, List.set_cons_zero, List.set_cons_succ]
              have HA : Hid (AnB g w.heap.size w w17 ∧ w.heap.size + 2 ≤ bb ∧ AnimBlk w17 bb 38 [.int .i64 0, .int .i64 0, .int .i64 0, .int .i64 0, .int .i64 0, .int .i64 0, .int .i64 0, .int .i64 0, .int .i64 0, .int .i64 0, .int .i64 0, .int .i64 0, .int .i64 0, .int .i64 0, .int .i64 0, .int .i64 0]) := ⟨AnB.turn HA.out.1 hg17 hs17, HA.out.2.1, blk_turn HA.out.2.2 hg17 HGL.out HA.out.2.1⟩
              clear hs17 hg17
              refine wpAnyT_take (i := 18) (v := ?_) rfl (by decide +kernel) (by decide +kernel) (by decide +kernel) (by decide +kernel) (by decide +kernel) (fun _ _ _ h => h) (Or.inl ⟨by rfl, ?_⟩) (by assumption) ?_
              rotate_left
              · intro w hSw; (try dsimp only at hSw); first | (go_simp; done) | (go_simp; with_reducible rfl)
              try simp only [Act.put, List.getElem_toArray, List.getElem_cons_succ, List.getElem_cons_zero, List.setIfInBounds_toArray, List.set_cons_zero, List.set_cons_succ]
              refine wpAnyT_take (i := 19) (v := ?_) rfl (by decide +kernel) (by decide +kernel) (by decide +kernel) (by decide +kernel) (by decide +kernel) (fun _ _ _ h => h) (Or.inl ⟨by rfl, ?_⟩) (by assumption) ?_
              rotate_left
              · intro w hSw; (try dsimp only at hSw); first | (go_simp; done) | (go_simp; with_reducible rfl)
              try simp only [Act.put, List.getElem_toArray, List.getElem_cons_succ, List.getElem_cons_zero, List.setIfInBounds_toArray, List.set_cons_zero, List.set_cons_succ]
              refine wpAnyT_one (i := 21) (by kernel_rfl) rfl (fun K hK => ?_)
              go_simp
              (refine (srcN_any g _ _ hHeld.2.1 (by omega) (by omega)).mono ?_; rintro e w21 ⟨y21, y21a, y21b, rfl, hs21, hg21⟩)
              refine hK.out _ _ ?_ (fun hHeld2 => ?_)
              · (try dsimp only); exact ⟨(AnB.turn hHeld.2 hg21 hs21).tab, AnB.turn hHeld.2 hg21 hs21⟩
              clear hK K hHeld
              have hHeld := hHeld2
              clear hHeld2
              try simp only [Act.put, List.getElem_toArray, List.getElem_cons_succ, List.getElem_cons_zero, List.setIfInBounds_toArray, List.set_cons_zero, List.set_cons_succ]
              have HA : Hid (AnB g w.heap.size w w21 ∧ w.heap.size + 2 ≤ bb ∧ AnimBlk w21 bb 38 [.int .i64 0, .int .i64 0, .int .i64 0, .int .i64 0, .int .i64 0, .int .i64 0, .int .i64 0, .int .i64 0, .int .i64 0, .int .i64 0, .int .i64 0, .int .i64 0, .int .i64 0, .int .i64 0, .int .i64 0, .int .i64 0]) := ⟨AnB.turn HA.out.1 hg21 hs21, HA.out.2.1, blk_turn HA.out.2.2 hg21 HGL.out HA.out.2.1⟩
              clear hs21 hg21
              refine wpAnyT_take (i := 22) (v := .agg #[.int .i64 y1, .int .i64 y3, .int .i64 y5, .int .i64 (gz tabA i1), .int .i64 (gz tabA i2), .int .i64 y21, .int .i64 0, .int .i64 0, .int .i64 0, .int .i64 0, .int .i64 0, .int .i64 0, .int .i64 0, .int .i64 0, .int .i64 0, .int .i64 0]) rfl (by decide +kernel) (by decide +kernel) (by decide +kernel) (by decide +kernel) (by decide +kernel) (fun _ _ _ h => h) (Or.inl ⟨by rfl, fun w _ => build_anim rfl rfl rfl rfl rfl rfl w⟩) (by assumption) ?_
              try simp only [Act.put, List.getElem_toArray, List.getElem_cons_succ, List.getElem_cons_zero, List.setIfInBounds_toArray, List.set_cons_zero, List.set_cons_succ]
              refine wpAnyT_last (i := 24) (by kernel_rfl) (by kernel_rfl) rfl (by kernel_rfl) (fun K hK => ?_)
              refine step_store_anim0 (by rfl) _ _ (by rfl) _ ([.int .i64 y1, .int .i64 y3, .int .i64 y5, .int .i64 (gz tabA i1), .int .i64 (gz tabA i2), .int .i64 y21, .int .i64 0, .int .i64 0, .int .i64 0, .int .i64 0, .int .i64 0, .int .i64 0, .int .i64 0, .int .i64 0, .int .i64 0, .int .i64 0] : List Value) (by rfl) (by rfl) (by rfl) _ _ HA.out.2.2 (by simp [Value.oneCell']) ?_
              intro wz hAz hwz
              refine hK.out _ _ ?_
              clear hK K hHeld
              try simp only [Act.put, List.getElem_toArray, List.getElem_cons_succ, List.getElem_cons_zero, List.setIfInBounds_toArray, List.set_cons_zero, List.set_cons_succ]
              refine HK'.out _ _ (Met.intro (HJ.out _ _ ?_))
              (repeat apply Exists.intro)
              refine ⟨?_, rfl⟩
              exact ⟨_, rfl, by subst hwz; exact AnB.low HA.out.1 (below_fillL HA.out.2.1 _ _ _ (Below.refl _ _)) (Nat.le_refl _), HA.out.2.1, [y1, y3, y5, gz tabA i1, gz tabA i2, y21, 0, 0, 0, 0, 0, 0, 0, 0, 0, 0], rfl, hAz⟩
        ·
          go_simp
          refine hK.out _ _ ?_ (fun hHeld2 => ?_)
          · (try dsimp only); exact ⟨(AnB.alloc HW.out _).tab, AnB.alloc HW.out _⟩
          clear hK K hHeld
          have hHeld := hHeld2
          clear hHeld2
          try simp only [Act.put, List.getElem_toArray, List.getElem_cons_succ, List.getElem_cons_zero, List.setIfInBounds_toArray, List.set_cons_zero, List.set_cons_succ]
          as_aux_lemma =>
            have HA : Hid (AnB g w.heap.size w (w1.alloc (.cells #[.int .i64 0, .int .i64 0, .int .i64 0, .int .i64 0, .int .i64 0, .int .i64 0, .int .i64 0, .int .i64 0, .int .i64 0, .int .i64 0, .int .i64 0, .int .i64 0, .int .i64 0, .int .i64 0, .int .i64 0, .int .i64 0] 38)) ∧ w.heap.size + 2 ≤ w1.heap.size ∧ AnimBlk (w1.alloc (.cells #[.int .i64 0, .int .i64 0, .int .i64 0, .int .i64 0, .int .i64 0, .int .i64 0, .int .i64 0, .int .i64 0, .int .i64 0, .int .i64 0, .int .i64 0, .int .i64 0, .int .i64 0, .int .i64 0, .int .i64 0, .int .i64 0] 38)) w1.heap.size 38 [.int .i64 0, .int .i64 0, .int .i64 0, .int .i64 0, .int .i64 0, .int .i64 0, .int .i64 0, .int .i64 0, .int .i64 0, .int .i64 0, .int .i64 0, .int .i64 0, .int .i64 0, .int .i64 0, .int .i64 0, .int .i64 0]) := ⟨hHeld.2, HW.out.2.2.2.2.1, animBlk_new w1 [.int .i64 0, .int .i64 0, .int .i64 0, .int .i64 0, .int .i64 0, .int .i64 0, .int .i64 0, .int .i64 0, .int .i64 0, .int .i64 0, .int .i64 0, .int .i64 0, .int .i64 0, .int .i64 0, .int .i64 0, .int .i64 0] _ rfl⟩
            obtain ⟨bb, hbb⟩ : ∃ bb, w1.heap.size = bb := ⟨_, rfl⟩
            rw [hbb] at HA
            try rw [hbb]
            refine wpAnyT_one (i := 3) (by kernel_rfl) rfl (fun K hK => ?_)
            go_simp
            (refine (srcN_any g _ _ hHeld.2.1 (by omega) (by omega)).mono ?_; rintro e w3 ⟨y3, y3a, y3b, rfl, hs3, hg3⟩)
            refine hK.out _ _ ?_ (fun hHeld2 => ?_)
            · (try dsimp only); exact ⟨(AnB.turn hHeld.2 hg3 hs3).tab, AnB.turn hHeld.2 hg3 hs3⟩
            clear hK K hHeld
            have hHeld := hHeld2
            clear hHeld2
            try simp only [Act.put, List.getElem_toArray, List.getElem_cons_succ, List.getElem_cons_zero, List.setIfInBounds_toArray, List.set_cons_zero, List.set_cons_succ]
            have HA : Hid (AnB g w.heap.size w w3 ∧ w.heap.size + 2 ≤ bb ∧ AnimBlk w3 bb 38 [.int .i64 0, .int .i64 0, .int .i64 0, .int .i64 0, .int .i64 0, .int .i64 0, .int .i64 0, .int .i64 0, .int .i64 0, .int .i64 0, .int .i64 0, .int .i64 0, .int .i64 0, .int .i64 0, .int .i64 0, .int .i64 0]) := ⟨AnB.turn HA.out.1 hg3 hs3, HA.out.2.1, blk_turn HA.out.2.2 hg3 HGL.out HA.out.2.1⟩
            clear hs3 hg3
            refine wpAnyT_one (i := 5) (by kernel_rfl) rfl (fun K hK => ?_)
            go_simp
            (refine (srcRange_any g _ _ _ hHeld.2.1 (by omega) (by omega) (by omega)).mono ?_; rintro e w5 ⟨y5, y5a, y5b, rfl, hs5, hg5⟩)
            refine hK.out _ _ ?_ (fun hHeld2 => ?_)
            · (try dsimp only); exact ⟨(AnB.turn hHeld.2 hg5 hs5).tab, AnB.turn hHeld.2 hg5 hs5⟩
            clear hK K hHeld
            have hHeld := hHeld2
            clear hHeld2
            try simp only [Act.put, List.getElem_toArray, List.getElem_cons_succ, List.getElem_cons_zero, List.setIfInBounds_toArray, List.set_cons_zero, List.set_cons_succ]
            have HA : Hid (AnB g w.heap.size w w5 ∧ w.heap.size + 2 ≤ bb ∧ AnimBlk w5 bb 38 [.int .i64 0, .int .i64 0, .int .i64 0, .int .i64 0, .int .i64 0, .int .i64 0, .int .i64 0, .int .i64 0, .int .i64 0, .int .i64 0, .int .i64 0, .int .i64 0, .int .i64 0, .int .i64 0, .int .i64 0, .int .i64 0]) := ⟨AnB.turn HA.out.1 hg5 hs5, HA.out.2.1, blk_turn HA.out.2.2 hg5 HGL.out HA.out.2.1⟩
            clear hs5 hg5
            refine wpAnyT_one (i := 10) (by kernel_rfl) rfl (fun K hK => ?_)
            go_simp
            (refine (srcN_any g _ _ hHeld.2.1 (by omega) (by omega)).mono ?_; rintro e w10 ⟨y10, y10a, y10b, rfl, hs10, hg10⟩; obtain ⟨i1, rfl⟩ := Int.eq_ofNat_of_zero_le y10a; have jji1 : ((i1 : Nat) : Int) < 9 := Int.lt_of_le_of_lt y10b (by decide); have ji1 : i1 < 9 := Int.ofNat_lt.1 jji1)
            refine hK.out _ _ ?_ (fun hHeld2 => ?_)
            · (try dsimp only); exact ⟨(AnB.turn hHeld.2 hg10 hs10).tab, AnB.turn hHeld.2 hg10 hs10⟩
            clear hK K hHeld
            have hHeld := hHeld2
            clear hHeld2
            try simp only [Act.put, List.getElem_toArray, List.getElem_cons_succ, List.getElem_cons_zero, List.setIfInBounds_toArray, List.set_cons_zero, List.set_cons_succ]
            have HA : Hid (AnB g w.heap.size w w10 ∧ w.heap.size + 2 ≤ bb ∧ AnimBlk w10 bb 38 [.int .i64 0, .int .i64 0, .int .i64 0, .int .i64 0, .int .i64 0, .int .i64 0, .int .i64 0, .int .i64 0, .int .i64 0, .int .i64 0, .int .i64 0, .int .i64 0, .int .i64 0, .int .i64 0, .int .i64 0, .int .i64 0]) := ⟨AnB.turn HA.out.1 hg10 hs10, HA.out.2.1, blk_turn HA.out.2.2 hg10 HGL.out HA.out.2.1⟩
            clear hs10 hg10
            refine wpAnyT_take (i := 11) (v := ?_) rfl (by decide +kernel) (by decide +kernel) (by decide +kernel) (by decide +kernel) (by decide +kernel) (fun _ _ _ h => h) (Or.inl ⟨by rfl, ?_⟩) (by assumption) ?_
            rotate_left
            · intro w hSw; (try dsimp only at hSw); first | (go_simp; done) | (go_simp; with_reducible rfl)
            try simp only [Act.put, List.getElem_toArray, List.getElem_cons_succ, List.getElem_cons_zero, List.setIfInBounds_toArray, List.set_cons_zero, List.set_cons_succ]
            refine wpAnyT_take (i := 12) (v := ?_) rfl (by decide +kernel) (by decide +kernel) (by decide +kernel) (by decide +kernel) (by decide +kernel) (fun _ _ _ h => h) (Or.inl ⟨by rfl, ?_⟩) (by assumption) ?_
            rotate_left
            · intro w hSw; (try dsimp only at hSw); first | (go_simp; done) | (go_simp; with_reducible rfl)
            try simp only [Act.put, List.getElem_toArray, List.getElem_cons_succ, List.getElem_cons_zero, List.setIfInBounds_toArray, List.set_cons_zero, List.set_cons_succ]
            refine wpAnyT_one (i := 17) (by kernel_rfl) rfl (fun K hK => ?_)
            go_simp
            (refine (srcN_any g _ _ hHeld.2.1 (by omega) (by omega)).mono ?_; rintro e w17 ⟨y17, y17a, y17b, rfl, hs17, hg17⟩; obtain ⟨i2, rfl⟩ := Int.eq_ofNat_of_zero_le y17a; have jji2 : ((i2 : Nat) : Int) < 9 := Int.lt_of_le_of_lt y17b (by decide); have ji2 : i2 < 9 := Int.ofNat_lt.1 jji2)
            refine hK.out _ _ ?_ (fun hHeld2 => ?_)
            · (try dsimp only); exact ⟨(AnB.turn hHeld.2 hg17 hs17).tab, AnB.turn hHeld.2 hg17 hs17⟩
            clear hK K hHeld
            have hHeld := hHeld2
            clear hHeld2
            try simp only [Act.put, List.getElem_toArray, List.getElem_cons_succ, List.getElem_cons_zero, List.setIfInBounds_toArray, List.set_cons_zero, List.set_cons_succ]
            have HA : Hid (AnB g w.heap.size w w17 ∧ w.heap.size + 2 ≤ bb ∧ AnimBlk w17 bb 38 [.int .i64 0, .int .i64 0, .int .i64 0, .int .i64 0, .int .i64 0, .int .i64 0, .int .i64 0, .int .i64 0, .int .i64 0, .int .i64 0, .int .i64 0, .int .i64 0, .int .i64 0, .int .i64 0, .int .i64 0, .int .i64 0]) := ⟨AnB.turn HA.out.1 hg17 hs17, HA.out.2.1, blk_turn HA.out.2.2 hg17 HGL.out HA.out.2.1⟩
            clear hs17 hg17
            refine wpAnyT_take (i := 18) (v := ?_) rfl (by decide +kernel) (by decide +kernel) (by decide +kernel) (by decide +kernel) (by decide +kernel) (fun _ _ _ h => h) (Or.inl ⟨by rfl, ?_⟩) (by assumption) ?_
            rotate_left
            · intro w hSw; (try dsimp only at hSw); first | (go_simp; done) | (go_simp; with_reducible rfl)
            try simp only [Act.put, List.getElem_toArray, List.getElem_cons_succ, List.getElem_cons_zero, List.setIfInBounds_toArray, List.set_cons_zero, List.set_cons_succ]
            refine wpAnyT_take (i := 19) (v := ?_) rfl (by decide +kernel) (by decide +kernel) (by decide +kernel) (by decide +kernel) (by decide +kernel) (fun _ _ _ h => h) (Or.inl ⟨by rfl, ?_⟩) (by assumption) ?_
            rotate_left
            · intro w hSw; (try dsimp only at hSw); first | (go_simp; done) | (go_simp; with_reducible rfl)
            try simp only [Act.put, List.getElem_toArray, List.getElem_cons_succ, List.getElem_cons_zero, List.setIfInBounds_toArray, List.set_cons_zero, List.set_cons_succ]
            refine wpAnyT_one (i := 21) (by kernel_rfl) rfl (fun K hK => ?_)
            go_simp
            (refine (srcN_any g _ _ hHeld.2.1 (by omega) (by omega)).mono ?_; rintro e w21 ⟨y21, y21a, y21b, rfl, hs21, hg21⟩)
            refine hK.out _ _ ?_ (fun hHeld2 => ?_)
            · (try dsimp only); exact ⟨(AnB.turn hHeld.2 hg21 hs21).tab, AnB.turn hHeld.2 hg21 hs21⟩
            clear hK K hHeld
            have hHeld := hHeld2
            clear hHeld2
            try simp only [Act.put, List.getElem_toArray, List.getElem_cons_succ, List.getElem_cons_zero, List.setIfInBounds_toArray, List.set_cons_zero, List.set_cons_succ]
            have HA : Hid (AnB g w.heap.size w w21 ∧ w.heap.size + 2 ≤ bb ∧ AnimBlk w21 bb 38 [.int .i64 0, .int .i64 0, .int .i64 0, .int .i64 0, .int .i64 0, .int .i64 0, .int .i64 0, .int .i64 0, .int .i64 0, .int .i64 0, .int .i64 0, .int .i64 0, .int .i64 0, .int .i64 0, .int .i64 0, .int .i64 0]) := ⟨AnB.turn HA.out.1 hg21 hs21, HA.out.2.1, blk_turn HA.out.2.2 hg21 HGL.out HA.out.2.1⟩
            clear hs21 hg21
            refine wpAnyT_take (i := 22) (v := .agg #[.int .i64 y1, .int .i64 y3, .int .i64 y5, .int .i64 (gz tabA i1), .int .i64 (gz tabA i2), .int .i64 y21, .int .i64 0, .int .i64 0, .int .i64 0, .int .i64 0, .int .i64 0, .int .i64 0, .int .i64 0, .int .i64 0, .int .i64 0, .int .i64 0]) rfl (by decide +kernel) (by decide +kernel) (by decide +kernel) (by decide +kernel) (by decide +kernel) (fun _ _ _ h => h) (Or.inl ⟨by rfl, fun w _ => build_anim rfl rfl rfl rfl rfl rfl w⟩) (by assumption) ?_
            try simp only [Act.put, List.getElem_toArray, List.getElem_cons_succ, List.getElem_cons_zero, List.setIfInBounds_toArray, List.set_cons_zero, List.set_cons_succ]
            refine wpAnyT_last (i := 24) (by kernel_rfl) (by kernel_rfl) rfl (by kernel_rfl) (fun K hK => ?_)
            refine step_store_anim0 (by rfl) _ _ (by rfl) _ ([.int .i64 y1, .int .i64 y3, .int .i64 y5, .int .i64 (gz tabA i1), .int .i64 (gz tabA i2), .int .i64 y21, .int .i64 0, .int .i64 0, .int .i64 0, .int .i64 0, .int .i64 0, .int .i64 0, .int .i64 0, .int .i64 0, .int .i64 0, .int .i64 0] : List Value) (by rfl) (by rfl) (by rfl) _ _ HA.out.2.2 (by simp [Value.oneCell']) ?_
            intro wz hAz hwz
            refine hK.out _ _ ?_
            clear hK K hHeld
            try simp only [Act.put, List.getElem_toArray, List.getElem_cons_succ, List.getElem_cons_zero, List.setIfInBounds_toArray, List.set_cons_zero, List.set_cons_succ]
            refine HK'.out _ _ (Met.intro (HJ.out _ _ ?_))
            (repeat apply Exists.intro)
            refine ⟨?_, rfl⟩
            exact ⟨_, rfl, by subst hwz; exact AnB.low HA.out.1 (below_fillL HA.out.2.1 _ _ _ (Below.refl _ _)) (Nat.le_refl _), HA.out.2.1, [y1, y3, y5, gz tabA i1, gz tabA i2, y21, 0, 0, 0, 0, 0, 0, 0, 0, 0, 0], rfl, hAz⟩
      ·
        go_simp
        refine hK.out _ _ ?_ (fun hHeld2 => ?_)
        · (try dsimp only); exact ⟨(AnB.alloc HW.out _).tab, AnB.alloc HW.out _⟩
        clear hK K hHeld
        have hHeld := hHeld2
        clear hHeld2
        try simp only [Act.put, List.getElem_toArray, List.getElem_cons_succ, List.getElem_cons_zero, List.setIfInBounds_toArray, List.set_cons_zero, List.set_cons_succ]
        as_aux_lemma =>
          have HA : Hid (AnB g w.heap.size w (w0.alloc (.cells #[.int .i64 0, .int .i64 0, .int .i64 0, .int .i64 0, .int .i64 0, .int .i64 0, .int .i64 0, .int .i64 0, .int .i64 0, .int .i64 0, .int .i64 0, .int .i64 0, .int .i64 0, .int .i64 0, .int .i64 0, .int .i64 0] 38)) ∧ w.heap.size + 2 ≤ w0.heap.size ∧ AnimBlk (w0.alloc (.cells #[.int .i64 0, .int .i64 0, .int .i64 0, .int .i64 0, .int .i64 0, .int .i64 0, .int .i64 0, .int .i64 0, .int .i64 0, .int .i64 0, .int .i64 0, .int .i64 0, .int .i64 0, .int .i64 0, .int .i64 0, .int .i64 0] 38)) w0.heap.size 38 [.int .i64 0, .int .i64 0, .int .i64 0, .int .i64 0, .int .i64 0, .int .i64 0, .int .i64 0, .int .i64 0, .int .i64 0, .int .i64 0, .int .i64 0, .int .i64 0, .int .i64 0, .int .i64 0, .int .i64 0, .int .i64 0]) := ⟨hHeld.2, HW.out.2.2.2.2.1, animBlk_new w0 [.int .i64 0, .int .i64 0, .int .i64 0, .int .i64 0, .int .i64 0, .int .i64 0, .int .i64 0, .int .i64 0, .int .i64 0, .int .i64 0, .int .i64 0, .int .i64 0, .int .i64 0, .int .i64 0, .int .i64 0, .int .i64 0] _ rfl⟩
          obtain ⟨bb, hbb⟩ : ∃ bb, w0.heap.size = bb := ⟨_, rfl⟩
          rw [hbb] at HA
          try rw [hbb]
          refine wpAnyT_one (i := 1) (by kernel_rfl) rfl (fun K hK => ?_)
          go_simp
          (refine (srcRange_any g _ _ _ hHeld.2.1 (by omega) (by omega) (by omega)).mono ?_; rintro e w1 ⟨y1, y1a, y1b, rfl, hs1, hg1⟩)
          refine hK.out _ _ ?_ (fun hHeld2 => ?_)
          · (try dsimp only); exact ⟨(AnB.turn hHeld.2 hg1 hs1).tab, AnB.turn hHeld.2 hg1 hs1⟩
          clear hK K hHeld
          have hHeld := hHeld2
          clear hHeld2
          try simp only [Act.put, List.getElem_toArray, List.getElem_cons_succ, List.getElem_cons_zero, List.setIfInBounds_toArray, List.set_cons_zero, List.set_cons_succ]
          have HA : Hid (AnB g w.heap.size w w1 ∧ w.heap.size + 2 ≤ bb ∧ AnimBlk w1 bb 38 [.int .i64 0, .int .i64 0, .int .i64 0, .int .i64 0, .int .i64 0, .int .i64 0, .int .i64 0, .int .i64 0, .int .i64 0, .int .i64 0, .int .i64 0, .int .i64 0, .int .i64 0, .int .i64 0, .int .i64 0, .int .i64 0]) := ⟨AnB.turn HA.out.1 hg1 hs1, HA.out.2.1, blk_turn HA.out.2.2 hg1 HGL.out HA.out.2.1⟩
          clear hs1 hg1
          refine wpAnyT_one (i := 3) (by kernel_rfl) rfl (fun K hK => ?_)
          go_simp
          (refine (srcN_any g _ _ hHeld.2.1 (by omega) (by omega)).mono ?_; rintro e w3 ⟨y3, y3a, y3b, rfl, hs3, hg3⟩)
          refine hK.out _ _ ?_ (fun hHeld2 => ?_)
          · (try dsimp only); exact ⟨(AnB.turn hHeld.2 hg3 hs3).tab, AnB.turn hHeld.2 hg3 hs3⟩
          clear hK K hHeld
          have hHeld := hHeld2
          clear hHeld2
          try simp only [Act.put, List.getElem_toArray, List.getElem_cons_succ, List.getElem_cons_zero, List.setIfInBounds_toArray, List.set_cons_zero, List.set_cons_succ]
          have HA : Hid (AnB g w.heap.size w w3 ∧ w.heap.size + 2 ≤ bb ∧ AnimBlk w3 bb 38 [.int .i64 0, .int .i64 0, .int .i64 0, .int .i64 0, .int .i64 0, .int .i64 0, .int .i64 0, .int .i64 0, .int .i64 0, .int .i64 0, .int .i64 0, .int .i64 0, .int .i64 0, .int .i64 0, .int .i64 0, .int .i64 0]) := ⟨AnB.turn HA.out.1 hg3 hs3, HA.out.2.1, blk_turn HA.out.2.2 hg3 HGL.out HA.out.2.1⟩
          clear hs3 hg3
          refine wpAnyT_one (i := 5) (by kernel_rfl) rfl (fun K hK => ?_)
          go_simp
          (refine (srcRange_any g _ _ _ hHeld.2.1 (by omega) (by omega) (by omega)).mono ?_; rintro e w5 ⟨y5, y5a, y5b, rfl, hs5, hg5⟩)
          refine hK.out _ _ ?_ (fun hHeld2 => ?_)
          · (try dsimp only); exact ⟨(AnB.turn hHeld.2 hg5 hs5).tab, AnB.turn hHeld.2 hg5 hs5⟩
          clear hK K hHeld
          have hHeld := hHeld2
          clear hHeld2
          try simp only [Act.put, List.getElem_toArray, List.getElem_cons_succ, List.getElem_cons_zero, List.setIfInBounds_toArray, List.set_cons_zero, List.set_cons_succ]
          have HA : Hid (AnB g w.heap.size w w5 ∧ w.heap.size + 2 ≤ bb ∧ AnimBlk w5 bb 38 [.int .i64 0, .int .i64 0, .int .i64 0, .int .i64 0, .int .i64 0, .int .i64 0, .int .i64 0, .int .i64 0, .int .i64 0, .int .i64 0, .int .i64 0, .int .i64 0, .int .i64 0, .int .i64 0, .int .i64 0, .int .i64 0]) := ⟨AnB.turn HA.out.1 hg5 hs5, HA.out.2.1, blk_turn HA.out.2.2 hg5 HGL.out HA.out.2.1⟩
          clear hs5 hg5
          refine wpAnyT_one (i := 10) (by kernel_rfl) rfl (fun K hK => ?_)
          go_simp
          (refine (srcN_any g _ _ hHeld.2.1 (by omega) (by omega)).mono ?_; rintro e w10 ⟨y10, y10a, y10b, rfl, hs10, hg10⟩; obtain ⟨i1, rfl⟩ := Int.eq_ofNat_of_zero_le y10a; have jji1 : ((i1 : Nat) : Int) < 9 := Int.lt_of_le_of_lt y10b (by decide); have ji1 : i1 < 9 := Int.ofNat_lt.1 jji1)
          refine hK.out _ _ ?_ (fun hHeld2 => ?_)
          · (try dsimp only); exact ⟨(AnB.turn hHeld.2 hg10 hs10).tab, AnB.turn hHeld.2 hg10 hs10⟩
          clear hK K hHeld
          have hHeld := hHeld2
          clear hHeld2
          try simp only [Act.put, List.getElem_toArray, List.getElem_cons_succ, List.getElem_cons_zero, List.setIfInBounds_toArray, List.set_cons_zero, List.set_cons_succ]
          have HA : Hid (AnB g w.heap.size w w10 ∧ w.heap.size + 2 ≤ bb ∧ AnimBlk w10 bb 38 [.int .i64 0, .int .i64 0, .int .i64 0, .int .i64 0, .int .i64 0, .int .i64 0, .int .i64 0, .int .i64 0, .int .i64 0, .int .i64 0, .int .i64 0, .int .i64 0, .int .i64 0, .int .i64 0, .int .i64 0, .int .i64 0]) := ⟨AnB.turn HA.out.1 hg10 hs10, HA.out.2.1, blk_turn HA.out.2.2 hg10 HGL.out HA.out.2.1⟩
          clear hs10 hg10
          refine wpAnyT_take (i := 11) (v := ?_) rfl (by decide +kernel) (by decide +kernel) (by decide +kernel) (by decide +kernel) (by decide +kernel) (fun _ _ _ h => h) (Or.inl ⟨by rfl, ?_⟩) (by assumption) ?_
          rotate_left
          · intro w hSw; (try dsimp only at hSw); first | (go_simp; done) | (go_simp; with_reducible rfl)
          try simp only [Act.put, List.getElem_toArray, List.getElem_cons_succ, List.getElem_cons_zero, List.setIfInBounds_toArray, List.set_cons_zero, List.set_cons_succ]
          refine wpAnyT_take (i := 12) (v := ?_) rfl (by decide +kernel) (by decide +kernel) (by decide +kernel) (by decide +kernel) (by decide +kernel) (fun _ _ _ h => h) (Or.inl ⟨by rfl, ?_⟩) (by assumption) ?_
          rotate_left
          · intro w hSw; (try dsimp only at hSw); first | (go_simp; done) | (go_simp; with_reducible rfl)
          try simp only [Act.put, List.getElem_toArray, List.getElem_cons_succ, List.getElem_cons_zero, List.setIfInBounds_toArray, List.set_cons_zero, List.set_cons_succ]
          refine wpAnyT_one (i := 17) (by kernel_rfl) rfl (fun K hK => ?_)
          go_simp
          (refine (srcN_any g _ _ hHeld.2.1 (by omega) (by omega)).mono ?_; rintro e w17 ⟨y17, y17a, y17b, rfl, hs17, hg17⟩; obtain ⟨i2, rfl⟩ := Int.eq_ofNat_of_zero_le y17a; have jji2 : ((i2 : Nat) : Int) < 9 := Int.lt_of_le_of_lt y17b (by decide); have ji2 : i2 < 9 := Int.ofNat_lt.1 jji2)
          refine hK.out _ _ ?_ (fun hHeld2 => ?_)
          · (try dsimp only); exact ⟨(AnB.turn hHeld.2 hg17 hs17).tab, AnB.turn hHeld.2 hg17 hs17⟩
          clear hK K hHeld
          have hHeld := hHeld2
          clear hHeld2
          try simp only [Act.put, List.getElem_toArray, List.getElem_cons_succ, List.getElem_cons_zero, List.setIfInBounds_toArray, List.set_cons_zero, List.set_cons_succ]
          have HA : Hid (AnB g w.heap.size w w17 ∧ w.heap.size + 2 ≤ bb ∧ AnimBlk w17 bb 38 [.int .i64 0, .int .i64 0, .int .i64 0, .int .i64 0, .int .i64 0, .int .i64 0, .int .i64 0, .int .i64 0, .int .i64 0, .int .i64 0, .int .i64 0, .int .i64 0, .int .i64 0, .int .i64 0, .int .i64 0, .int .i64 0]) := ⟨AnB.turn HA.out.1 hg17 hs17, HA.out.2.1, blk_turn HA.out.2.2 hg17 HGL.out HA.out.2.1⟩
          clear hs17 hg17
          refine wpAnyT_take (i := 18) (v := ?_) rfl (by decide +kernel) (by decide +kernel) (by decide +kernel) (by decide +kernel) (by decide +kernel) (fun _ _ _ h => h) (Or.inl ⟨by rfl, ?_⟩) (by assumption) ?_
          rotate_left
          · intro w hSw; (try dsimp only at hSw); first | (go_simp; done) | (go_simp; with_reducible rfl)
          try simp only [Act.put, List.getElem_toArray, List.getElem_cons_succ, List.getElem_cons_zero, List.setIfInBounds_toArray, List.set_cons_zero, List.set_cons_succ]
          refine wpAnyT_take (i := 19) (v := ?_) rfl (by decide +kernel) (by decide +kernel) (by decide +kernel) (by decide +kernel) (by decide +kernel) (fun _ _ _ h => h) (Or.inl ⟨by rfl, ?_⟩) (by assumption) ?_
          rotate_left
          · intro w hSw; (try dsimp only at hSw); first | (go_simp; done) | (go_simp; with_reducible rfl)
          try simp only [Act.put, List.getElem_toArray, List.getElem_cons_succ, List.getElem_cons_zero, List.setIfInBounds_toArray, List.set_cons_zero, List.set_cons_succ]
          refine wpAnyT_one (i := 21) (by kernel_rfl) rfl (fun K hK => ?_)
          go_simp
          (refine (srcN_any g _ _ hHeld.2.1 (by omega) (by omega)).mono ?_; rintro e w21 ⟨y21, y21a, y21b, rfl, hs21, hg21⟩)
          refine hK.out _ _ ?_ (fun hHeld2 => ?_)
          · (try dsimp only); exact ⟨(AnB.turn hHeld.2 hg21 hs21).tab, AnB.turn hHeld.2 hg21 hs21⟩
          clear hK K hHeld
          have hHeld := hHeld2
          clear hHeld2
          try simp only [Act.put, List.getElem_toArray, List.getElem_cons_succ, List.getElem_cons_zero, List.setIfInBounds_toArray, List.set_cons_zero, List.set_cons_succ]
          have HA : Hid (AnB g w.heap.size w w21 ∧ w.heap.size + 2 ≤ bb ∧ AnimBlk w21 bb 38 [.int .i64 0, .int .i64 0, .int .i64 0, .int .i64 0, .int .i64 0, .int .i64 0, .int .i64 0, .int .i64 0, .int .i64 0, .int .i64 0, .int .i64 0, .int .i64 0, .int .i64 0, .int .i64 0, .int .i64 0, .int .i64 0]) := ⟨AnB.turn HA.out.1 hg21 hs21, HA.out.2.1, blk_turn HA.out.2.2 hg21 HGL.out HA.out.2.1⟩
          clear hs21 hg21
          refine wpAnyT_take (i := 22) (v := .agg #[.int .i64 y1, .int .i64 y3, .int .i64 y5, .int .i64 (gz tabA i1), .int .i64 (gz tabA i2), .int .i64 y21, .int .i64 0, .int .i64 0, .int .i64 0, .int .i64 0, .int .i64 0, .int .i64 0, .int .i64 0, .int .i64 0, .int .i64 0, .int .i64 0]) rfl (by decide +kernel) (by decide +kernel) (by decide +kernel) (by decide +kernel) (by decide +kernel) (fun _ _ _ h => h) (Or.inl ⟨by rfl, fun w _ => build_anim rfl rfl rfl rfl rfl rfl w⟩) (by assumption) ?_
          try simp only [Act.put, List.getElem_toArray, List.getElem_cons_succ, List.getElem_cons_zero, List.setIfInBounds_toArray, List.set_cons_zero, List.set_cons_succ]
          refine wpAnyT_last (i := 24) (by kernel_rfl) (by kernel_rfl) rfl (by kernel_rfl) (fun K hK => ?_)
          refine step_store_anim0 (by rfl) _ _ (by rfl) _ ([.int .i64 y1, .int .i64 y3, .int .i64 y5, .int .i64 (gz tabA i1), .int .i64 (gz tabA i2), .int .i64 y21, .int .i64 0, .int .i64 0, .int .i64 0, .int .i64 0, .int .i64 0, .int .i64 0, .int .i64 0, .int .i64 0, .int .i64 0, .int .i64 0] : List Value) (by rfl) (by rfl) (by rfl) _ _ HA.out.2.2 (by simp [Value.oneCell']) ?_
          intro wz hAz hwz
          refine hK.out _ _ ?_
          clear hK K hHeld
          try simp only [Act.put, List.getElem_toArray, List.getElem_cons_succ, List.getElem_cons_zero, List.setIfInBounds_toArray, List.set_cons_zero, List.set_cons_succ]
          refine HK'.out _ _ (Met.intro (HJ.out _ _ ?_))
          (repeat apply Exists.intro)
          refine ⟨?_, rfl⟩
          exact ⟨_, rfl, by subst hwz; exact AnB.low HA.out.1 (below_fillL HA.out.2.1 _ _ _ (Below.refl _ _)) (Nat.le_refl _), HA.out.2.1, [y1, y3, y5, gz tabA i1, gz tabA i2, y21, 0, 0, 0, 0, 0, 0, 0, 0, 0, 0], rfl, hAz⟩
  case rest =>
    obtain ⟨b, rfl, hZ⟩ := hcut
    obtain ⟨wa, rfl⟩ : ∃ x : World, x = wc := ⟨_, rfl⟩
    have HZ := Lib.hid hZ
    have hbg : g ≠ b := by have := hZ.2.1; have := HGL.out; omega
    clear hZ HE1
    go_upto_region 3 with fail
    go_cut [] (fun wx => AnZ g w.heap.size b w wx)
    case first =>
      as_aux_lemma =>
        go_wp2_with (refine lit6 ?_)
        have HZ2 : Hid (AnZ g w.heap.size b w (wa.alloc (.cells #[.int .i64 1, .int .i64 2, .int .i64 10, .int .i64 100, .int .i64 400, .int .i64 1000] 3))) := HZ.out.alloc _
        have hct : ∀ i, i < 6 → ∃ z : Int, (wa.alloc (.cells #[.int .i64 1, .int .i64 2, .int .i64 10, .int .i64 100, .int .i64 400, .int .i64 1000] 3)).cell? ⟨wa.heap.size, i, none⟩ = some (.int .i64 z) := fun i hi => by
          rw [cell_of_row _ _ i _ _ (0, 0) (heap_alloc_new wa _)]
          have h6 : i = 0 ∨ i = 1 ∨ i = 2 ∨ i = 3 ∨ i = 4 ∨ i = 5 := by omega
          rcases h6 with rfl | rfl | rfl | rfl | rfl | rfl <;> exact ⟨_, rfl⟩
        have hgw : g ≠ wa.heap.size := by have := HZ.out.1.1.lt; omega
        have HCT := Lib.hid hct
        clear hct
        refine (srcN_any g _ _ HZ2.out.1.1 (by omega) (by omega)).mono ?_
        rintro e w3 ⟨y, ya, yb, rfl, hs3, hg3⟩
        obtain ⟨i, rfl⟩ := Int.eq_ofNat_of_zero_le ya
        have j2 : ((i : Nat) : Int) < 6 := Int.lt_of_le_of_lt yb (by decide)
        have j3 : i < 6 := Int.ofNat_lt.1 j2
        obtain ⟨z, hz⟩ := HCT.out i j3
        have hz3 : w3.cell? ⟨wa.heap.size, i, none⟩ = some (.int .i64 z) := hg3.cell hz (by simpa using fun e => hgw e.symm)
        have HZ3 : Hid (AnZ g w.heap.size b w w3) := HZ2.out.turn hg3 hs3
        clear hz hs3 hg3 HZ2 HCT
        obtain ⟨z6, x6⟩ := HZ3.out.cellx 6 (by omega)
        have u6 := HZ3.out.free 6
        have hltw3 := HZ3.out.lt
        go_wp2_with fail
        go_meet
        exact HZ3.out.set 6 _
    case rest =>
      obtain ⟨wb, rfl⟩ : ∃ x : World, x = wc := ⟨_, rfl⟩
      have HZB := Lib.hid hcut
      clear hcut HZ
      go_upto_region 4 with fail
      go_cut [] (fun wx => AnZ g w.heap.size b w wx)
      case first =>
        as_aux_lemma =>
          go_wp2_with fail
          refine (srcN_any g _ _ HZB.out.1.1 (by omega) (by omega)).mono ?_
          rintro e w37 ⟨y37, y37a, y37b, rfl, hs, hg⟩
          have HZ37 : Hid (AnZ g w.heap.size b w w37) := HZB.out.turn hg hs
          clear hs hg
          go_wp2_with fail
          refine (srcRange_any g _ _ _ HZ37.out.1.1 (by omega) (by omega) (by omega)).mono ?_
          rintro e w39 ⟨y39, y39a, y39b, rfl, hs, hg⟩
          have HZ39 : Hid (AnZ g w.heap.size b w w39) := HZ37.out.turn hg hs
          clear hs hg
          go_wp2_with fail
          refine (srcN_any g _ _ HZ39.out.1.1 (by omega) (by omega)).mono ?_
          rintro e w41 ⟨y41, y41a, y41b, rfl, hs, hg⟩
          have HZ41 : Hid (AnZ g w.heap.size b w w41) := HZ39.out.turn hg hs
          clear hs hg
          go_wp2_with fail
          refine (srcRange_any g _ _ _ HZ41.out.1.1 (by omega) (by omega) (by omega)).mono ?_
          rintro e w43 ⟨y43, y43a, y43b, rfl, hs, hg⟩
          have HZ43 : Hid (AnZ g w.heap.size b w w43) := HZ41.out.turn hg hs
          clear hs hg
          obtain ⟨z7, x7⟩ := HZ43.out.cellx 7 (by omega)
          have u7 := HZ43.out.free 7
          obtain ⟨z8, x8⟩ := HZ43.out.cellx 8 (by omega)
          have u8 := HZ43.out.free 8
          obtain ⟨z9, x9⟩ := HZ43.out.cellx 9 (by omega)
          have u9 := HZ43.out.free 9
          obtain ⟨z10, x10⟩ := HZ43.out.cellx 10 (by omega)
          have u10 := HZ43.out.free 10
          have hltw43 := HZ43.out.lt
          go_wp2_with fail
          go_meet
          exact (((HZ43.out.set 7 _).set 8 _).set 9 _).set 10 _
      case rest =>
        obtain ⟨wd, rfl⟩ : ∃ x : World, x = wc := ⟨_, rfl⟩
        have HZD := Lib.hid hcut
        clear hcut HZB
        go_wp2_with fail
        refine (srcN_any g _ _ HZD.out.1.1 (by omega) (by omega)).mono ?_
        rintro e w47 ⟨y47, y47a, y47b, rfl, hs, hg⟩
        have HZ47 : Hid (AnZ g w.heap.size b w w47) := HZD.out.turn hg hs
        clear hs hg HZD
        go_upto_if 48 with fail
        go_cut [] (fun wx => AnZ g w.heap.size b w wx)
        case first =>
          as_aux_lemma =>
            by_cases h47 : y47 = 0
            · have f47 : (y47 == 0) = true := by simpa using h47
              obtain ⟨z7, x7⟩ := HZ47.out.cellx 7 (by omega)
              have u7 := HZ47.out.free 7
              obtain ⟨z8, x8⟩ := HZ47.out.cellx 8 (by omega)
              have u8 := HZ47.out.free 8
              obtain ⟨z9, x9⟩ := HZ47.out.cellx 9 (by omega)
              have u9 := HZ47.out.free 9
              obtain ⟨z10, x10⟩ := HZ47.out.cellx 10 (by omega)
              have u10 := HZ47.out.free 10
              have hltw47 := HZ47.out.lt
              go_wp2_with fail
              go_meet
              exact (((HZ47.out.set 7 _).set 8 _).set 9 _).set 10 _
            · have f47 : (y47 == 0) = false := by simpa using h47
              go_wp2_with fail
              go_meet
              exact HZ47.out
        case rest =>
          obtain ⟨wf, rfl⟩ : ∃ x : World, x = wc := ⟨_, rfl⟩
          have HZF := Lib.hid hcut
          clear hcut HZ47
          go_upto_region 7 with fail
          go_cut [] (fun wx => AnZ g w.heap.size b w wx)
          case first =>
            as_aux_lemma =>
              go_wp2_with fail
              refine (srcRange_any g _ _ _ HZF.out.1.1 (by omega) (by omega) (by omega)).mono ?_
              rintro e w52 ⟨y52, y52a, y52b, rfl, hs, hg⟩
              have HZ52 : Hid (AnZ g w.heap.size b w w52) := HZF.out.turn hg hs
              clear hs hg
              go_wp2_with fail
              refine (srcRange_any g _ _ _ HZ52.out.1.1 (by omega) (by omega) (by omega)).mono ?_
              rintro e w54 ⟨y54, y54a, y54b, rfl, hs, hg⟩
              have HZ54 : Hid (AnZ g w.heap.size b w w54) := HZ52.out.turn hg hs
              clear hs hg
              obtain ⟨z11, x11⟩ := HZ54.out.cellx 11 (by omega)
              have u11 := HZ54.out.free 11
              obtain ⟨z12, x12⟩ := HZ54.out.cellx 12 (by omega)
              have u12 := HZ54.out.free 12
              have hltw54 := HZ54.out.lt
              go_wp2_with fail
              go_meet
              exact (HZ54.out.set 11 _).set 12 _
          case rest =>
            obtain ⟨wg, rfl⟩ : ∃ x : World, x = wc := ⟨_, rfl⟩
            have HZG := Lib.hid hcut
            clear hcut HZF
            go_upto_region 8 with fail
            go_cut [] (fun wx => AnZ g w.heap.size b w wx)
            case first =>
              as_aux_lemma =>
                obtain ⟨z3, x3⟩ := HZG.out.cellx 3 (by omega)
                obtain ⟨z5, x5⟩ := HZG.out.cellx 5 (by omega)
                refine wp_region_T (S := (fun w' => w'.cell? ⟨b, 3, none⟩ = some (.int .i64 z3) ∧ w'.cell? ⟨b, 5, none⟩ = some (.int .i64 z5) ∧ AnZ g w.heap.size b w w')) 15 (by kernel_rfl) (⟨x3, x5, HZG.out.drew⟩) (fun hHeld => ?_)
                clear HZG x3 x5
                refine wpAnyT_take (i := 0) (v := ?_) rfl (by decide +kernel) (by decide +kernel) (by decide +kernel) (by decide +kernel) (by decide +kernel) (fun _ _ _ h => h) (Or.inl ⟨by rfl, ?_⟩) (by assumption) ?_
                rotate_left
                · intro w hSw; (try dsimp only at hSw); first | (go_simp; done) | (go_simp; with_reducible rfl)
                try simp only [Act.put, List.getElem_toArray, List.getElem_cons_succ, List.getElem_cons_zero, List.setIfInBounds_toArray, List.set_cons_zero, List.set_cons_succ]
                refine wpAnyT_take (i := 1) (v := ?_) rfl (by decide +kernel) (by decide +kernel) (by decide +kernel) (by decide +kernel) (by decide +kernel) (fun _ _ _ h => h) (Or.inl ⟨by rfl, ?_⟩) (by assumption) ?_
                rotate_left
                · intro w hSw; (try dsimp only at hSw); first | (go_simp; done) | (go_simp; with_reducible rfl)
                try simp only [Act.put, List.getElem_toArray, List.getElem_cons_succ, List.getElem_cons_zero, List.setIfInBounds_toArray, List.set_cons_zero, List.set_cons_succ]
                refine wpAnyT_take (i := 2) (v := ?_) rfl (by decide +kernel) (by decide +kernel) (by decide +kernel) (by decide +kernel) (by decide +kernel) (fun _ _ _ h => h) (Or.inl ⟨by rfl, ?_⟩) (by assumption) ?_
                rotate_left
                · intro w hSw; (try dsimp only at hSw); first | (go_simp; done) | (go_simp; with_reducible rfl)
                try simp only [Act.put, List.getElem_toArray, List.getElem_cons_succ, List.getElem_cons_zero, List.setIfInBounds_toArray, List.set_cons_zero, List.set_cons_succ]
                refine wpAnyT_take (i := 3) (v := ?_) rfl (by decide +kernel) (by decide +kernel) (by decide +kernel) (by decide +kernel) (by decide +kernel) (fun _ _ _ h => h) (Or.inl ⟨by rfl, ?_⟩) (by assumption) ?_
                rotate_left
                · intro w hSw; (try dsimp only at hSw); first | (go_simp; done) | (go_simp; with_reducible rfl)
                try simp only [Act.put, List.getElem_toArray, List.getElem_cons_succ, List.getElem_cons_zero, List.setIfInBounds_toArray, List.set_cons_zero, List.set_cons_succ]
                refine wpAnyT_take (i := 5) (v := ?_) rfl (by decide +kernel) (by decide +kernel) (by decide +kernel) (by decide +kernel) (by decide +kernel) (fun _ _ _ h => h) (Or.inl ⟨by rfl, ?_⟩) (by assumption) ?_
                rotate_left
                · intro w hSw; (try dsimp only at hSw); first | (go_simp; done) | (go_simp; with_reducible rfl)
                try simp only [Act.put, List.getElem_toArray, List.getElem_cons_succ, List.getElem_cons_zero, List.setIfInBounds_toArray, List.set_cons_zero, List.set_cons_succ]
                refine wpAnyT_take (i := 6) (v := ?_) rfl (by decide +kernel) (by decide +kernel) (by decide +kernel) (by decide +kernel) (by decide +kernel) (fun _ _ _ h => h) (Or.inl ⟨by rfl, ?_⟩) (by assumption) ?_
                rotate_left
                · intro w hSw; (try dsimp only at hSw); first | (go_simp; done) | (go_simp; with_reducible rfl)
                try simp only [Act.put, List.getElem_toArray, List.getElem_cons_succ, List.getElem_cons_zero, List.setIfInBounds_toArray, List.set_cons_zero, List.set_cons_succ]
                refine wpAnyT_take (i := 7) (v := ?_) rfl (by decide +kernel) (by decide +kernel) (by decide +kernel) (by decide +kernel) (by decide +kernel) (fun _ _ _ h => h) (Or.inl ⟨by rfl, ?_⟩) (by assumption) ?_
                rotate_left
                · intro w hSw; (try dsimp only at hSw); first | (go_simp; done) | (go_simp; with_reducible rfl)
                try simp only [Act.put, List.getElem_toArray, List.getElem_cons_succ, List.getElem_cons_zero, List.setIfInBounds_toArray, List.set_cons_zero, List.set_cons_succ]
                refine wpAnyT_take (i := 10) (v := ?_) rfl (by decide +kernel) (by decide +kernel) (by decide +kernel) (by decide +kernel) (by decide +kernel) (fun _ _ _ h => h) (Or.inl ⟨by rfl, ?_⟩) (by assumption) ?_
                rotate_left
                · intro w hSw; (try dsimp only at hSw); first | (go_simp; done) | (go_simp; with_reducible rfl)
                try simp only [Act.put, List.getElem_toArray, List.getElem_cons_succ, List.getElem_cons_zero, List.setIfInBounds_toArray, List.set_cons_zero, List.set_cons_succ]
                refine wpAnyT_one (i := 4) (by kernel_rfl) rfl (fun K hK => ?_)
                go_simp
                (refine (srcRange_any g _ _ _ hHeld.2.2.1.1 (by omega) (by omega) (by omega)).mono ?_; rintro e w4 ⟨y4, y4a, y4b, rfl, hs4, hg4⟩)
                refine hK.out _ _ ?_ (fun hHeld2 => ?_)
                · (try dsimp only); exact ⟨hg4.cell hHeld.1 (by simpa using fun e => hbg e.symm), hg4.cell hHeld.2.1 (by simpa using fun e => hbg e.symm), hHeld.2.2.turn hg4 hs4⟩
                clear hK K hHeld
                have hHeld := hHeld2
                clear hHeld2
                try simp only [Act.put, List.getElem_toArray, List.getElem_cons_succ, List.getElem_cons_zero, List.setIfInBounds_toArray, List.set_cons_zero, List.set_cons_succ]
                clear hs4 hg4
                refine wpAnyT_one (i := 8) (by kernel_rfl) rfl (fun K hK => ?_)
                go_simp
                (refine (srcN_any g _ _ hHeld.2.2.1.1 (by omega) (by omega)).mono ?_; rintro e w8 ⟨y8, y8a, y8b, rfl, hs8, hg8⟩)
                refine hK.out _ _ ?_ (fun hHeld2 => ?_)
                · (try dsimp only); exact ⟨hg8.cell hHeld.1 (by simpa using fun e => hbg e.symm), hg8.cell hHeld.2.1 (by simpa using fun e => hbg e.symm), hHeld.2.2.turn hg8 hs8⟩
                clear hK K hHeld
                have hHeld := hHeld2
                clear hHeld2
                try simp only [Act.put, List.getElem_toArray, List.getElem_cons_succ, List.getElem_cons_zero, List.setIfInBounds_toArray, List.set_cons_zero, List.set_cons_succ]
                clear hs8 hg8
                refine wpAnyT_take (i := 9) (v := ?_) rfl (by decide +kernel) (by decide +kernel) (by decide +kernel) (by decide +kernel) (by decide +kernel) (fun _ _ _ h => h) (Or.inl ⟨by rfl, ?_⟩) (by assumption) ?_
                rotate_left
                · intro w hSw; (try dsimp only at hSw); first | (go_simp; done) | (go_simp; with_reducible rfl)
                try simp only [Act.put, List.getElem_toArray, List.getElem_cons_succ, List.getElem_cons_zero, List.setIfInBounds_toArray, List.set_cons_zero, List.set_cons_succ]
                have HZ8 := Lib.hid hHeld.2.2
                obtain ⟨z13, x13⟩ := HZ8.out.cellx 13 (by omega)
                have u13 := HZ8.out.free 13
                obtain ⟨z14, x14⟩ := HZ8.out.cellx 14 (by omega)
                have u14 := HZ8.out.free 14
                obtain ⟨z15, x15⟩ := HZ8.out.cellx 15 (by omega)
                have u15 := HZ8.out.free 15
                have hltw8 := HZ8.out.lt
                refine wpAnyT_one (i := 11) (by kernel_rfl) rfl (fun K hK => ?_)
                go_simp
                refine hK.out _ _ ?_ (fun hHeld2 => ?_)
                · (try dsimp only); exact ⟨by rw [World.cell?_setCell_other _ _ _ _ (by simp)]; exact hHeld.1, by rw [World.cell?_setCell_other _ _ _ _ (by simp)]; exact hHeld.2.1, HZ8.out.set 13 _⟩
                clear hK K hHeld
                have hHeld := hHeld2
                clear hHeld2
                try simp only [Act.put, List.getElem_toArray, List.getElem_cons_succ, List.getElem_cons_zero, List.setIfInBounds_toArray, List.set_cons_zero, List.set_cons_succ]
                refine wpAnyT_take (i := 12) (v := ?_) rfl (by decide +kernel) (by decide +kernel) (by decide +kernel) (by decide +kernel) (by decide +kernel) (fun _ _ _ h => h) (Or.inl ⟨by rfl, ?_⟩) (by assumption) ?_
                rotate_left
                · intro w hSw; (try dsimp only at hSw); first | (go_simp; done) | (go_simp; with_reducible rfl)
                try simp only [Act.put, List.getElem_toArray, List.getElem_cons_succ, List.getElem_cons_zero, List.setIfInBounds_toArray, List.set_cons_zero, List.set_cons_succ]
                refine wpAnyT_one (i := 13) (by kernel_rfl) rfl (fun K hK => ?_)
                go_simp
                refine hK.out _ _ ?_ (fun hHeld2 => ?_)
                · (try dsimp only); exact ⟨by rw [World.cell?_setCell_other _ _ _ _ (by simp)]; exact hHeld.1, by rw [World.cell?_setCell_other _ _ _ _ (by simp)]; exact hHeld.2.1, (HZ8.out.set 13 _).set 14 _⟩
                clear hK K hHeld
                have hHeld := hHeld2
                clear hHeld2
                try simp only [Act.put, List.getElem_toArray, List.getElem_cons_succ, List.getElem_cons_zero, List.setIfInBounds_toArray, List.set_cons_zero, List.set_cons_succ]
                refine wpAnyT_take (i := 14) (v := ?_) rfl (by decide +kernel) (by decide +kernel) (by decide +kernel) (by decide +kernel) (by decide +kernel) (fun _ _ _ h => h) (Or.inl ⟨by rfl, ?_⟩) (by assumption) ?_
                rotate_left
                · intro w hSw; (try dsimp only at hSw); first | (go_simp; done) | (go_simp; with_reducible rfl)
                try simp only [Act.put, List.getElem_toArray, List.getElem_cons_succ, List.getElem_cons_zero, List.setIfInBounds_toArray, List.set_cons_zero, List.set_cons_succ]
                refine wpAnyT_last (i := 15) (by kernel_rfl) (by kernel_rfl) rfl (by kernel_rfl) (fun K hK => ?_)
                go_simp
                refine hK.out _ _ ?_
                clear hK K
                try simp only [Act.put, List.getElem_toArray, List.getElem_cons_succ, List.getElem_cons_zero, List.setIfInBounds_toArray, List.set_cons_zero, List.set_cons_succ]
                clear hHeld
                go_wp2
                go_meet
                exact ((HZ8.out.set 13 _).set 14 _).set 15 _
            case rest =>
              obtain ⟨wh, rfl⟩ : ∃ x : World, x = wc := ⟨_, rfl⟩
              have HZH := Lib.hid hcut
              clear hcut HZG
              go_wp2_with fail
              refine (srcChance_any g _ _ HZH.out.1.1 (by omega) (by omega)).mono ?_
              rintro e w71 ⟨c71, rfl, hs, hg⟩
              have HZ71 : Hid (AnZ g w.heap.size b w w71) := HZH.out.turn hg hs
              clear hs hg HZH
              go_upto_if 71 with fail
              go_cut [] (fun wx => AnZ g w.heap.size b w wx)
              case first =>
                as_aux_lemma =>
                  cases c71
                  · go_wp2_with fail
                    go_meet
                    exact HZ71.out
                  · go_wp2_with fail
                    refine (srcRaw_any g _ HZ71.out.1.1).mono ?_
                    rintro e w73 ⟨y73, y73a, y73b, rfl, hs, hg⟩
                    have HZ73 : Hid (AnZ g w.heap.size b w w73) := HZ71.out.turn hg hs
                    clear hs hg HZ71
                    go_wp2_with fail
                    refine (srcN_any g _ _ HZ73.out.1.1 (by omega) (by omega)).mono ?_
                    rintro e w75 ⟨y75, y75a, y75b, rfl, hs, hg⟩
                    have HZ75 : Hid (AnZ g w.heap.size b w w75) := HZ73.out.turn hg hs
                    clear hs hg HZ73
                    have h6 : y75 = 0 ∨ y75 = 1 ∨ y75 = 2 ∨ y75 = 3 ∨ y75 = 4 ∨ y75 = 5 := by omega
                    clear y75a y75b y73a y73b
                    rcases h6 with rfl | rfl | rfl | rfl | rfl | rfl
                    · obtain ⟨z2, x2⟩ := HZ75.out.cellx 2 (by omega)
                      have u2 := HZ75.out.free 2
                      have hltw75 := HZ75.out.lt
                      go_wp2_with fail
                      go_meet
                      exact HZ75.out.set 2 _
                    · obtain ⟨z4, x4⟩ := HZ75.out.cellx 4 (by omega)
                      have u4 := HZ75.out.free 4
                      have hltw75 := HZ75.out.lt
                      go_wp2_with fail
                      go_meet
                      exact HZ75.out.set 4 _
                    · obtain ⟨z13, x13⟩ := HZ75.out.cellx 13 (by omega)
                      have u13 := HZ75.out.free 13
                      have hltw75 := HZ75.out.lt
                      go_wp2_with fail
                      go_meet
                      exact HZ75.out.set 13 _
                    · obtain ⟨z14, x14⟩ := HZ75.out.cellx 14 (by omega)
                      have u14 := HZ75.out.free 14
                      have hltw75 := HZ75.out.lt
                      go_wp2_with fail
                      go_meet
                      exact HZ75.out.set 14 _
                    · obtain ⟨z15, x15⟩ := HZ75.out.cellx 15 (by omega)
                      have u15 := HZ75.out.free 15
                      have hltw75 := HZ75.out.lt
                      go_wp2_with fail
                      go_meet
                      exact HZ75.out.set 15 _
                    · obtain ⟨z6, x6⟩ := HZ75.out.cellx 6 (by omega)
                      have u6 := HZ75.out.free 6
                      obtain ⟨z12, x12⟩ := HZ75.out.cellx 12 (by omega)
                      have u12 := HZ75.out.free 12
                      have hltw75 := HZ75.out.lt
                      go_wp2_with fail
                      go_meet
                      exact (HZ75.out.set 6 _).set 12 _
              case rest =>
                obtain ⟨wi, rfl⟩ : ∃ x : World, x = wc := ⟨_, rfl⟩
                have HZI := Lib.hid hcut
                clear hcut HZ71
                as_aux_lemma =>
                  obtain ⟨hI1, hI2, l, hl16, hI3⟩ := HZI.out
                  have HI1 := Lib.hid hI1
                  clear hI1 HZI
                  match l, hl16 with
                  | [e0, e1, e2, e3, e4, e5, e6, e7, e8, e9, e10, e11, e12, e13, e14, e15], _ =>
                  have HI3 : Hid (AnimBlk wi b 38 [.int .i64 e0, .int .i64 e1, .int .i64 e2, .int .i64 e3, .int .i64 e4, .int .i64 e5, .int .i64 e6, .int .i64 e7, .int .i64 e8, .int .i64 e9, .int .i64 e10, .int .i64 e11, .int .i64 e12, .int .i64 e13, .int .i64 e14, .int .i64 e15]) := hI3
                  clear hI3 hl16
                  go_wp2_with (first | (refine load_anim rfl _ rfl b rfl _ _ HI3.out ?_) | (refine store_anim rfl _ _ rfl w.heap.size [.int .i64 e0, .int .i64 e1, .int .i64 e2, .int .i64 e3, .int .i64 e4, .int .i64 e5, .int .i64 e6, .int .i64 e7, .int .i64 e8, .int .i64 e9, .int .i64 e10, .int .i64 e11, .int .i64 e12, .int .i64 e13, .int .i64 e14, .int .i64 e15] rfl rfl rfl _ _ HI1.out.2.2.1 (by simp [Value.oneCell']) ?_; intro wj hA5 hb5))
                  have HB5 := Lib.hid (hb5 _ (Nat.le_refl _))
                  have HA5 := Lib.hid hA5
                  clear hb5 hA5
                  have r0 : wj.cell? ⟨w.heap.size, 0, none⟩ = some (.int .i64 e0) := (HA5.out.cell 0).trans rfl
                  have r1 : wj.cell? ⟨w.heap.size, 1, none⟩ = some (.int .i64 e1) := (HA5.out.cell 1).trans rfl
                  have r2 : wj.cell? ⟨w.heap.size, 2, none⟩ = some (.int .i64 e2) := (HA5.out.cell 2).trans rfl
                  have r3 : wj.cell? ⟨w.heap.size, 3, none⟩ = some (.int .i64 e3) := (HA5.out.cell 3).trans rfl
                  have r4 : wj.cell? ⟨w.heap.size, 4, none⟩ = some (.int .i64 e4) := (HA5.out.cell 4).trans rfl
                  have r5 : wj.cell? ⟨w.heap.size, 5, none⟩ = some (.int .i64 e5) := (HA5.out.cell 5).trans rfl
                  have r6 : wj.cell? ⟨w.heap.size, 6, none⟩ = some (.int .i64 e6) := (HA5.out.cell 6).trans rfl
                  have r7 : wj.cell? ⟨w.heap.size, 7, none⟩ = some (.int .i64 e7) := (HA5.out.cell 7).trans rfl
                  have r8 : wj.cell? ⟨w.heap.size, 8, none⟩ = some (.int .i64 e8) := (HA5.out.cell 8).trans rfl
                  have r9 : wj.cell? ⟨w.heap.size, 9, none⟩ = some (.int .i64 e9) := (HA5.out.cell 9).trans rfl
                  have r10 : wj.cell? ⟨w.heap.size, 10, none⟩ = some (.int .i64 e10) := (HA5.out.cell 10).trans rfl
                  have r11 : wj.cell? ⟨w.heap.size, 11, none⟩ = some (.int .i64 e11) := (HA5.out.cell 11).trans rfl
                  have r12 : wj.cell? ⟨w.heap.size, 12, none⟩ = some (.int .i64 e12) := (HA5.out.cell 12).trans rfl
                  have r13 : wj.cell? ⟨w.heap.size, 13, none⟩ = some (.int .i64 e13) := (HA5.out.cell 13).trans rfl
                  have r14 : wj.cell? ⟨w.heap.size, 14, none⟩ = some (.int .i64 e14) := (HA5.out.cell 14).trans rfl
                  have r15 : wj.cell? ⟨w.heap.size, 15, none⟩ = some (.int .i64 e15) := (HA5.out.cell 15).trans rfl
                  have HS5 : Hid (SrcOk wj g) := HI1.out.1.kept (HB5.out.mono (by have := HGL.out; omega))
                  have HG5 : Hid (w.grownBy wj (some g)) := ⟨HB5.out.os.trans HI1.out.2.1.os, HB5.out.tape.trans HI1.out.2.1.tape, HB5.out.output.trans HI1.out.2.1.output, Nat.le_trans HI1.out.2.1.size HB5.out.size, fun j hj hn => (HB5.out.block j hj).trans (HI1.out.2.1.block j hj hn)⟩
                  go_wp2
                  exact bodyPost_ret (v := .agg #[.int .i64 e0, .int .i64 e1, .int .i64 e2, .int .i64 e3, .int .i64 e4, .int .i64 e5, .int .i64 e6, .int .i64 e7, .int .i64 e8, .int .i64 e9, .int .i64 e10, .int .i64 e11, .int .i64 e12, .int .i64 e13, .int .i64 e14, .int .i64 e15]) (by simp [results, Try.results21, go_sem, r0, r1, r2, r3, r4, r5, r6, r7, r8, r9, r10, r11, r12, r13, r14, r15]) rfl ⟨e0, e1, e2, e3, e4, e5, e6, e7, e8, e9, e10, e11, e12, e13, e14, e15, rfl, HS5.out, HG5.out⟩
end Go.Proofs.Ytfcffmjmohkpoaa

