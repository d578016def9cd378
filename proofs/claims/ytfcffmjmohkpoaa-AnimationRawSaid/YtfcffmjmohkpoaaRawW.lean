/- The walk of the law AnimationRaw (printed by wip/gen_raw.py). -/
import Derived.Test.YtfcffmjmohkpoaaSrcAnim
import Derived.Test.YtfcffmjmohkpoaaReduce
import Derived.Test.YtfcffmjmohkpoaaOpenAnim
import Derived.Test.YtfcffmjmohkpoaaValue
import Derived.Test.YtfcffmjmohkpoaaValueR
import Derived.Test.YtfcffmjmohkpoaaValidR
import Derived.Test.YtfcffmjmohkpoaaAwake36
import Derived.Lib.SmallJoins
import Derived.Deep.AppendLies
namespace Go.Proofs.Ytfcffmjmohkpoaa
open Go.RowKit
set_option linter.unusedVariables false
set_option linter.unusedSimpArgs false
theorem blk_anims {w : World} {L n : Nat} {t : TypeId} (l : List Anim) (h : w.heap[L]? = some (.cells (recCells (l.map recA)).toArray t (0, 0))) (hn : n = l.length) (hm : n ≤ maxLen) : IsAnims w (.slice (some ⟨L, 0, none⟩) n n) l := by
  subst hn
  refine ⟨_, l.length, by simp, by simp, hm, fun hp => ⟨L, 0, rfl, lt_of_block h, fun i hi j hj => ?_⟩⟩
  rw [cell_of_row w L _ _ t (0, 0) h]
  have k1 := recCells_at (l.map recA) (recA_wide l) i hi j hj
  simpa using k1
theorem blk_ints {w : World} {L n : Nat} {t : TypeId} (l : List Int) (h : w.heap[L]? = some (.cells (l.map (Value.int .i64)).toArray t (0, 0))) (hn : n = l.length) (hm : n ≤ maxLen) : IsInts w (.slice (some ⟨L, 0, none⟩) n n) l := by
  subst hn
  refine ⟨_, l.length, rfl, Nat.le_refl _, hm, fun hp => ⟨L, 0, rfl, lt_of_block h, fun i hi => ?_⟩⟩
  rw [Nat.zero_add, cell_of_row w L _ _ t (0, 0) h]
  simp [gz, hi]
set_option maxHeartbeats 4000000 in
set_option maxRecDepth 100000 in
/-- A literal list of three animations, in a region that draws its order. -/
theorem step_lit3 {ops : Array Oper} {t : TypeId} {s : String} {e : Array Edge} {K : Act → World → Prop} {Q : Exit → Act → World → Prop} {E : Prop} {u0 u1 u2 u3 u4 u5 u6 u7 u8 u9 u10 u11 u12 u13 u15 u17 u19 u20 u21 u22 u23 u24 u25 u26 u27 u28 u29 u30 u31 u32 u33 u34 u35 u36 u37 u38 u39 u40 u41 u42 u43 u44 u45 u46 u47 u48 u49 u50 u51 u52 u53 u54 u55 u56 u57 u58 u59 u60 u61 u62 u63 u64 u65 u66 u67 u68 u69 u70 u71 u72 u73 u74 u75 : Value} {a0 a1 a2 a3 a4 a5 a6 a7 a8 a9 a10 a11 a12 a13 a14 a15 b0 b1 b2 b3 b4 b5 b6 b7 b8 b9 b10 b11 b12 b13 b14 b15 c0 c1 c2 c3 c4 c5 c6 c7 c8 c9 c10 c11 c12 c13 c14 c15 : Int} {w : World}
    (h : K ⟨#[u0, u1, u2, u3, u4, u5, u6, u7, u8, u9, u10, u11, u12, u13, .agg #[.int .i64 a0, .int .i64 a1, .int .i64 a2, .int .i64 a3, .int .i64 a4, .int .i64 a5, .int .i64 a6, .int .i64 a7, .int .i64 a8, .int .i64 a9, .int .i64 a10, .int .i64 a11, .int .i64 a12, .int .i64 a13, .int .i64 a14, .int .i64 a15], u15, .agg #[.int .i64 b0, .int .i64 b1, .int .i64 b2, .int .i64 b3, .int .i64 b4, .int .i64 b5, .int .i64 b6, .int .i64 b7, .int .i64 b8, .int .i64 b9, .int .i64 b10, .int .i64 b11, .int .i64 b12, .int .i64 b13, .int .i64 b14, .int .i64 b15], u17, .agg #[.int .i64 c0, .int .i64 c1, .int .i64 c2, .int .i64 c3, .int .i64 c4, .int .i64 c5, .int .i64 c6, .int .i64 c7, .int .i64 c8, .int .i64 c9, .int .i64 c10, .int .i64 c11, .int .i64 c12, .int .i64 c13, .int .i64 c14, .int .i64 c15], .slice (some ⟨w.heap.size, 0, none⟩) 3 3, u20, u21, u22, u23, u24, u25, u26, u27, u28, u29, u30, u31, u32, u33, u34, u35, u36, u37, u38, u39, u40, u41, u42, u43, u44, u45, u46, u47, u48, u49, u50, u51, u52, u53, u54, u55, u56, u57, u58, u59, u60, u61, u62, u63, u64, u65, u66, u67, u68, u69, u70, u71, u72, u73, u74, u75], []⟩ (w.alloc (.cells #[.int .i64 a0, .int .i64 a1, .int .i64 a2, .int .i64 a3, .int .i64 a4, .int .i64 a5, .int .i64 a6, .int .i64 a7, .int .i64 a8, .int .i64 a9, .int .i64 a10, .int .i64 a11, .int .i64 a12, .int .i64 a13, .int .i64 a14, .int .i64 a15, .int .i64 b0, .int .i64 b1, .int .i64 b2, .int .i64 b3, .int .i64 b4, .int .i64 b5, .int .i64 b6, .int .i64 b7, .int .i64 b8, .int .i64 b9, .int .i64 b10, .int .i64 b11, .int .i64 b12, .int .i64 b13, .int .i64 b14, .int .i64 b15, .int .i64 c0, .int .i64 c1, .int .i64 c2, .int .i64 c3, .int .i64 c4, .int .i64 c5, .int .i64 c6, .int .i64 c7, .int .i64 c8, .int .i64 c9, .int .i64 c10, .int .i64 c11, .int .i64 c12, .int .i64 c13, .int .i64 c14, .int .i64 c15] 38))) :
    if Region.wanted (⟨some 19, .buildSlice 40 3 #[(0, .tmp 14), (1, .tmp 16), (2, .tmp 18)], t, s, e, none⟩ : Oper) (yielded ops #[u0, u1, u2, u3, u4, u5, u6, u7, u8, u9, u10, u11, u12, u13, .agg #[.int .i64 a0, .int .i64 a1, .int .i64 a2, .int .i64 a3, .int .i64 a4, .int .i64 a5, .int .i64 a6, .int .i64 a7, .int .i64 a8, .int .i64 a9, .int .i64 a10, .int .i64 a11, .int .i64 a12, .int .i64 a13, .int .i64 a14, .int .i64 a15], u15, .agg #[.int .i64 b0, .int .i64 b1, .int .i64 b2, .int .i64 b3, .int .i64 b4, .int .i64 b5, .int .i64 b6, .int .i64 b7, .int .i64 b8, .int .i64 b9, .int .i64 b10, .int .i64 b11, .int .i64 b12, .int .i64 b13, .int .i64 b14, .int .i64 b15], u17, .agg #[.int .i64 c0, .int .i64 c1, .int .i64 c2, .int .i64 c3, .int .i64 c4, .int .i64 c5, .int .i64 c6, .int .i64 c7, .int .i64 c8, .int .i64 c9, .int .i64 c10, .int .i64 c11, .int .i64 c12, .int .i64 c13, .int .i64 c14, .int .i64 c15], u19, u20, u21, u22, u23, u24, u25, u26, u27, u28, u29, u30, u31, u32, u33, u34, u35, u36, u37, u38, u39, u40, u41, u42, u43, u44, u45, u46, u47, u48, u49, u50, u51, u52, u53, u54, u55, u56, u57, u58, u59, u60, u61, u62, u63, u64, u65, u66, u67, u68, u69, u70, u71, u72, u73, u74, u75]) = true then Oper.wp Try.prog ⟨some 19, .buildSlice 40 3 #[(0, .tmp 14), (1, .tmp 16), (2, .tmp 18)], t, s, e, none⟩ ⟨#[u0, u1, u2, u3, u4, u5, u6, u7, u8, u9, u10, u11, u12, u13, .agg #[.int .i64 a0, .int .i64 a1, .int .i64 a2, .int .i64 a3, .int .i64 a4, .int .i64 a5, .int .i64 a6, .int .i64 a7, .int .i64 a8, .int .i64 a9, .int .i64 a10, .int .i64 a11, .int .i64 a12, .int .i64 a13, .int .i64 a14, .int .i64 a15], u15, .agg #[.int .i64 b0, .int .i64 b1, .int .i64 b2, .int .i64 b3, .int .i64 b4, .int .i64 b5, .int .i64 b6, .int .i64 b7, .int .i64 b8, .int .i64 b9, .int .i64 b10, .int .i64 b11, .int .i64 b12, .int .i64 b13, .int .i64 b14, .int .i64 b15], u17, .agg #[.int .i64 c0, .int .i64 c1, .int .i64 c2, .int .i64 c3, .int .i64 c4, .int .i64 c5, .int .i64 c6, .int .i64 c7, .int .i64 c8, .int .i64 c9, .int .i64 c10, .int .i64 c11, .int .i64 c12, .int .i64 c13, .int .i64 c14, .int .i64 c15], u19, u20, u21, u22, u23, u24, u25, u26, u27, u28, u29, u30, u31, u32, u33, u34, u35, u36, u37, u38, u39, u40, u41, u42, u43, u44, u45, u46, u47, u48, u49, u50, u51, u52, u53, u54, u55, u56, u57, u58, u59, u60, u61, u62, u63, u64, u65, u66, u67, u68, u69, u70, u71, u72, u73, u74, u75], []⟩ w K Q else E := by
  rw [if_pos (by simp [Region.wanted])]
  obtain ⟨G, hG⟩ : ∃ G, K ⟨#[u0, u1, u2, u3, u4, u5, u6, u7, u8, u9, u10, u11, u12, u13, .agg #[.int .i64 a0, .int .i64 a1, .int .i64 a2, .int .i64 a3, .int .i64 a4, .int .i64 a5, .int .i64 a6, .int .i64 a7, .int .i64 a8, .int .i64 a9, .int .i64 a10, .int .i64 a11, .int .i64 a12, .int .i64 a13, .int .i64 a14, .int .i64 a15], u15, .agg #[.int .i64 b0, .int .i64 b1, .int .i64 b2, .int .i64 b3, .int .i64 b4, .int .i64 b5, .int .i64 b6, .int .i64 b7, .int .i64 b8, .int .i64 b9, .int .i64 b10, .int .i64 b11, .int .i64 b12, .int .i64 b13, .int .i64 b14, .int .i64 b15], u17, .agg #[.int .i64 c0, .int .i64 c1, .int .i64 c2, .int .i64 c3, .int .i64 c4, .int .i64 c5, .int .i64 c6, .int .i64 c7, .int .i64 c8, .int .i64 c9, .int .i64 c10, .int .i64 c11, .int .i64 c12, .int .i64 c13, .int .i64 c14, .int .i64 c15], .slice (some ⟨w.heap.size, 0, none⟩) 3 3, u20, u21, u22, u23, u24, u25, u26, u27, u28, u29, u30, u31, u32, u33, u34, u35, u36, u37, u38, u39, u40, u41, u42, u43, u44, u45, u46, u47, u48, u49, u50, u51, u52, u53, u54, u55, u56, u57, u58, u59, u60, u61, u62, u63, u64, u65, u66, u67, u68, u69, u70, u71, u72, u73, u74, u75], []⟩ (w.alloc (.cells #[.int .i64 a0, .int .i64 a1, .int .i64 a2, .int .i64 a3, .int .i64 a4, .int .i64 a5, .int .i64 a6, .int .i64 a7, .int .i64 a8, .int .i64 a9, .int .i64 a10, .int .i64 a11, .int .i64 a12, .int .i64 a13, .int .i64 a14, .int .i64 a15, .int .i64 b0, .int .i64 b1, .int .i64 b2, .int .i64 b3, .int .i64 b4, .int .i64 b5, .int .i64 b6, .int .i64 b7, .int .i64 b8, .int .i64 b9, .int .i64 b10, .int .i64 b11, .int .i64 b12, .int .i64 b13, .int .i64 b14, .int .i64 b15, .int .i64 c0, .int .i64 c1, .int .i64 c2, .int .i64 c3, .int .i64 c4, .int .i64 c5, .int .i64 c6, .int .i64 c7, .int .i64 c8, .int .i64 c9, .int .i64 c10, .int .i64 c11, .int .i64 c12, .int .i64 c13, .int .i64 c14, .int .i64 c15] 38)) = G := ⟨_, rfl⟩
  rw [hG] at h
  go_simp
  exact h

set_option maxHeartbeats 16000000 in
set_option maxRecDepth 100000 in
theorem raw_core (p0 p1 p2 p3 p4 p5 p6 p7 p8 p9 p10 p11 p12 p13 p14 p15 now : Int) (v2 : Value) (xs : List Int) (w : World) (h2 : InInts w v2 xs) :
    Calls Try.prog 6 #[.agg #[.int .i64 p0, .int .i64 p1, .int .i64 p2, .int .i64 p3, .int .i64 p4, .int .i64 p5, .int .i64 p6, .int .i64 p7, .int .i64 p8, .int .i64 p9, .int .i64 p10, .int .i64 p11, .int .i64 p12, .int .i64 p13, .int .i64 p14, .int .i64 p15], .int .i64 now, v2] w (True_ w) := by
  have HU := Lib.hid h2
  clear h2
  go_enter Try.func6, Try.ntmps6
  go_wp2_with fail
  have HBX : Hid (AnimBlk (w.alloc (.cells #[.int .i64 p0, .int .i64 p1, .int .i64 p2, .int .i64 p3, .int .i64 p4, .int .i64 p5, .int .i64 p6, .int .i64 p7, .int .i64 p8, .int .i64 p9, .int .i64 p10, .int .i64 p11, .int .i64 p12, .int .i64 p13, .int .i64 p14, .int .i64 p15] 38)) w.heap.size 38 [.int .i64 p0, .int .i64 p1, .int .i64 p2, .int .i64 p3, .int .i64 p4, .int .i64 p5, .int .i64 p6, .int .i64 p7, .int .i64 p8, .int .i64 p9, .int .i64 p10, .int .i64 p11, .int .i64 p12, .int .i64 p13, .int .i64 p14, .int .i64 p15]) := animBlk_new w [.int .i64 p0, .int .i64 p1, .int .i64 p2, .int .i64 p3, .int .i64 p4, .int .i64 p5, .int .i64 p6, .int .i64 p7, .int .i64 p8, .int .i64 p9, .int .i64 p10, .int .i64 p11, .int .i64 p12, .int .i64 p13, .int .i64 p14, .int .i64 p15] _ rfl
  have hb0 : Below w.heap.size w (w.alloc (.cells #[.int .i64 p0, .int .i64 p1, .int .i64 p2, .int .i64 p3, .int .i64 p4, .int .i64 p5, .int .i64 p6, .int .i64 p7, .int .i64 p8, .int .i64 p9, .int .i64 p10, .int .i64 p11, .int .i64 p12, .int .i64 p13, .int .i64 p14, .int .i64 p15] 38)) := (Below.refl _ _).alloc (Nat.le_refl _) _
  have HB0 := Lib.hid hb0
  have HU2 : Hid (InInts (w.alloc (.cells #[.int .i64 p0, .int .i64 p1, .int .i64 p2, .int .i64 p3, .int .i64 p4, .int .i64 p5, .int .i64 p6, .int .i64 p7, .int .i64 p8, .int .i64 p9, .int .i64 p10, .int .i64 p11, .int .i64 p12, .int .i64 p13, .int .i64 p14, .int .i64 p15] 38)) v2 xs) := ⟨HU.out.1.of_below hb0, HU.out.2⟩
  clear hb0
  refine (srcNew_any _ xs _ HU2.out).mono ?_
  rintro e w1 ⟨g, rfl, hs, hg0, hg1, hb⟩
  have HGL : Hid (w.heap.size < g) := by have := hg0; simp at this; show _ < _; omega
  have HS1 := Lib.hid hs
  have HB1 : Hid (Below w.heap.size w w1) := HB0.out.trans (hb.mono (by simp))
  have HBX1 : Hid (AnimBlk w1 w.heap.size 38 [.int .i64 p0, .int .i64 p1, .int .i64 p2, .int .i64 p3, .int .i64 p4, .int .i64 p5, .int .i64 p6, .int .i64 p7, .int .i64 p8, .int .i64 p9, .int .i64 p10, .int .i64 p11, .int .i64 p12, .int .i64 p13, .int .i64 p14, .int .i64 p15]) := HBX.out.kept hb (by simp)
  obtain ⟨B, hB⟩ : ∃ B, w.heap.size = B := ⟨_, rfl⟩
  have HBE := Lib.hid hB
  have HNE : Hid (¬ B = g) := by have h := HGL.out; rw [hB] at h; show ¬ _; omega
  rw [hB] at HBX1
  rw [hB]
  clear hs hg0 hg1 hb HBX HB0 HU2 HU hB
  go_upto_region 2 with fail
  go_cut [8] (fun sv wx => ∃ (L : Nat) (l : List Anim), sv = .slice (some ⟨L, 0, none⟩) 3 3 ∧ l.length = 3 ∧ wx.heap[L]? = some (.cells (recCells (l.map recA)).toArray 38 (0, 0)) ∧ g < L ∧ SrcOk wx g ∧ AnimBlk wx B 38 [.int .i64 p0, .int .i64 p1, .int .i64 p2, .int .i64 p3, .int .i64 p4, .int .i64 p5, .int .i64 p6, .int .i64 p7, .int .i64 p8, .int .i64 p9, .int .i64 p10, .int .i64 p11, .int .i64 p12, .int .i64 p13, .int .i64 p14, .int .i64 p15] ∧ Below w.heap.size w wx)
  case first =>
    as_aux_lemma =>
      have c0 : w1.cell? ⟨B, 0, none⟩ = some (.int .i64 p0) := (HBX1.out.cell 0).trans rfl
      have c1 : w1.cell? ⟨B, 1, none⟩ = some (.int .i64 p1) := (HBX1.out.cell 1).trans rfl
      have c2 : w1.cell? ⟨B, 2, none⟩ = some (.int .i64 p2) := (HBX1.out.cell 2).trans rfl
      have c3 : w1.cell? ⟨B, 3, none⟩ = some (.int .i64 p3) := (HBX1.out.cell 3).trans rfl
      have c4 : w1.cell? ⟨B, 4, none⟩ = some (.int .i64 p4) := (HBX1.out.cell 4).trans rfl
      have c5 : w1.cell? ⟨B, 5, none⟩ = some (.int .i64 p5) := (HBX1.out.cell 5).trans rfl
      have c6 : w1.cell? ⟨B, 6, none⟩ = some (.int .i64 p6) := (HBX1.out.cell 6).trans rfl
      have c7 : w1.cell? ⟨B, 7, none⟩ = some (.int .i64 p7) := (HBX1.out.cell 7).trans rfl
      have c8 : w1.cell? ⟨B, 8, none⟩ = some (.int .i64 p8) := (HBX1.out.cell 8).trans rfl
      have c9 : w1.cell? ⟨B, 9, none⟩ = some (.int .i64 p9) := (HBX1.out.cell 9).trans rfl
      have c10 : w1.cell? ⟨B, 10, none⟩ = some (.int .i64 p10) := (HBX1.out.cell 10).trans rfl
      have c11 : w1.cell? ⟨B, 11, none⟩ = some (.int .i64 p11) := (HBX1.out.cell 11).trans rfl
      have c12 : w1.cell? ⟨B, 12, none⟩ = some (.int .i64 p12) := (HBX1.out.cell 12).trans rfl
      have c13 : w1.cell? ⟨B, 13, none⟩ = some (.int .i64 p13) := (HBX1.out.cell 13).trans rfl
      have c14 : w1.cell? ⟨B, 14, none⟩ = some (.int .i64 p14) := (HBX1.out.cell 14).trans rfl
      have c15 : w1.cell? ⟨B, 15, none⟩ = some (.int .i64 p15) := (HBX1.out.cell 15).trans rfl
      refine wp_region_T (S := (fun w' => w'.cell? ⟨B, 0, none⟩ = some (.int .i64 p0) ∧ w'.cell? ⟨B, 1, none⟩ = some (.int .i64 p1) ∧ w'.cell? ⟨B, 2, none⟩ = some (.int .i64 p2) ∧ w'.cell? ⟨B, 3, none⟩ = some (.int .i64 p3) ∧ w'.cell? ⟨B, 4, none⟩ = some (.int .i64 p4) ∧ w'.cell? ⟨B, 5, none⟩ = some (.int .i64 p5) ∧ w'.cell? ⟨B, 6, none⟩ = some (.int .i64 p6) ∧ w'.cell? ⟨B, 7, none⟩ = some (.int .i64 p7) ∧ w'.cell? ⟨B, 8, none⟩ = some (.int .i64 p8) ∧ w'.cell? ⟨B, 9, none⟩ = some (.int .i64 p9) ∧ w'.cell? ⟨B, 10, none⟩ = some (.int .i64 p10) ∧ w'.cell? ⟨B, 11, none⟩ = some (.int .i64 p11) ∧ w'.cell? ⟨B, 12, none⟩ = some (.int .i64 p12) ∧ w'.cell? ⟨B, 13, none⟩ = some (.int .i64 p13) ∧ w'.cell? ⟨B, 14, none⟩ = some (.int .i64 p14) ∧ w'.cell? ⟨B, 15, none⟩ = some (.int .i64 p15) ∧ SrcOk w' g ∧ w1.grownBy w' (some g))) 6 (by kernel_rfl) (⟨c0, c1, c2, c3, c4, c5, c6, c7, c8, c9, c10, c11, c12, c13, c14, c15, HS1.out, grownBy_drewN (World.grownBy.refl w1 _) 1⟩) (fun hHeld => ?_)
      clear c0 c1 c2 c3 c4 c5 c6 c7 c8 c9 c10 c11 c12 c13 c14 c15
      refine wpAnyT_take (i := 0) (v := ?_) rfl (by decide +kernel) (by decide +kernel) (by decide +kernel) (by decide +kernel) (by decide +kernel) (fun _ _ _ h => h) (Or.inl ⟨by rfl, ?_⟩) (by assumption) ?_
      rotate_left
      · intro w hSw; (try dsimp only at hSw); first | (go_simp; done) | (go_simp; with_reducible rfl)
      try simp only [Act.put, List.getElem_toArray, List.getElem_cons_succ, List.getElem_cons_zero, List.setIfInBounds_toArray, List.set_cons_zero, List.set_cons_succ]
      refine wpAnyT_take (i := 1) (v := ?_) rfl (by decide +kernel) (by decide +kernel) (by decide +kernel) (by decide +kernel) (by decide +kernel) (fun _ _ _ h => h) (Or.inl ⟨by rfl, ?_⟩) (by assumption) ?_
      rotate_left
      · intro w hSw; (try dsimp only at hSw); first | (go_simp; done) | (go_simp; with_reducible rfl)
      try simp only [Act.put, List.getElem_toArray, List.getElem_cons_succ, List.getElem_cons_zero, List.setIfInBounds_toArray, List.set_cons_zero, List.set_cons_succ]
      refine wpAnyT_take (i := 3) (v := ?_) rfl (by decide +kernel) (by decide +kernel) (by decide +kernel) (by decide +kernel) (by decide +kernel) (fun _ _ _ h => h) (Or.inl ⟨by rfl, ?_⟩) (by assumption) ?_
      rotate_left
      · intro w hSw; (try dsimp only at hSw); first | (go_simp; done) | (go_simp; with_reducible rfl)
      try simp only [Act.put, List.getElem_toArray, List.getElem_cons_succ, List.getElem_cons_zero, List.setIfInBounds_toArray, List.set_cons_zero, List.set_cons_succ]
      refine wpAnyT_one (i := 2) (by kernel_rfl) rfl (fun K hK => ?_)
      go_simp
      (refine (src_anim g _ hHeld.2.2.2.2.2.2.2.2.2.2.2.2.2.2.2.2.1).mono ?_; rintro e w2 ⟨x0, x1, x2, x3, x4, x5, x6, x7, x8, x9, x10, x11, x12, x13, x14, x15, rfl, hs2, hg2⟩)
      refine hK.out _ _ ?_ (fun hHeld2 => ?_)
      · (try dsimp only); exact ⟨hg2.cell hHeld.1 (by simpa using HNE.out), hg2.cell hHeld.2.1 (by simpa using HNE.out), hg2.cell hHeld.2.2.1 (by simpa using HNE.out), hg2.cell hHeld.2.2.2.1 (by simpa using HNE.out), hg2.cell hHeld.2.2.2.2.1 (by simpa using HNE.out), hg2.cell hHeld.2.2.2.2.2.1 (by simpa using HNE.out), hg2.cell hHeld.2.2.2.2.2.2.1 (by simpa using HNE.out), hg2.cell hHeld.2.2.2.2.2.2.2.1 (by simpa using HNE.out), hg2.cell hHeld.2.2.2.2.2.2.2.2.1 (by simpa using HNE.out), hg2.cell hHeld.2.2.2.2.2.2.2.2.2.1 (by simpa using HNE.out), hg2.cell hHeld.2.2.2.2.2.2.2.2.2.2.1 (by simpa using HNE.out), hg2.cell hHeld.2.2.2.2.2.2.2.2.2.2.2.1 (by simpa using HNE.out), hg2.cell hHeld.2.2.2.2.2.2.2.2.2.2.2.2.1 (by simpa using HNE.out), hg2.cell hHeld.2.2.2.2.2.2.2.2.2.2.2.2.2.1 (by simpa using HNE.out), hg2.cell hHeld.2.2.2.2.2.2.2.2.2.2.2.2.2.2.1 (by simpa using HNE.out), hg2.cell hHeld.2.2.2.2.2.2.2.2.2.2.2.2.2.2.2.1 (by simpa using HNE.out), hs2, grownBy_trans hHeld.2.2.2.2.2.2.2.2.2.2.2.2.2.2.2.2.2 hg2⟩
      clear hK K hHeld
      have hHeld := hHeld2
      clear hHeld2
      try simp only [Act.put, List.getElem_toArray, List.getElem_cons_succ, List.getElem_cons_zero, List.setIfInBounds_toArray, List.set_cons_zero, List.set_cons_succ]
      clear hs2 hg2
      refine wpAnyT_one (i := 4) (by kernel_rfl) rfl (fun K hK => ?_)
      go_simp
      (refine (src_anim g _ hHeld.2.2.2.2.2.2.2.2.2.2.2.2.2.2.2.2.1).mono ?_; rintro e w3 ⟨z0, z1, z2, z3, z4, z5, z6, z7, z8, z9, z10, z11, z12, z13, z14, z15, rfl, hs4, hg4⟩)
      refine hK.out _ _ ?_ (fun hHeld2 => ?_)
      · (try dsimp only); exact ⟨hg4.cell hHeld.1 (by simpa using HNE.out), hg4.cell hHeld.2.1 (by simpa using HNE.out), hg4.cell hHeld.2.2.1 (by simpa using HNE.out), hg4.cell hHeld.2.2.2.1 (by simpa using HNE.out), hg4.cell hHeld.2.2.2.2.1 (by simpa using HNE.out), hg4.cell hHeld.2.2.2.2.2.1 (by simpa using HNE.out), hg4.cell hHeld.2.2.2.2.2.2.1 (by simpa using HNE.out), hg4.cell hHeld.2.2.2.2.2.2.2.1 (by simpa using HNE.out), hg4.cell hHeld.2.2.2.2.2.2.2.2.1 (by simpa using HNE.out), hg4.cell hHeld.2.2.2.2.2.2.2.2.2.1 (by simpa using HNE.out), hg4.cell hHeld.2.2.2.2.2.2.2.2.2.2.1 (by simpa using HNE.out), hg4.cell hHeld.2.2.2.2.2.2.2.2.2.2.2.1 (by simpa using HNE.out), hg4.cell hHeld.2.2.2.2.2.2.2.2.2.2.2.2.1 (by simpa using HNE.out), hg4.cell hHeld.2.2.2.2.2.2.2.2.2.2.2.2.2.1 (by simpa using HNE.out), hg4.cell hHeld.2.2.2.2.2.2.2.2.2.2.2.2.2.2.1 (by simpa using HNE.out), hg4.cell hHeld.2.2.2.2.2.2.2.2.2.2.2.2.2.2.2.1 (by simpa using HNE.out), hs4, grownBy_trans hHeld.2.2.2.2.2.2.2.2.2.2.2.2.2.2.2.2.2 hg4⟩
      clear hK K hHeld
      have hHeld := hHeld2
      clear hHeld2
      try simp only [Act.put, List.getElem_toArray, List.getElem_cons_succ, List.getElem_cons_zero, List.setIfInBounds_toArray, List.set_cons_zero, List.set_cons_succ]
      clear hs4 hg4
      have HS3 := Lib.hid hHeld.2.2.2.2.2.2.2.2.2.2.2.2.2.2.2.2.1
      have HG3 := Lib.hid hHeld.2.2.2.2.2.2.2.2.2.2.2.2.2.2.2.2.2
      refine wpAnyT_one (i := 5) (by kernel_rfl) rfl (fun K hK => ?_)
      (refine step_lit3 ?_)
      refine hK.out _ _ ?_ (fun hHeld2 => ?_)
      · (try dsimp only); exact ⟨(World.cell?_alloc_lt _ _ _ (World.block_lt_of_cell? _ _ hHeld.1)).trans hHeld.1, (World.cell?_alloc_lt _ _ _ (World.block_lt_of_cell? _ _ hHeld.2.1)).trans hHeld.2.1, (World.cell?_alloc_lt _ _ _ (World.block_lt_of_cell? _ _ hHeld.2.2.1)).trans hHeld.2.2.1, (World.cell?_alloc_lt _ _ _ (World.block_lt_of_cell? _ _ hHeld.2.2.2.1)).trans hHeld.2.2.2.1, (World.cell?_alloc_lt _ _ _ (World.block_lt_of_cell? _ _ hHeld.2.2.2.2.1)).trans hHeld.2.2.2.2.1, (World.cell?_alloc_lt _ _ _ (World.block_lt_of_cell? _ _ hHeld.2.2.2.2.2.1)).trans hHeld.2.2.2.2.2.1, (World.cell?_alloc_lt _ _ _ (World.block_lt_of_cell? _ _ hHeld.2.2.2.2.2.2.1)).trans hHeld.2.2.2.2.2.2.1, (World.cell?_alloc_lt _ _ _ (World.block_lt_of_cell? _ _ hHeld.2.2.2.2.2.2.2.1)).trans hHeld.2.2.2.2.2.2.2.1, (World.cell?_alloc_lt _ _ _ (World.block_lt_of_cell? _ _ hHeld.2.2.2.2.2.2.2.2.1)).trans hHeld.2.2.2.2.2.2.2.2.1, (World.cell?_alloc_lt _ _ _ (World.block_lt_of_cell? _ _ hHeld.2.2.2.2.2.2.2.2.2.1)).trans hHeld.2.2.2.2.2.2.2.2.2.1, (World.cell?_alloc_lt _ _ _ (World.block_lt_of_cell? _ _ hHeld.2.2.2.2.2.2.2.2.2.2.1)).trans hHeld.2.2.2.2.2.2.2.2.2.2.1, (World.cell?_alloc_lt _ _ _ (World.block_lt_of_cell? _ _ hHeld.2.2.2.2.2.2.2.2.2.2.2.1)).trans hHeld.2.2.2.2.2.2.2.2.2.2.2.1, (World.cell?_alloc_lt _ _ _ (World.block_lt_of_cell? _ _ hHeld.2.2.2.2.2.2.2.2.2.2.2.2.1)).trans hHeld.2.2.2.2.2.2.2.2.2.2.2.2.1, (World.cell?_alloc_lt _ _ _ (World.block_lt_of_cell? _ _ hHeld.2.2.2.2.2.2.2.2.2.2.2.2.2.1)).trans hHeld.2.2.2.2.2.2.2.2.2.2.2.2.2.1, (World.cell?_alloc_lt _ _ _ (World.block_lt_of_cell? _ _ hHeld.2.2.2.2.2.2.2.2.2.2.2.2.2.2.1)).trans hHeld.2.2.2.2.2.2.2.2.2.2.2.2.2.2.1, (World.cell?_alloc_lt _ _ _ (World.block_lt_of_cell? _ _ hHeld.2.2.2.2.2.2.2.2.2.2.2.2.2.2.2.1)).trans hHeld.2.2.2.2.2.2.2.2.2.2.2.2.2.2.2.1, HS3.out.kept ((Below.refl _ _).alloc (by have := HS3.out.lt; omega) _), grownBy_trans HG3.out (World.grownBy_alloc _ _ _)⟩
      clear hK K hHeld
      have hHeld := hHeld2
      clear hHeld2
      try simp only [Act.put, List.getElem_toArray, List.getElem_cons_succ, List.getElem_cons_zero, List.setIfInBounds_toArray, List.set_cons_zero, List.set_cons_succ]
      refine wpAnyT_last (i := 6) (by kernel_rfl) (by kernel_rfl) rfl (by kernel_rfl) (fun K hK => ?_)
      go_simp
      refine hK.out _ _ ?_
      clear hK K
      try simp only [Act.put, List.getElem_toArray, List.getElem_cons_succ, List.getElem_cons_zero, List.setIfInBounds_toArray, List.set_cons_zero, List.set_cons_succ]
      clear hHeld
      go_wp2
      go_meet
      have hb6 : Below w.heap.size w w3 := HB1.out.trans (grownBy_below HG3.out (by have := HGL.out; omega) HS1.out.lt)
      refine ⟨w3.heap.size, [(⟨p0, p1, p2, p3, p4, p5, p6, p7, p8, p9, p10, p11, p12, p13, p14, p15⟩ : Anim), (⟨x0, x1, x2, x3, x4, x5, x6, x7, x8, x9, x10, x11, x12, x13, x14, x15⟩ : Anim), (⟨z0, z1, z2, z3, z4, z5, z6, z7, z8, z9, z10, z11, z12, z13, z14, z15⟩ : Anim)], rfl, rfl, heap_alloc_new w3 _, HS3.out.lt, HS3.out.kept ((Below.refl _ _).alloc (by have := HS3.out.lt; omega) _), ?_, hb6.alloc hb6.size _⟩
      exact (AnimBlk.alloc ⟨rfl, (HG3.out.block B HBX1.out.lt (by simpa using HNE.out)).trans HBX1.out.2⟩ _)
  case rest =>
    obtain ⟨L, l, rfl, hl3, hL, hgL, hs, hbx, hb⟩ := hcut
    obtain ⟨wa, rfl⟩ : ∃ x : World, x = wc := ⟨_, rfl⟩
    have HL3 := Lib.hid hl3
    have HLB := Lib.hid hL
    have HGLL : Hid (g < L) := hgL
    have HSA := Lib.hid hs
    have HBXA := Lib.hid hbx
    have HBA := Lib.hid hb
    clear hl3 hL hgL hs hbx hb HS1 HB1 HBX1
    go_upto_region 3 with fail
    go_cut [9] (fun tv wx => ∃ ts : List Int, ts.length = 4 ∧ IsInts wx tv ts ∧ IsAnims wx (.slice (some ⟨L, 0, none⟩) 3 3) l ∧ Below w.heap.size w wx)
    case first =>
      as_aux_lemma =>
        have c15 : wa.cell? ⟨B, 15, none⟩ = some (.int .i64 p15) := (HBXA.out.cell 15).trans rfl
        refine wp_region_T (S := (fun w' => w'.cell? ⟨B, 15, none⟩ = some (.int .i64 p15) ∧ SrcOk w' g ∧ wa.grownBy w' (some g))) 6 (by kernel_rfl) (⟨c15, HSA.out, grownBy_drewN (World.grownBy.refl wa _) 1⟩) (fun hHeld => ?_)
        clear c15
        refine wpAnyT_take (i := 0) (v := ?_) rfl (by decide +kernel) (by decide +kernel) (by decide +kernel) (by decide +kernel) (by decide +kernel) (fun _ _ _ h => h) (Or.inl ⟨by rfl, ?_⟩) (by assumption) ?_
        rotate_left
        · intro w hSw; (try dsimp only at hSw); first | (go_simp; done) | (go_simp; with_reducible rfl)
        try simp only [Act.put, List.getElem_toArray, List.getElem_cons_succ, List.getElem_cons_zero, List.setIfInBounds_toArray, List.set_cons_zero, List.set_cons_succ]
        refine wpAnyT_take (i := 1) (v := ?_) rfl (by decide +kernel) (by decide +kernel) (by decide +kernel) (by decide +kernel) (by decide +kernel) (fun _ _ _ h => h) (Or.inl ⟨by rfl, ?_⟩) (by assumption) ?_
        rotate_left
        · intro w hSw; (try dsimp only at hSw); first | (go_simp; done) | (go_simp; with_reducible rfl)
        try simp only [Act.put, List.getElem_toArray, List.getElem_cons_succ, List.getElem_cons_zero, List.setIfInBounds_toArray, List.set_cons_zero, List.set_cons_succ]
        refine wpAnyT_take (i := 3) (v := ?_) rfl (by decide +kernel) (by decide +kernel) (by decide +kernel) (by decide +kernel) (by decide +kernel) (fun _ _ _ h => h) (Or.inl ⟨by rfl, ?_⟩) (by assumption) ?_
        rotate_left
        · intro w hSw; (try dsimp only at hSw); first | (go_simp; done) | (go_simp; with_reducible rfl)
        try simp only [Act.put, List.getElem_toArray, List.getElem_cons_succ, List.getElem_cons_zero, List.setIfInBounds_toArray, List.set_cons_zero, List.set_cons_succ]
        refine wpAnyT_take (i := 4) (v := ?_) rfl (by decide +kernel) (by decide +kernel) (by decide +kernel) (by decide +kernel) (by decide +kernel) (fun _ _ _ h => h) (Or.inl ⟨by rfl, ?_⟩) (by assumption) ?_
        rotate_left
        · intro w hSw; (try dsimp only at hSw); first | (go_simp; done) | (go_simp; with_reducible rfl)
        try simp only [Act.put, List.getElem_toArray, List.getElem_cons_succ, List.getElem_cons_zero, List.setIfInBounds_toArray, List.set_cons_zero, List.set_cons_succ]
        refine wpAnyT_one (i := 2) (by kernel_rfl) rfl (fun K hK => ?_)
        go_simp
        (refine (srcN_any g _ _ hHeld.2.1 (by omega) (by omega)).mono ?_; rintro e w2 ⟨y2, y2a, y2b, rfl, hs2, hg2⟩)
        refine hK.out _ _ ?_ (fun hHeld2 => ?_)
        · (try dsimp only); exact ⟨hg2.cell hHeld.1 (by simpa using HNE.out), hs2, grownBy_trans hHeld.2.2 hg2⟩
        clear hK K hHeld
        have hHeld := hHeld2
        clear hHeld2
        try simp only [Act.put, List.getElem_toArray, List.getElem_cons_succ, List.getElem_cons_zero, List.setIfInBounds_toArray, List.set_cons_zero, List.set_cons_succ]
        clear hs2 hg2
        have HS3 := Lib.hid hHeld.2.1
        have HG3 := Lib.hid hHeld.2.2
        refine wpAnyT_one (i := 5) (by kernel_rfl) rfl (fun K hK => ?_)
        go_simp
        refine hK.out _ _ ?_ (fun hHeld2 => ?_)
        · (try dsimp only); exact ⟨(World.cell?_alloc_lt _ _ _ (World.block_lt_of_cell? _ _ hHeld.1)).trans hHeld.1, HS3.out.kept ((Below.refl _ _).alloc (by have := HS3.out.lt; omega) _), grownBy_trans HG3.out (World.grownBy_alloc _ _ _)⟩
        clear hK K hHeld
        have hHeld := hHeld2
        clear hHeld2
        try simp only [Act.put, List.getElem_toArray, List.getElem_cons_succ, List.getElem_cons_zero, List.setIfInBounds_toArray, List.set_cons_zero, List.set_cons_succ]
        refine wpAnyT_last (i := 6) (by kernel_rfl) (by kernel_rfl) rfl (by kernel_rfl) (fun K hK => ?_)
        go_simp
        refine hK.out _ _ ?_
        clear hK K
        try simp only [Act.put, List.getElem_toArray, List.getElem_cons_succ, List.getElem_cons_zero, List.setIfInBounds_toArray, List.set_cons_zero, List.set_cons_succ]
        clear hHeld
        go_wp2
        go_meet
        have hb6 : Below w.heap.size w w2 := HBA.out.trans (grownBy_below HG3.out (by have := HGL.out; omega) HSA.out.lt)
        have hL2 : w2.heap[L]? = some (.cells (recCells (l.map recA)).toArray 38 (0, 0)) := (HG3.out.block L (lt_of_block HLB.out) (by have := HGLL.out; simp; omega)).trans HLB.out
        refine ⟨[now, y2, p15, 1099511627776], rfl, blk_ints _ (heap_alloc_new w2 _) rfl (by unfold maxLen; omega), (blk_anims l hL2 HL3.out.symm (by unfold maxLen; omega)).of_below ((Below.refl _ _).alloc (Nat.le_refl _) _), hb6.alloc hb6.size _⟩
    case rest =>
      obtain ⟨ts, ht4, hts, hls, hbl⟩ := hcut
      obtain ⟨wb, rfl⟩ : ∃ x : World, x = wc := ⟨_, rfl⟩
      have HIS := Lib.hid hls
      have HBB := Lib.hid hbl
      obtain ⟨at_, tcap, rfl, t1, t2, t3⟩ := hts
      rw [ht4] at t1 t3 ⊢
      have HT3 := Lib.hid t3
      obtain ⟨la, lcap, hlv, l1, l2, l3⟩ := hls.open_
      rw [HL3.out] at hlv l1 l3
      have HL4 : Hid (∀ i, i < 3 → AnimOff wb L (i * 16) (ga l i)) := by
        obtain ⟨b, off, e1, -, hc⟩ := l3 (by omega)
        intro i hi
        have e2 := hc i hi
        have e3 : b = L ∧ off = 0 := by
          rw [e1] at hlv
          simp at hlv
          exact ⟨hlv.1.1.symm, hlv.1.2.symm⟩
        rw [e3.1, e3.2, Nat.zero_add] at e2
        exact e2
      have HLL : Hid (L < wb.heap.size) := World.block_lt_of_cell? wb ⟨L, 0 * 16, none⟩ (HL4.out 0 (by omega)).1
      clear ht4 hls hbl t3 hlv l1 l2 l3 HLB HSA HBXA HBA
      unfold maxLen at t2
      go_wp2_with fail
      go_loopw [10] (fun i wr => ∃ k : Nat, k ≤ 3 ∧ i = .int .i64 k ∧ Below wb.heap.size wb wr) (fun i _ => 3 - (intOf i).toNat)
      case atStart => exact ⟨0, by omega, rfl, Below.refl _ _⟩
      case round =>
        obtain ⟨k, hk, rfl, hbr⟩ := hrel
        have HBR := Lib.hid hbr
        by_cases hk3 : k < 3
        · have hoff := HL4.out k hk3
          obtain ⟨gg, hgg⟩ : ∃ g, ga l k = g := ⟨_, rfl⟩
          rw [hgg] at hoff
          obtain ⟨g0, g1, g2, g3, g4, g5, g6, g7, g8, g9, g10, g11, g12, g13, g14, g15⟩ := gg
          have HOF := Lib.hid hoff
          obtain ⟨E, hE⟩ : ∃ E, (⟨g0, g1, g2, g3, g4, g5, g6, g7, g8, g9, g10, g11, g12, g13, g14, g15⟩ : Anim).err = E := ⟨_, rfl⟩
          have HE := Lib.hid hE
          have hof2 := HOF.out.kept HBR.out HLL.out
          obtain ⟨c0, c1, c2, c3, c4, c5, c6, c7, c8, c9, c10, c11, c12, c13, c14, c15⟩ := hof2
          simp only at c0 c1 c2 c3 c4 c5 c6 c7 c8 c9 c10 c11 c12 c13 c14 c15
          clear hbr hgg hE hoff
          have hk0 : (0 : Int) ≤ (k : Int) := by omega
          have hk3' : (k : Int) < 3 := by omega
          as_aux_lemma =>
            go_upto_region 7 with fail
            refine wp_region_T (S := (fun w' => w'.cell? ⟨L, k * 16, none⟩ = some (.int .i64 g0) ∧ w'.cell? ⟨L, k * 16 + 1, none⟩ = some (.int .i64 g1) ∧ w'.cell? ⟨L, k * 16 + 2, none⟩ = some (.int .i64 g2) ∧ w'.cell? ⟨L, k * 16 + 3, none⟩ = some (.int .i64 g3) ∧ w'.cell? ⟨L, k * 16 + 4, none⟩ = some (.int .i64 g4) ∧ w'.cell? ⟨L, k * 16 + 5, none⟩ = some (.int .i64 g5) ∧ w'.cell? ⟨L, k * 16 + 6, none⟩ = some (.int .i64 g6) ∧ w'.cell? ⟨L, k * 16 + 7, none⟩ = some (.int .i64 g7) ∧ w'.cell? ⟨L, k * 16 + 8, none⟩ = some (.int .i64 g8) ∧ w'.cell? ⟨L, k * 16 + 9, none⟩ = some (.int .i64 g9) ∧ w'.cell? ⟨L, k * 16 + 10, none⟩ = some (.int .i64 g10) ∧ w'.cell? ⟨L, k * 16 + 11, none⟩ = some (.int .i64 g11) ∧ w'.cell? ⟨L, k * 16 + 12, none⟩ = some (.int .i64 g12) ∧ w'.cell? ⟨L, k * 16 + 13, none⟩ = some (.int .i64 g13) ∧ w'.cell? ⟨L, k * 16 + 14, none⟩ = some (.int .i64 g14) ∧ w'.cell? ⟨L, k * 16 + 15, none⟩ = some (.int .i64 g15) ∧ Below wr.heap.size wr w')) 10 (by kernel_rfl) (⟨c0, c1, c2, c3, c4, c5, c6, c7, c8, c9, c10, c11, c12, c13, c14, c15, (Below.refl _ _).drew⟩) (fun hHeld => ?_)
            clear c0 c1 c2 c3 c4 c5 c6 c7 c8 c9 c10 c11 c12 c13 c14 c15
            refine wpAnyT_take (i := 0) (v := ?_) rfl (by decide +kernel) (by decide +kernel) (by decide +kernel) (by decide +kernel) (by decide +kernel) (fun _ _ _ h => h) (Or.inl ⟨by rfl, ?_⟩) (by assumption) ?_
            rotate_left
            · intro w hSw; (try dsimp only at hSw); first | (go_simp; done) | (go_simp; with_reducible rfl)
            try simp only [Act.put, List.getElem_toArray, List.getElem_cons_succ, List.getElem_cons_zero, List.setIfInBounds_toArray, List.set_cons_zero, List.set_cons_succ]
            refine wpAnyT_take (i := 1) (v := ?_) rfl (by decide +kernel) (by decide +kernel) (by decide +kernel) (by decide +kernel) (by decide +kernel) (fun _ _ _ h => h) (Or.inl ⟨by rfl, ?_⟩) (by assumption) ?_
            rotate_left
            · intro w hSw; (try dsimp only at hSw); first | (go_simp; done) | (go_simp; with_reducible rfl)
            try simp only [Act.put, List.getElem_toArray, List.getElem_cons_succ, List.getElem_cons_zero, List.setIfInBounds_toArray, List.set_cons_zero, List.set_cons_succ]
            refine wpAnyT_take (i := 2) (v := ?_) rfl (by decide +kernel) (by decide +kernel) (by decide +kernel) (by decide +kernel) (by decide +kernel) (fun _ _ _ h => h) (Or.inl ⟨by rfl, ?_⟩) (by assumption) ?_
            rotate_left
            · intro w hSw; (try dsimp only at hSw); first | (go_simp; done) | (go_simp; with_reducible rfl)
            try simp only [Act.put, List.getElem_toArray, List.getElem_cons_succ, List.getElem_cons_zero, List.setIfInBounds_toArray, List.set_cons_zero, List.set_cons_succ]
            refine wpAnyT_take (i := 3) (v := ?_) rfl (by decide +kernel) (by decide +kernel) (by decide +kernel) (by decide +kernel) (by decide +kernel) (fun _ _ _ h => h) (Or.inl ⟨by rfl, ?_⟩) (by assumption) ?_
            rotate_left
            · intro w hSw; (try dsimp only at hSw); first | (go_simp; done) | (go_simp; with_reducible rfl)
            try simp only [Act.put, List.getElem_toArray, List.getElem_cons_succ, List.getElem_cons_zero, List.setIfInBounds_toArray, List.set_cons_zero, List.set_cons_succ]
            refine wpAnyT_take (i := 5) (v := ?_) rfl (by decide +kernel) (by decide +kernel) (by decide +kernel) (by decide +kernel) (by decide +kernel) (fun _ _ _ h => h) (Or.inl ⟨by rfl, ?_⟩) (by assumption) ?_
            rotate_left
            · intro w hSw; (try dsimp only at hSw); first | (go_simp; done) | (go_simp; with_reducible rfl)
            try simp only [Act.put, List.getElem_toArray, List.getElem_cons_succ, List.getElem_cons_zero, List.setIfInBounds_toArray, List.set_cons_zero, List.set_cons_succ]
            refine wpAnyT_take (i := 6) (v := ?_) rfl (by decide +kernel) (by decide +kernel) (by decide +kernel) (by decide +kernel) (by decide +kernel) (fun _ _ _ h => h) (Or.inl ⟨by rfl, ?_⟩) (by assumption) ?_
            rotate_left
            · intro w hSw; (try dsimp only at hSw); first | (go_simp; done) | (go_simp; with_reducible rfl)
            try simp only [Act.put, List.getElem_toArray, List.getElem_cons_succ, List.getElem_cons_zero, List.setIfInBounds_toArray, List.set_cons_zero, List.set_cons_succ]
            refine wpAnyT_take (i := 7) (v := ?_) rfl (by decide +kernel) (by decide +kernel) (by decide +kernel) (by decide +kernel) (by decide +kernel) (fun _ _ _ h => h) (Or.inl ⟨by rfl, ?_⟩) (by assumption) ?_
            rotate_left
            · intro w hSw; (try dsimp only at hSw); first | (go_simp; done) | (go_simp; with_reducible rfl)
            try simp only [Act.put, List.getElem_toArray, List.getElem_cons_succ, List.getElem_cons_zero, List.setIfInBounds_toArray, List.set_cons_zero, List.set_cons_succ]
            refine wpAnyT_take (i := 8) (v := ?_) rfl (by decide +kernel) (by decide +kernel) (by decide +kernel) (by decide +kernel) (by decide +kernel) (fun _ _ _ h => h) (Or.inl ⟨by rfl, ?_⟩) (by assumption) ?_
            rotate_left
            · intro w hSw; (try dsimp only at hSw); first | (go_simp; done) | (go_simp; with_reducible rfl)
            try simp only [Act.put, List.getElem_toArray, List.getElem_cons_succ, List.getElem_cons_zero, List.setIfInBounds_toArray, List.set_cons_zero, List.set_cons_succ]
            refine wpAnyT_one (i := 4) (by kernel_rfl) rfl (fun K hK => ?_)
            go_simp
            (refine (Validate_any _ _ _ _ _ _ _ _ _ _ _ _ _ _ _ _ _).mono ?_; rw [HE.out]; rintro e w' ⟨rfl, hb'⟩)
            refine hK.out _ _ ?_ (fun hHeld2 => ?_)
            · (try dsimp only); exact ⟨(hb'.cell (p := ⟨L, k * 16, none⟩) (World.block_lt_of_cell? _ _ hHeld.1)).trans hHeld.1, (hb'.cell (p := ⟨L, k * 16 + 1, none⟩) (World.block_lt_of_cell? _ _ hHeld.2.1)).trans hHeld.2.1, (hb'.cell (p := ⟨L, k * 16 + 2, none⟩) (World.block_lt_of_cell? _ _ hHeld.2.2.1)).trans hHeld.2.2.1, (hb'.cell (p := ⟨L, k * 16 + 3, none⟩) (World.block_lt_of_cell? _ _ hHeld.2.2.2.1)).trans hHeld.2.2.2.1, (hb'.cell (p := ⟨L, k * 16 + 4, none⟩) (World.block_lt_of_cell? _ _ hHeld.2.2.2.2.1)).trans hHeld.2.2.2.2.1, (hb'.cell (p := ⟨L, k * 16 + 5, none⟩) (World.block_lt_of_cell? _ _ hHeld.2.2.2.2.2.1)).trans hHeld.2.2.2.2.2.1, (hb'.cell (p := ⟨L, k * 16 + 6, none⟩) (World.block_lt_of_cell? _ _ hHeld.2.2.2.2.2.2.1)).trans hHeld.2.2.2.2.2.2.1, (hb'.cell (p := ⟨L, k * 16 + 7, none⟩) (World.block_lt_of_cell? _ _ hHeld.2.2.2.2.2.2.2.1)).trans hHeld.2.2.2.2.2.2.2.1, (hb'.cell (p := ⟨L, k * 16 + 8, none⟩) (World.block_lt_of_cell? _ _ hHeld.2.2.2.2.2.2.2.2.1)).trans hHeld.2.2.2.2.2.2.2.2.1, (hb'.cell (p := ⟨L, k * 16 + 9, none⟩) (World.block_lt_of_cell? _ _ hHeld.2.2.2.2.2.2.2.2.2.1)).trans hHeld.2.2.2.2.2.2.2.2.2.1, (hb'.cell (p := ⟨L, k * 16 + 10, none⟩) (World.block_lt_of_cell? _ _ hHeld.2.2.2.2.2.2.2.2.2.2.1)).trans hHeld.2.2.2.2.2.2.2.2.2.2.1, (hb'.cell (p := ⟨L, k * 16 + 11, none⟩) (World.block_lt_of_cell? _ _ hHeld.2.2.2.2.2.2.2.2.2.2.2.1)).trans hHeld.2.2.2.2.2.2.2.2.2.2.2.1, (hb'.cell (p := ⟨L, k * 16 + 12, none⟩) (World.block_lt_of_cell? _ _ hHeld.2.2.2.2.2.2.2.2.2.2.2.2.1)).trans hHeld.2.2.2.2.2.2.2.2.2.2.2.2.1, (hb'.cell (p := ⟨L, k * 16 + 13, none⟩) (World.block_lt_of_cell? _ _ hHeld.2.2.2.2.2.2.2.2.2.2.2.2.2.1)).trans hHeld.2.2.2.2.2.2.2.2.2.2.2.2.2.1, (hb'.cell (p := ⟨L, k * 16 + 14, none⟩) (World.block_lt_of_cell? _ _ hHeld.2.2.2.2.2.2.2.2.2.2.2.2.2.2.1)).trans hHeld.2.2.2.2.2.2.2.2.2.2.2.2.2.2.1, (hb'.cell (p := ⟨L, k * 16 + 15, none⟩) (World.block_lt_of_cell? _ _ hHeld.2.2.2.2.2.2.2.2.2.2.2.2.2.2.2.1)).trans hHeld.2.2.2.2.2.2.2.2.2.2.2.2.2.2.2.1, hHeld.2.2.2.2.2.2.2.2.2.2.2.2.2.2.2.2.trans (hb'.mono hHeld.2.2.2.2.2.2.2.2.2.2.2.2.2.2.2.2.size)⟩
            clear hK K hHeld
            have hHeld := hHeld2
            clear hHeld2
            try simp only [Act.put, List.getElem_toArray, List.getElem_cons_succ, List.getElem_cons_zero, List.setIfInBounds_toArray, List.set_cons_zero, List.set_cons_succ]
            clear hb'
            refine wpAnyT_one (i := 9) (by kernel_rfl) rfl (fun K hK => ?_)
            go_simp
            (refine (rValidate_any _ _ _ _ _ _ _ _ _ _ _ _ _ _ _ _ _).mono ?_; rw [HE.out]; rintro e w7 ⟨rfl, hb'⟩)
            refine hK.out _ _ ?_ (fun hHeld2 => ?_)
            · (try dsimp only); exact ⟨(hb'.cell (p := ⟨L, k * 16, none⟩) (World.block_lt_of_cell? _ _ hHeld.1)).trans hHeld.1, (hb'.cell (p := ⟨L, k * 16 + 1, none⟩) (World.block_lt_of_cell? _ _ hHeld.2.1)).trans hHeld.2.1, (hb'.cell (p := ⟨L, k * 16 + 2, none⟩) (World.block_lt_of_cell? _ _ hHeld.2.2.1)).trans hHeld.2.2.1, (hb'.cell (p := ⟨L, k * 16 + 3, none⟩) (World.block_lt_of_cell? _ _ hHeld.2.2.2.1)).trans hHeld.2.2.2.1, (hb'.cell (p := ⟨L, k * 16 + 4, none⟩) (World.block_lt_of_cell? _ _ hHeld.2.2.2.2.1)).trans hHeld.2.2.2.2.1, (hb'.cell (p := ⟨L, k * 16 + 5, none⟩) (World.block_lt_of_cell? _ _ hHeld.2.2.2.2.2.1)).trans hHeld.2.2.2.2.2.1, (hb'.cell (p := ⟨L, k * 16 + 6, none⟩) (World.block_lt_of_cell? _ _ hHeld.2.2.2.2.2.2.1)).trans hHeld.2.2.2.2.2.2.1, (hb'.cell (p := ⟨L, k * 16 + 7, none⟩) (World.block_lt_of_cell? _ _ hHeld.2.2.2.2.2.2.2.1)).trans hHeld.2.2.2.2.2.2.2.1, (hb'.cell (p := ⟨L, k * 16 + 8, none⟩) (World.block_lt_of_cell? _ _ hHeld.2.2.2.2.2.2.2.2.1)).trans hHeld.2.2.2.2.2.2.2.2.1, (hb'.cell (p := ⟨L, k * 16 + 9, none⟩) (World.block_lt_of_cell? _ _ hHeld.2.2.2.2.2.2.2.2.2.1)).trans hHeld.2.2.2.2.2.2.2.2.2.1, (hb'.cell (p := ⟨L, k * 16 + 10, none⟩) (World.block_lt_of_cell? _ _ hHeld.2.2.2.2.2.2.2.2.2.2.1)).trans hHeld.2.2.2.2.2.2.2.2.2.2.1, (hb'.cell (p := ⟨L, k * 16 + 11, none⟩) (World.block_lt_of_cell? _ _ hHeld.2.2.2.2.2.2.2.2.2.2.2.1)).trans hHeld.2.2.2.2.2.2.2.2.2.2.2.1, (hb'.cell (p := ⟨L, k * 16 + 12, none⟩) (World.block_lt_of_cell? _ _ hHeld.2.2.2.2.2.2.2.2.2.2.2.2.1)).trans hHeld.2.2.2.2.2.2.2.2.2.2.2.2.1, (hb'.cell (p := ⟨L, k * 16 + 13, none⟩) (World.block_lt_of_cell? _ _ hHeld.2.2.2.2.2.2.2.2.2.2.2.2.2.1)).trans hHeld.2.2.2.2.2.2.2.2.2.2.2.2.2.1, (hb'.cell (p := ⟨L, k * 16 + 14, none⟩) (World.block_lt_of_cell? _ _ hHeld.2.2.2.2.2.2.2.2.2.2.2.2.2.2.1)).trans hHeld.2.2.2.2.2.2.2.2.2.2.2.2.2.2.1, (hb'.cell (p := ⟨L, k * 16 + 15, none⟩) (World.block_lt_of_cell? _ _ hHeld.2.2.2.2.2.2.2.2.2.2.2.2.2.2.2.1)).trans hHeld.2.2.2.2.2.2.2.2.2.2.2.2.2.2.2.1, hHeld.2.2.2.2.2.2.2.2.2.2.2.2.2.2.2.2.trans (hb'.mono hHeld.2.2.2.2.2.2.2.2.2.2.2.2.2.2.2.2.size)⟩
            clear hK K hHeld
            have hHeld := hHeld2
            clear hHeld2
            try simp only [Act.put, List.getElem_toArray, List.getElem_cons_succ, List.getElem_cons_zero, List.setIfInBounds_toArray, List.set_cons_zero, List.set_cons_succ]
            clear hb'
            have HB7 := Lib.hid hHeld.2.2.2.2.2.2.2.2.2.2.2.2.2.2.2.2
            refine wpAnyT_last (i := 10) (by kernel_rfl) (by kernel_rfl) rfl (by kernel_rfl) (fun K hK => ?_)
            go_simp
            refine hK.out _ _ ?_
            clear hK K
            try simp only [Act.put, List.getElem_toArray, List.getElem_cons_succ, List.getElem_cons_zero, List.setIfInBounds_toArray, List.set_cons_zero, List.set_cons_succ]
            clear hHeld
            have HBW7 : Hid (Below wb.heap.size wb w7) := HBR.out.trans (HB7.out.mono HBR.out.size)
            clear HB7
            go_wp2_with fail
            go_loopw [11] (fun j wr2 => ∃ m : Nat, m ≤ 4 ∧ j = .int .i64 m ∧ Below w7.heap.size w7 wr2) (fun j _ => 4 - (intOf j).toNat)
            case atStart => exact ⟨0, by omega, rfl, Below.refl _ _⟩
            case round =>
              obtain ⟨m, hm, rfl, hbr2⟩ := hrel
              have HBR2 := Lib.hid hbr2
              have HBX2 : Hid (Below wb.heap.size wb wr) := HBW7.out.trans (hbr2.mono HBW7.out.size)
              clear hbr2
              by_cases hm4 : m < 4
              ·
                as_aux_lemma =>
                  obtain ⟨bt, ot, rfl, hlt, hct⟩ := HT3.out (by omega)
                  have ct := (HBX2.out.cell (p := ⟨bt, ot + m, none⟩) hlt).trans (hct m hm4)
                  obtain ⟨tm, htm⟩ : ∃ t, gz ts m = t := ⟨_, rfl⟩
                  rw [htm] at ct
                  obtain ⟨V, hV⟩ : ∃ V, (⟨g0, g1, g2, g3, g4, g5, g6, g7, g8, g9, g10, g11, g12, g13, g14, g15⟩ : Anim).value tm = V := ⟨_, rfl⟩
                  have HV := Lib.hid hV
                  have hof3 := HOF.out.kept HBX2.out HLL.out
                  obtain ⟨c0, c1, c2, c3, c4, c5, c6, c7, c8, c9, c10, c11, c12, c13, c14, c15⟩ := hof3
                  simp only at c0 c1 c2 c3 c4 c5 c6 c7 c8 c9 c10 c11 c12 c13 c14 c15
                  have hm0 : (0 : Int) ≤ (m : Int) := by omega
                  have hm4' : (m : Int) < 4 := by omega
                  clear htm hV hlt hct
                  go_upto_region 12 with fail
                  refine wp_region_T (S := (fun w' => w'.cell? ⟨L, k * 16, none⟩ = some (.int .i64 g0) ∧ w'.cell? ⟨L, k * 16 + 1, none⟩ = some (.int .i64 g1) ∧ w'.cell? ⟨L, k * 16 + 2, none⟩ = some (.int .i64 g2) ∧ w'.cell? ⟨L, k * 16 + 3, none⟩ = some (.int .i64 g3) ∧ w'.cell? ⟨L, k * 16 + 4, none⟩ = some (.int .i64 g4) ∧ w'.cell? ⟨L, k * 16 + 5, none⟩ = some (.int .i64 g5) ∧ w'.cell? ⟨L, k * 16 + 6, none⟩ = some (.int .i64 g6) ∧ w'.cell? ⟨L, k * 16 + 7, none⟩ = some (.int .i64 g7) ∧ w'.cell? ⟨L, k * 16 + 8, none⟩ = some (.int .i64 g8) ∧ w'.cell? ⟨L, k * 16 + 9, none⟩ = some (.int .i64 g9) ∧ w'.cell? ⟨L, k * 16 + 10, none⟩ = some (.int .i64 g10) ∧ w'.cell? ⟨L, k * 16 + 11, none⟩ = some (.int .i64 g11) ∧ w'.cell? ⟨L, k * 16 + 12, none⟩ = some (.int .i64 g12) ∧ w'.cell? ⟨L, k * 16 + 13, none⟩ = some (.int .i64 g13) ∧ w'.cell? ⟨L, k * 16 + 14, none⟩ = some (.int .i64 g14) ∧ w'.cell? ⟨L, k * 16 + 15, none⟩ = some (.int .i64 g15) ∧ w'.cell? ⟨bt, ot + m, none⟩ = some (.int .i64 tm) ∧ Below wr.heap.size wr w')) 18 (by kernel_rfl) (⟨c0, c1, c2, c3, c4, c5, c6, c7, c8, c9, c10, c11, c12, c13, c14, c15, ct, (Below.refl _ _).drew⟩) (fun hHeld => ?_)
                  clear c0 c1 c2 c3 c4 c5 c6 c7 c8 c9 c10 c11 c12 c13 c14 c15 ct
                  refine wpAnyT_take (i := 0) (v := ?_) rfl (by decide +kernel) (by decide +kernel) (by decide +kernel) (by decide +kernel) (by decide +kernel) (fun _ _ _ h => h) (Or.inl ⟨by rfl, ?_⟩) (by assumption) ?_
                  rotate_left
                  · intro w hSw; (try dsimp only at hSw); first | (go_simp; done) | (go_simp; with_reducible rfl)
                  try simp only [Act.put, List.getElem_toArray, List.getElem_cons_succ, List.getElem_cons_zero, List.setIfInBounds_toArray, List.set_cons_zero, List.set_cons_succ]
                  refine wpAnyT_take (i := 1) (v := ?_) rfl (by decide +kernel) (by decide +kernel) (by decide +kernel) (by decide +kernel) (by decide +kernel) (fun _ _ _ h => h) (Or.inl ⟨by rfl, ?_⟩) (by assumption) ?_
                  rotate_left
                  · intro w hSw; (try dsimp only at hSw); first | (go_simp; done) | (go_simp; with_reducible rfl)
                  try simp only [Act.put, List.getElem_toArray, List.getElem_cons_succ, List.getElem_cons_zero, List.setIfInBounds_toArray, List.set_cons_zero, List.set_cons_succ]
                  refine wpAnyT_take (i := 2) (v := ?_) rfl (by decide +kernel) (by decide +kernel) (by decide +kernel) (by decide +kernel) (by decide +kernel) (fun _ _ _ h => h) (Or.inl ⟨by rfl, ?_⟩) (by assumption) ?_
                  rotate_left
                  · intro w hSw; (try dsimp only at hSw); first | (go_simp; done) | (go_simp; with_reducible rfl)
                  try simp only [Act.put, List.getElem_toArray, List.getElem_cons_succ, List.getElem_cons_zero, List.setIfInBounds_toArray, List.set_cons_zero, List.set_cons_succ]
                  refine wpAnyT_take (i := 3) (v := ?_) rfl (by decide +kernel) (by decide +kernel) (by decide +kernel) (by decide +kernel) (by decide +kernel) (fun _ _ _ h => h) (Or.inl ⟨by rfl, ?_⟩) (by assumption) ?_
                  rotate_left
                  · intro w hSw; (try dsimp only at hSw); first | (go_simp; done) | (go_simp; with_reducible rfl)
                  try simp only [Act.put, List.getElem_toArray, List.getElem_cons_succ, List.getElem_cons_zero, List.setIfInBounds_toArray, List.set_cons_zero, List.set_cons_succ]
                  refine wpAnyT_take (i := 4) (v := ?_) rfl (by decide +kernel) (by decide +kernel) (by decide +kernel) (by decide +kernel) (by decide +kernel) (fun _ _ _ h => h) (Or.inl ⟨by rfl, ?_⟩) (by assumption) ?_
                  rotate_left
                  · intro w hSw; (try dsimp only at hSw); first | (go_simp; done) | (go_simp; with_reducible rfl)
                  try simp only [Act.put, List.getElem_toArray, List.getElem_cons_succ, List.getElem_cons_zero, List.setIfInBounds_toArray, List.set_cons_zero, List.set_cons_succ]
                  refine wpAnyT_take (i := 5) (v := ?_) rfl (by decide +kernel) (by decide +kernel) (by decide +kernel) (by decide +kernel) (by decide +kernel) (fun _ _ _ h => h) (Or.inl ⟨by rfl, ?_⟩) (by assumption) ?_
                  rotate_left
                  · intro w hSw; (try dsimp only at hSw); first | (go_simp; done) | (go_simp; with_reducible rfl)
                  try simp only [Act.put, List.getElem_toArray, List.getElem_cons_succ, List.getElem_cons_zero, List.setIfInBounds_toArray, List.set_cons_zero, List.set_cons_succ]
                  refine wpAnyT_take (i := 6) (v := ?_) rfl (by decide +kernel) (by decide +kernel) (by decide +kernel) (by decide +kernel) (by decide +kernel) (fun _ _ _ h => h) (Or.inl ⟨by rfl, ?_⟩) (by assumption) ?_
                  rotate_left
                  · intro w hSw; (try dsimp only at hSw); first | (go_simp; done) | (go_simp; with_reducible rfl)
                  try simp only [Act.put, List.getElem_toArray, List.getElem_cons_succ, List.getElem_cons_zero, List.setIfInBounds_toArray, List.set_cons_zero, List.set_cons_succ]
                  refine wpAnyT_take (i := 7) (v := ?_) rfl (by decide +kernel) (by decide +kernel) (by decide +kernel) (by decide +kernel) (by decide +kernel) (fun _ _ _ h => h) (Or.inl ⟨by rfl, ?_⟩) (by assumption) ?_
                  rotate_left
                  · intro w hSw; (try dsimp only at hSw); first | (go_simp; done) | (go_simp; with_reducible rfl)
                  try simp only [Act.put, List.getElem_toArray, List.getElem_cons_succ, List.getElem_cons_zero, List.setIfInBounds_toArray, List.set_cons_zero, List.set_cons_succ]
                  refine wpAnyT_take (i := 9) (v := ?_) rfl (by decide +kernel) (by decide +kernel) (by decide +kernel) (by decide +kernel) (by decide +kernel) (fun _ _ _ h => h) (Or.inl ⟨by rfl, ?_⟩) (by assumption) ?_
                  rotate_left
                  · intro w hSw; (try dsimp only at hSw); first | (go_simp; done) | (go_simp; with_reducible rfl)
                  try simp only [Act.put, List.getElem_toArray, List.getElem_cons_succ, List.getElem_cons_zero, List.setIfInBounds_toArray, List.set_cons_zero, List.set_cons_succ]
                  refine wpAnyT_take (i := 10) (v := ?_) rfl (by decide +kernel) (by decide +kernel) (by decide +kernel) (by decide +kernel) (by decide +kernel) (fun _ _ _ h => h) (Or.inl ⟨by rfl, ?_⟩) (by assumption) ?_
                  rotate_left
                  · intro w hSw; (try dsimp only at hSw); first | (go_simp; done) | (go_simp; with_reducible rfl)
                  try simp only [Act.put, List.getElem_toArray, List.getElem_cons_succ, List.getElem_cons_zero, List.setIfInBounds_toArray, List.set_cons_zero, List.set_cons_succ]
                  refine wpAnyT_take (i := 11) (v := ?_) rfl (by decide +kernel) (by decide +kernel) (by decide +kernel) (by decide +kernel) (by decide +kernel) (fun _ _ _ h => h) (Or.inl ⟨by rfl, ?_⟩) (by assumption) ?_
                  rotate_left
                  · intro w hSw; (try dsimp only at hSw); first | (go_simp; done) | (go_simp; with_reducible rfl)
                  try simp only [Act.put, List.getElem_toArray, List.getElem_cons_succ, List.getElem_cons_zero, List.setIfInBounds_toArray, List.set_cons_zero, List.set_cons_succ]
                  refine wpAnyT_take (i := 12) (v := ?_) rfl (by decide +kernel) (by decide +kernel) (by decide +kernel) (by decide +kernel) (by decide +kernel) (fun _ _ _ h => h) (Or.inl ⟨by rfl, ?_⟩) (by assumption) ?_
                  rotate_left
                  · intro w hSw; (try dsimp only at hSw); first | (go_simp; done) | (go_simp; with_reducible rfl)
                  try simp only [Act.put, List.getElem_toArray, List.getElem_cons_succ, List.getElem_cons_zero, List.setIfInBounds_toArray, List.set_cons_zero, List.set_cons_succ]
                  refine wpAnyT_take (i := 13) (v := ?_) rfl (by decide +kernel) (by decide +kernel) (by decide +kernel) (by decide +kernel) (by decide +kernel) (fun _ _ _ h => h) (Or.inl ⟨by rfl, ?_⟩) (by assumption) ?_
                  rotate_left
                  · intro w hSw; (try dsimp only at hSw); first | (go_simp; done) | (go_simp; with_reducible rfl)
                  try simp only [Act.put, List.getElem_toArray, List.getElem_cons_succ, List.getElem_cons_zero, List.setIfInBounds_toArray, List.set_cons_zero, List.set_cons_succ]
                  refine wpAnyT_take (i := 14) (v := ?_) rfl (by decide +kernel) (by decide +kernel) (by decide +kernel) (by decide +kernel) (by decide +kernel) (fun _ _ _ h => h) (Or.inl ⟨by rfl, ?_⟩) (by assumption) ?_
                  rotate_left
                  · intro w hSw; (try dsimp only at hSw); first | (go_simp; done) | (go_simp; with_reducible rfl)
                  try simp only [Act.put, List.getElem_toArray, List.getElem_cons_succ, List.getElem_cons_zero, List.setIfInBounds_toArray, List.set_cons_zero, List.set_cons_succ]
                  refine wpAnyT_take (i := 15) (v := ?_) rfl (by decide +kernel) (by decide +kernel) (by decide +kernel) (by decide +kernel) (by decide +kernel) (fun _ _ _ h => h) (Or.inl ⟨by rfl, ?_⟩) (by assumption) ?_
                  rotate_left
                  · intro w hSw; (try dsimp only at hSw); first | (go_simp; done) | (go_simp; with_reducible rfl)
                  try simp only [Act.put, List.getElem_toArray, List.getElem_cons_succ, List.getElem_cons_zero, List.setIfInBounds_toArray, List.set_cons_zero, List.set_cons_succ]
                  refine wpAnyT_take (i := 16) (v := ?_) rfl (by decide +kernel) (by decide +kernel) (by decide +kernel) (by decide +kernel) (by decide +kernel) (fun _ _ _ h => h) (Or.inl ⟨by rfl, ?_⟩) (by assumption) ?_
                  rotate_left
                  · intro w hSw; (try dsimp only at hSw); first | (go_simp; done) | (go_simp; with_reducible rfl)
                  try simp only [Act.put, List.getElem_toArray, List.getElem_cons_succ, List.getElem_cons_zero, List.setIfInBounds_toArray, List.set_cons_zero, List.set_cons_succ]
                  refine wpAnyT_one (i := 8) (by kernel_rfl) rfl (fun K hK => ?_)
                  go_simp
                  (refine (Value_any _ _ _ _ _ _ _ _ _ _ _ _ _ _ _ _ _ _).mono ?_; rw [HV.out]; rintro e w' ⟨rfl, hb'⟩)
                  refine hK.out _ _ ?_ (fun hHeld2 => ?_)
                  · (try dsimp only); exact ⟨(hb'.cell (p := ⟨L, k * 16, none⟩) (World.block_lt_of_cell? _ _ hHeld.1)).trans hHeld.1, (hb'.cell (p := ⟨L, k * 16 + 1, none⟩) (World.block_lt_of_cell? _ _ hHeld.2.1)).trans hHeld.2.1, (hb'.cell (p := ⟨L, k * 16 + 2, none⟩) (World.block_lt_of_cell? _ _ hHeld.2.2.1)).trans hHeld.2.2.1, (hb'.cell (p := ⟨L, k * 16 + 3, none⟩) (World.block_lt_of_cell? _ _ hHeld.2.2.2.1)).trans hHeld.2.2.2.1, (hb'.cell (p := ⟨L, k * 16 + 4, none⟩) (World.block_lt_of_cell? _ _ hHeld.2.2.2.2.1)).trans hHeld.2.2.2.2.1, (hb'.cell (p := ⟨L, k * 16 + 5, none⟩) (World.block_lt_of_cell? _ _ hHeld.2.2.2.2.2.1)).trans hHeld.2.2.2.2.2.1, (hb'.cell (p := ⟨L, k * 16 + 6, none⟩) (World.block_lt_of_cell? _ _ hHeld.2.2.2.2.2.2.1)).trans hHeld.2.2.2.2.2.2.1, (hb'.cell (p := ⟨L, k * 16 + 7, none⟩) (World.block_lt_of_cell? _ _ hHeld.2.2.2.2.2.2.2.1)).trans hHeld.2.2.2.2.2.2.2.1, (hb'.cell (p := ⟨L, k * 16 + 8, none⟩) (World.block_lt_of_cell? _ _ hHeld.2.2.2.2.2.2.2.2.1)).trans hHeld.2.2.2.2.2.2.2.2.1, (hb'.cell (p := ⟨L, k * 16 + 9, none⟩) (World.block_lt_of_cell? _ _ hHeld.2.2.2.2.2.2.2.2.2.1)).trans hHeld.2.2.2.2.2.2.2.2.2.1, (hb'.cell (p := ⟨L, k * 16 + 10, none⟩) (World.block_lt_of_cell? _ _ hHeld.2.2.2.2.2.2.2.2.2.2.1)).trans hHeld.2.2.2.2.2.2.2.2.2.2.1, (hb'.cell (p := ⟨L, k * 16 + 11, none⟩) (World.block_lt_of_cell? _ _ hHeld.2.2.2.2.2.2.2.2.2.2.2.1)).trans hHeld.2.2.2.2.2.2.2.2.2.2.2.1, (hb'.cell (p := ⟨L, k * 16 + 12, none⟩) (World.block_lt_of_cell? _ _ hHeld.2.2.2.2.2.2.2.2.2.2.2.2.1)).trans hHeld.2.2.2.2.2.2.2.2.2.2.2.2.1, (hb'.cell (p := ⟨L, k * 16 + 13, none⟩) (World.block_lt_of_cell? _ _ hHeld.2.2.2.2.2.2.2.2.2.2.2.2.2.1)).trans hHeld.2.2.2.2.2.2.2.2.2.2.2.2.2.1, (hb'.cell (p := ⟨L, k * 16 + 14, none⟩) (World.block_lt_of_cell? _ _ hHeld.2.2.2.2.2.2.2.2.2.2.2.2.2.2.1)).trans hHeld.2.2.2.2.2.2.2.2.2.2.2.2.2.2.1, (hb'.cell (p := ⟨L, k * 16 + 15, none⟩) (World.block_lt_of_cell? _ _ hHeld.2.2.2.2.2.2.2.2.2.2.2.2.2.2.2.1)).trans hHeld.2.2.2.2.2.2.2.2.2.2.2.2.2.2.2.1, (hb'.cell (p := ⟨bt, ot + m, none⟩) (World.block_lt_of_cell? _ _ hHeld.2.2.2.2.2.2.2.2.2.2.2.2.2.2.2.2.1)).trans hHeld.2.2.2.2.2.2.2.2.2.2.2.2.2.2.2.2.1, hHeld.2.2.2.2.2.2.2.2.2.2.2.2.2.2.2.2.2.trans (hb'.mono hHeld.2.2.2.2.2.2.2.2.2.2.2.2.2.2.2.2.2.size)⟩
                  clear hK K hHeld
                  have hHeld := hHeld2
                  clear hHeld2
                  try simp only [Act.put, List.getElem_toArray, List.getElem_cons_succ, List.getElem_cons_zero, List.setIfInBounds_toArray, List.set_cons_zero, List.set_cons_succ]
                  clear hb'
                  refine wpAnyT_one (i := 17) (by kernel_rfl) rfl (fun K hK => ?_)
                  go_simp
                  (refine (rValue_any _ _ _ _ _ _ _ _ _ _ _ _ _ _ _ _ _ _).mono ?_; rw [HV.out]; rintro e w8 ⟨rfl, hb'⟩)
                  refine hK.out _ _ ?_ (fun hHeld2 => ?_)
                  · (try dsimp only); exact ⟨(hb'.cell (p := ⟨L, k * 16, none⟩) (World.block_lt_of_cell? _ _ hHeld.1)).trans hHeld.1, (hb'.cell (p := ⟨L, k * 16 + 1, none⟩) (World.block_lt_of_cell? _ _ hHeld.2.1)).trans hHeld.2.1, (hb'.cell (p := ⟨L, k * 16 + 2, none⟩) (World.block_lt_of_cell? _ _ hHeld.2.2.1)).trans hHeld.2.2.1, (hb'.cell (p := ⟨L, k * 16 + 3, none⟩) (World.block_lt_of_cell? _ _ hHeld.2.2.2.1)).trans hHeld.2.2.2.1, (hb'.cell (p := ⟨L, k * 16 + 4, none⟩) (World.block_lt_of_cell? _ _ hHeld.2.2.2.2.1)).trans hHeld.2.2.2.2.1, (hb'.cell (p := ⟨L, k * 16 + 5, none⟩) (World.block_lt_of_cell? _ _ hHeld.2.2.2.2.2.1)).trans hHeld.2.2.2.2.2.1, (hb'.cell (p := ⟨L, k * 16 + 6, none⟩) (World.block_lt_of_cell? _ _ hHeld.2.2.2.2.2.2.1)).trans hHeld.2.2.2.2.2.2.1, (hb'.cell (p := ⟨L, k * 16 + 7, none⟩) (World.block_lt_of_cell? _ _ hHeld.2.2.2.2.2.2.2.1)).trans hHeld.2.2.2.2.2.2.2.1, (hb'.cell (p := ⟨L, k * 16 + 8, none⟩) (World.block_lt_of_cell? _ _ hHeld.2.2.2.2.2.2.2.2.1)).trans hHeld.2.2.2.2.2.2.2.2.1, (hb'.cell (p := ⟨L, k * 16 + 9, none⟩) (World.block_lt_of_cell? _ _ hHeld.2.2.2.2.2.2.2.2.2.1)).trans hHeld.2.2.2.2.2.2.2.2.2.1, (hb'.cell (p := ⟨L, k * 16 + 10, none⟩) (World.block_lt_of_cell? _ _ hHeld.2.2.2.2.2.2.2.2.2.2.1)).trans hHeld.2.2.2.2.2.2.2.2.2.2.1, (hb'.cell (p := ⟨L, k * 16 + 11, none⟩) (World.block_lt_of_cell? _ _ hHeld.2.2.2.2.2.2.2.2.2.2.2.1)).trans hHeld.2.2.2.2.2.2.2.2.2.2.2.1, (hb'.cell (p := ⟨L, k * 16 + 12, none⟩) (World.block_lt_of_cell? _ _ hHeld.2.2.2.2.2.2.2.2.2.2.2.2.1)).trans hHeld.2.2.2.2.2.2.2.2.2.2.2.2.1, (hb'.cell (p := ⟨L, k * 16 + 13, none⟩) (World.block_lt_of_cell? _ _ hHeld.2.2.2.2.2.2.2.2.2.2.2.2.2.1)).trans hHeld.2.2.2.2.2.2.2.2.2.2.2.2.2.1, (hb'.cell (p := ⟨L, k * 16 + 14, none⟩) (World.block_lt_of_cell? _ _ hHeld.2.2.2.2.2.2.2.2.2.2.2.2.2.2.1)).trans hHeld.2.2.2.2.2.2.2.2.2.2.2.2.2.2.1, (hb'.cell (p := ⟨L, k * 16 + 15, none⟩) (World.block_lt_of_cell? _ _ hHeld.2.2.2.2.2.2.2.2.2.2.2.2.2.2.2.1)).trans hHeld.2.2.2.2.2.2.2.2.2.2.2.2.2.2.2.1, (hb'.cell (p := ⟨bt, ot + m, none⟩) (World.block_lt_of_cell? _ _ hHeld.2.2.2.2.2.2.2.2.2.2.2.2.2.2.2.2.1)).trans hHeld.2.2.2.2.2.2.2.2.2.2.2.2.2.2.2.2.1, hHeld.2.2.2.2.2.2.2.2.2.2.2.2.2.2.2.2.2.trans (hb'.mono hHeld.2.2.2.2.2.2.2.2.2.2.2.2.2.2.2.2.2.size)⟩
                  clear hK K hHeld
                  have hHeld := hHeld2
                  clear hHeld2
                  try simp only [Act.put, List.getElem_toArray, List.getElem_cons_succ, List.getElem_cons_zero, List.setIfInBounds_toArray, List.set_cons_zero, List.set_cons_succ]
                  clear hb'
                  have HB8 := Lib.hid hHeld.2.2.2.2.2.2.2.2.2.2.2.2.2.2.2.2.2
                  refine wpAnyT_last (i := 18) (by kernel_rfl) (by kernel_rfl) rfl (by kernel_rfl) (fun K hK => ?_)
                  go_simp
                  refine hK.out _ _ ?_
                  clear hK K
                  try simp only [Act.put, List.getElem_toArray, List.getElem_cons_succ, List.getElem_cons_zero, List.setIfInBounds_toArray, List.set_cons_zero, List.set_cons_succ]
                  clear hHeld
                  go_wp2
                  go_roundw
                  case rel => exact ⟨m + 1, by omega, by go_num, HBR2.out.trans (HB8.out.mono HBR2.out.size)⟩
                  case measure => simp [intOf]; omega
              · obtain rfl : m = 4 := by omega
                go_wp2
                go_roundw
                case rel => exact ⟨k + 1, by omega, by go_num, HBX2.out⟩
                case measure => simp [intOf]; omega
        · obtain rfl : k = 3 := by omega
          as_aux_lemma =>
            have HWR : Hid (Below w.heap.size w wr) := HBB.out.trans (hbr.mono HBB.out.size)
            have HISR := Lib.hid (HIS.out.of_below hbr)
            clear hbr
            go_wp2_with fail
            refine (reduce_any _ l _ HISR.out (by rw [HL3.out]; omega)).mono ?_
            rintro e w20 ⟨q1, rfl, hq1, hb⟩
            have HQ1 := Lib.hid hq1
            have HIS2 := Lib.hid (HISR.out.of_below hb)
            have HW20 : Hid (Below w.heap.size w w20) := HWR.out.trans (hb.mono HWR.out.size)
            clear hq1 hb HISR HWR
            go_wp2_with fail
            refine (rreduce_any _ l _ HIS2.out (by rw [HL3.out]; omega)).mono ?_
            rintro e w21 ⟨q2, rfl, hq2, hb⟩
            have HQ2 := Lib.hid hq2
            have HQ1' := Lib.hid (HQ1.out.of_below hb)
            have HW21 : Hid (Below w.heap.size w w21) := HW20.out.trans (hb.mono HW20.out.size)
            clear hq2 hb HQ1 HW20 HIS2
            go_wp2_with fail
            refine (eqmot_same _ _ (l.map redR) _ HQ1'.out HQ2.out (by simp [HL3.out])).mono ?_
            rintro e w22 ⟨rfl, nq, rfl⟩
            go_wp2_with fail
            refine (awake_any _).mono ?_
            rintro e w23 ⟨rfl, hb⟩
            have HW23 : Hid (Below w.heap.size w w23) := (HW21.out.trans (Joins.below_draws _ _ _)).trans (hb.mono HW21.out.size)
            clear hb
            go_wp2
            go_ret
            exact ⟨rfl, HW23.out⟩
theorem walk_AnimationRaw (v0 : Value) (a : Anim) (v1 : Value) (now : Int) (v2 : Value) (xs : List Int) (w : World) (h0 : InAnim v0 a) (h1 : v1 = .int .i64 now ∧ (Lit.int .i64 now).wf = true) (h2 : InInts w v2 xs) :
    Calls Try.prog 6 #[v0, v1, v2] w (True_ w) := by
  obtain ⟨rfl, -⟩ := h1
  unfold InAnim at h0
  subst h0
  exact raw_core _ _ _ _ _ _ _ _ _ _ _ _ _ _ _ _ now v2 xs w h2
end Go.Proofs.Ytfcffmjmohkpoaa

