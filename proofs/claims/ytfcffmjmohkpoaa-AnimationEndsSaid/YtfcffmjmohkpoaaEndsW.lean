/- The walk of the law AnimationEnds (printed by wip/gen_ends.py). -/
import Derived.Test.YtfcffmjmohkpoaaAdvance
import Derived.Test.YtfcffmjmohkpoaaSrcAnim
import Derived.Test.YtfcffmjmohkpoaaLitL
import Derived.Test.YtfcffmjmohkpoaaValidR
import Derived.Test.YtfcffmjmohkpoaaLits
import Derived.Test.YtfcffmjmohkpoaaAwake36
import Derived.Test.YtfcffmjmohkpoaaEndsPlain
import Derived.Lib.SmallJoins
namespace Go.Proofs.Ytfcffmjmohkpoaa
open Go.RowKit
set_option linter.unusedVariables false
set_option linter.unusedSimpArgs false

set_option maxHeartbeats 2000000 in
set_option maxRecDepth 100000 in
theorem lit_42 {ops : Array Oper} {rest : List Oper} {Q : Exit → Act → World → Prop} {t1 t2 : TypeId} {s1 s2 : String} {e1 e2 : Array Edge} {r0 r1 r2 r3 r4 r5 r6 r7 r8 r9 r10 r11 r12 r13 r14 r15 : Int} {u0 u1 u2 u3 u5 u6 u7 u8 u9 u10 u11 u12 u13 u14 u15 u16 u17 u18 u19 u20 u21 u22 u23 u24 u25 u26 u27 u28 u29 u30 u31 u32 u33 u34 u35 u36 u37 u38 u39 u40 u41 u42 u43 u44 u45 u46 u47 u48 u49 u50 u51 u52 u53 u54 u55 u56 u57 u58 u59 u60 u61 u62 u63 u64 u65 u66 u67 u68 u69 u70 u71 u72 u73 u74 u75 u76 u77 u78 u79 u80 u81 u82 u83 u84 : Value} {A0 : Nat} {w : World} (HBA : AnimBlk w A0 38 [.int .i64 r0, .int .i64 r1, .int .i64 r2, .int .i64 r3, .int .i64 r4, .int .i64 r5, .int .i64 r6, .int .i64 r7, .int .i64 r8, .int .i64 r9, .int .i64 r10, .int .i64 r11, .int .i64 r12, .int .i64 r13, .int .i64 r14, .int .i64 r15])
   (hQ : wpList Try.prog ops Q rest ⟨#[u0, u1, u2, u3, .pointer (some ⟨A0, 0, none⟩), u5, u6, u7, u8, u9, u10, u11, u12, u13, u14, u15, u16, u17, u18, u19, u20, u21, u22, u23, u24, u25, u26, u27, u28, u29, u30, u31, u32, u33, u34, u35, u36, u37, u38, u39, u40, u41, .agg #[.int .i64 r0, .int .i64 r1, .int .i64 r2, .int .i64 r3, .int .i64 r4, .int .i64 r5, .int .i64 r6, .int .i64 r7, .int .i64 r8, .int .i64 r9, .int .i64 r10, .int .i64 r11, .int .i64 r12, .int .i64 r13, .int .i64 r14, .int .i64 r15], .slice (some ⟨w.heap.size, 0, none⟩) 1 1, u44, u45, u46, u47, u48, u49, u50, u51, u52, u53, u54, u55, u56, u57, u58, u59, u60, u61, u62, u63, u64, u65, u66, u67, u68, u69, u70, u71, u72, u73, u74, u75, u76, u77, u78, u79, u80, u81, u82, u83, u84], []⟩ (w.alloc (.cells #[.int .i64 r0, .int .i64 r1, .int .i64 r2, .int .i64 r3, .int .i64 r4, .int .i64 r5, .int .i64 r6, .int .i64 r7, .int .i64 r8, .int .i64 r9, .int .i64 r10, .int .i64 r11, .int .i64 r12, .int .i64 r13, .int .i64 r14, .int .i64 r15] 38))) :
   wpList Try.prog ops Q (⟨some 42, .load 38 (.tmp 4), t1, s1, e1, none⟩ :: ⟨some 43, .buildSlice 40 1 #[(0, .tmp 42)], t2, s2, e2, none⟩ :: rest) ⟨#[u0, u1, u2, u3, .pointer (some ⟨A0, 0, none⟩), u5, u6, u7, u8, u9, u10, u11, u12, u13, u14, u15, u16, u17, u18, u19, u20, u21, u22, u23, u24, u25, u26, u27, u28, u29, u30, u31, u32, u33, u34, u35, u36, u37, u38, u39, u40, u41, u42, u43, u44, u45, u46, u47, u48, u49, u50, u51, u52, u53, u54, u55, u56, u57, u58, u59, u60, u61, u62, u63, u64, u65, u66, u67, u68, u69, u70, u71, u72, u73, u74, u75, u76, u77, u78, u79, u80, u81, u82, u83, u84], []⟩ w := by
  obtain ⟨G, hG⟩ : ∃ G, wpList Try.prog ops Q rest ⟨#[u0, u1, u2, u3, .pointer (some ⟨A0, 0, none⟩), u5, u6, u7, u8, u9, u10, u11, u12, u13, u14, u15, u16, u17, u18, u19, u20, u21, u22, u23, u24, u25, u26, u27, u28, u29, u30, u31, u32, u33, u34, u35, u36, u37, u38, u39, u40, u41, .agg #[.int .i64 r0, .int .i64 r1, .int .i64 r2, .int .i64 r3, .int .i64 r4, .int .i64 r5, .int .i64 r6, .int .i64 r7, .int .i64 r8, .int .i64 r9, .int .i64 r10, .int .i64 r11, .int .i64 r12, .int .i64 r13, .int .i64 r14, .int .i64 r15], .slice (some ⟨w.heap.size, 0, none⟩) 1 1, u44, u45, u46, u47, u48, u49, u50, u51, u52, u53, u54, u55, u56, u57, u58, u59, u60, u61, u62, u63, u64, u65, u66, u67, u68, u69, u70, u71, u72, u73, u74, u75, u76, u77, u78, u79, u80, u81, u82, u83, u84], []⟩ (w.alloc (.cells #[.int .i64 r0, .int .i64 r1, .int .i64 r2, .int .i64 r3, .int .i64 r4, .int .i64 r5, .int .i64 r6, .int .i64 r7, .int .i64 r8, .int .i64 r9, .int .i64 r10, .int .i64 r11, .int .i64 r12, .int .i64 r13, .int .i64 r14, .int .i64 r15] 38)) = G := ⟨_, rfl⟩
  rw [hG] at hQ
  refine load_anim rfl _ rfl A0 rfl _ _ HBA ?_
  refine wpList_step (fun K hK => ?_)
  have HK := Lib.hid hK
  clear hK
  go_wp2
  refine HK.out _ _ ?_
  rw [hG]
  exact hQ

theorem one_motion2 {w : World} {u : Value} {r : Rec} (h : IsRecs 3 w u [r]) : ∃ b off cap, u = .slice (some ⟨b, off, none⟩) 1 cap ∧ b < w.heap.size ∧ cap ≤ maxLen ∧ 1 ≤ cap ∧ w.cell? ⟨b, off + 2, none⟩ = some (.int .i64 (r.getD 2 0)) := by
  obtain ⟨a, cap, rfl, h1, h2, h3⟩ := h
  obtain ⟨b, off, rfl, hlt, hc⟩ := h3 (by simp)
  have k := hc 0 (by simp)
  rw [Nat.zero_mul, Nat.add_zero] at k
  exact ⟨b, off, cap, rfl, hlt, h2, h1, k 2 (by omega)⟩
/-- What Advance gives of an animation that ends. -/
def Ended (V : Int) (w : World) (e : Ending) (w' : World) : Prop := ∃ a cap bm om cm, e = .returned (.tuple #[.slice a 0 cap, .slice (some ⟨bm, om, none⟩) 1 cm, .int .i64 0]) ∧ cap ≤ maxLen ∧ 1 ≤ cm ∧ cm ≤ maxLen ∧ w'.cell? ⟨bm, om + 2, none⟩ = some (.int .i64 V) ∧ Below w.heap.size w w'
theorem adv_ends (v : Value) (a : Anim) (now : Int) (w : World) (hv : IsAnims w v [a]) (h0 : advErr [a] now = 0) (h1 : advOn [a] now = []) (h2 : a.value now = a.goal) :
    Calls Try.prog 30 #[v, .int .i64 now] w (Ended a.goal w) := by
  refine (advance_any v [a] now w hv).mono ?_
  rintro e w' ⟨x, m, rfl, hx, hm, hb⟩
  rw [h1] at hx
  rw [advOut, if_pos h0] at hm
  obtain ⟨aa, cap, rfl, k1, k2, -⟩ := hx.open_
  obtain ⟨bm, om, cm, rfl, -, l2, l1, l3⟩ := one_motion2 (r := motionR now a) hm
  rw [show (motionR now a).getD 2 0 = a.value now from rfl, h2] at l3
  exact ⟨aa, cap, bm, om, cm, by rw [h0]; rfl, k2, l1, l2, l3, hb⟩

set_option maxHeartbeats 16000000 in
set_option maxRecDepth 100000 in
theorem walk_AnimationEnds (v0 : Value) (xs : List Int) (w : World) (h0 : InInts w v0 xs) : Calls Try.prog 8 #[v0] w (True_ w) := by
  have HU := Lib.hid h0
  clear h0
  go_enter Try.func8, Try.ntmps8
  go_wp2_with fail
  refine (srcNew_any _ xs _ HU.out).mono ?_
  rintro e w1 ⟨g, rfl, hs, hg0, hg1, hb⟩
  have HG : Hid (w.heap.size ≤ g) := hg0
  have HS1 := Lib.hid hs
  have HB1 := Lib.hid hb
  clear hs hg0 hg1 hb
  go_wp2_with fail
  refine (src_anim g _ HS1.out).mono ?_
  rintro e w2 ⟨e0, e1, e2, e3, e4, e5, e6, e7, e8, e9, e10, e11, e12, e13, e14, e15, rfl, hs, hg⟩
  have HB2 := Lib.hid (HB1.out.trans (grownBy_below hg HG.out HS1.out.lt))
  clear hs hg HS1 HB1 HU HG
  obtain ⟨t3, h3⟩ : ∃ t, e3.tmod 2000 = t := ⟨_, rfl⟩
  obtain ⟨t4, h4⟩ : ∃ t, e4.tmod 2000 = t := ⟨_, rfl⟩
  obtain ⟨t5, h5⟩ : ∃ t, e5.tmod 50 = t := ⟨_, rfl⟩
  obtain ⟨t14, h14⟩ : ∃ t, e14.tmod 100000 = t := ⟨_, rfl⟩
  have r3 := tmod_range e3 2000 (by omega)
  have r4 := tmod_range e4 2000 (by omega)
  have r5 := tmod_range e5 50 (by omega)
  have r14 := tmod_range e14 100000 (by omega)
  rw [h3] at r3
  rw [h4] at r4
  rw [h5] at r5
  rw [h14] at r14
  have i3 : IntKind.i64.wrap t3 = t3 := IntWalk.i64_in _ (by omega)
  have i4 : IntKind.i64.wrap t4 = t4 := IntWalk.i64_in _ (by omega)
  have i5 : IntKind.i64.wrap t5 = t5 := IntWalk.i64_in _ (by omega)
  have i14 : IntKind.i64.wrap t14 = t14 := IntWalk.i64_in _ (by omega)
  have i13 : IntKind.i64.wrap (65536 * t3) = 65536 * t3 := IntWalk.i64_in _ (by omega)
  go_wp2_with (refine halt_dst 37 ?_; intro G HGo)
  clear h3 h4 h5 h14 i3 i4 i5 i14 i13 r3 r4 r14
  obtain ⟨b, hh⟩ : ∃ b, w2.heap.size = b := ⟨_, rfl⟩
  have HH3 : Hid (AnimBlk (w2.alloc (.cells #[.int .i64 e0, .int .i64 e1, .int .i64 e2, .int .i64 t3, .int .i64 t4, .int .i64 t5, .int .i64 e6, .int .i64 e7, .int .i64 e8, .int .i64 e9, .int .i64 e10, .int .i64 e11, .int .i64 e12, .int .i64 (65536 * t3), .int .i64 t14, .int .i64 t5] 38)) b 38 [.int .i64 e0, .int .i64 e1, .int .i64 e2, .int .i64 t3, .int .i64 t4, .int .i64 t5, .int .i64 e6, .int .i64 e7, .int .i64 e8, .int .i64 e9, .int .i64 e10, .int .i64 e11, .int .i64 e12, .int .i64 (65536 * t3), .int .i64 t14, .int .i64 t5]) := ⟨rfl, by rw [← hh]; exact heap_alloc_new w2 _⟩
  have HB3 : Hid (Below w.heap.size w (w2.alloc (.cells #[.int .i64 e0, .int .i64 e1, .int .i64 e2, .int .i64 t3, .int .i64 t4, .int .i64 t5, .int .i64 e6, .int .i64 e7, .int .i64 e8, .int .i64 e9, .int .i64 e10, .int .i64 e11, .int .i64 e12, .int .i64 (65536 * t3), .int .i64 t14, .int .i64 t5] 38))) := HB2.out.alloc HB2.out.size _
  rw [hh] at HGo
  obtain ⟨w3, hw3⟩ : ∃ w3, w2.alloc (.cells #[.int .i64 e0, .int .i64 e1, .int .i64 e2, .int .i64 t3, .int .i64 t4, .int .i64 t5, .int .i64 e6, .int .i64 e7, .int .i64 e8, .int .i64 e9, .int .i64 e10, .int .i64 e11, .int .i64 e12, .int .i64 (65536 * t3), .int .i64 t14, .int .i64 t5] 38) = w3 := ⟨_, rfl⟩
  refine HGo.out ?_
  clear HGo
  rw [hw3] at HH3 HB3 ⊢
  clear hw3 hh HB2
  obtain ⟨er, her⟩ : ∃ er, (⟨e0, e1, e2, t3, t4, t5, e6, e7, e8, e9, e10, e11, e12, (65536 * t3), t14, t5⟩ : Anim).err = er := ⟨_, rfl⟩
  have HER := Lib.hid her
  clear her
  go_wp2_with (first | (refine load_anim rfl _ rfl b rfl _ _ HH3.out ?_))
  refine (rValidate_any _ _ _ _ _ _ _ _ _ _ _ _ _ _ _ _ _).mono ?_
  rw [HER.out]
  rintro e w4 ⟨rfl, hb⟩
  have HH4 : Hid (AnimBlk w4 b 38 [.int .i64 e0, .int .i64 e1, .int .i64 e2, .int .i64 t3, .int .i64 t4, .int .i64 t5, .int .i64 e6, .int .i64 e7, .int .i64 e8, .int .i64 e9, .int .i64 e10, .int .i64 e11, .int .i64 e12, .int .i64 (65536 * t3), .int .i64 t14, .int .i64 t5]) := HH3.out.kept hb HH3.out.lt
  have HB4 : Hid (Below w.heap.size w w4) := HB3.out.trans (hb.mono HB3.out.size)
  clear hb HH3 HB3
  by_cases hz : er = 0
  · have hEP := ends_plain (a := (⟨e0, e1, e2, t3, t4, t5, e6, e7, e8, e9, e10, e11, e12, (65536 * t3), t14, t5⟩ : Anim)) (by rw [HER.out]; exact hz) (by show t5 ≤ 50; omega) rfl
    have HEP := Lib.hid hEP
    have hz1 : (er != 0) = false := by simpa using hz
    clear hEP
    have hw5 : IntKind.i64.wrap (t5 + 10000) = t5 + 10000 := IntWalk.i64_in _ (by omega)
    have HW5 := Lib.hid hw5
    clear hz r5 hw5
    as_aux_lemma =>
      go_wp2_with (refine halt_dst 42 ?_; intro G HGo)
      refine HGo.out ?_
      clear HGo
      refine lit_42 HH4.out ?_
      have c5 : (w4.alloc (.cells #[.int .i64 e0, .int .i64 e1, .int .i64 e2, .int .i64 t3, .int .i64 t4, .int .i64 t5, .int .i64 e6, .int .i64 e7, .int .i64 e8, .int .i64 e9, .int .i64 e10, .int .i64 e11, .int .i64 e12, .int .i64 (65536 * t3), .int .i64 t14, .int .i64 t5] 38)).cell? ⟨b, 5, none⟩ = some (.int .i64 t5) := ((HH4.out.alloc _).cell 5).trans rfl
      have hw5 := HW5.out
      go_wp2_with fail
      refine (adv_ends _ (⟨e0, e1, e2, t3, t4, t5, e6, e7, e8, e9, e10, e11, e12, (65536 * t3), t14, t5⟩ : Anim) _ _ (lit_anim (⟨e0, e1, e2, t3, t4, t5, e6, e7, e8, e9, e10, e11, e12, (65536 * t3), t14, t5⟩ : Anim) (heap_alloc_new _ _)) HEP.out.1 HEP.out.2.1 HEP.out.2.2).mono ?_
      rintro e w5 ⟨xa, xc, bm, om, cm, rfl, x1, x2, x3, m2, hb⟩
      have hb4 := (((Below.refl w4.heap.size w4).alloc (Nat.le_refl _) (.cells #[.int .i64 e0, .int .i64 e1, .int .i64 e2, .int .i64 t3, .int .i64 t4, .int .i64 t5, .int .i64 e6, .int .i64 e7, .int .i64 e8, .int .i64 e9, .int .i64 e10, .int .i64 e11, .int .i64 e12, .int .i64 (65536 * t3), .int .i64 t14, .int .i64 t5] 38)).trans (hb.mono (by simp)))
      have HH5 : Hid (AnimBlk w5 b 38 [.int .i64 e0, .int .i64 e1, .int .i64 e2, .int .i64 t3, .int .i64 t4, .int .i64 t5, .int .i64 e6, .int .i64 e7, .int .i64 e8, .int .i64 e9, .int .i64 e10, .int .i64 e11, .int .i64 e12, .int .i64 (65536 * t3), .int .i64 t14, .int .i64 t5]) := HH4.out.kept hb4 HH4.out.lt
      have HB5 : Hid (Below w.heap.size w w5) := HB4.out.trans (hb4.mono HB4.out.size)
      clear hb hb4 HH4 HB4 c5
      unfold maxLen at x1 x3
      go_upto_region 8 with fail
      have c0 : w5.cell? ⟨b, 0, none⟩ = some (.int .i64 e0) := (HH5.out.cell 0).trans rfl
      have c1 : w5.cell? ⟨b, 1, none⟩ = some (.int .i64 e1) := (HH5.out.cell 1).trans rfl
      have c2 : w5.cell? ⟨b, 2, none⟩ = some (.int .i64 e2) := (HH5.out.cell 2).trans rfl
      have c3 : w5.cell? ⟨b, 3, none⟩ = some (.int .i64 t3) := (HH5.out.cell 3).trans rfl
      have c4 : w5.cell? ⟨b, 4, none⟩ = some (.int .i64 t4) := (HH5.out.cell 4).trans rfl
      have c5 : w5.cell? ⟨b, 5, none⟩ = some (.int .i64 t5) := (HH5.out.cell 5).trans rfl
      have c6 : w5.cell? ⟨b, 6, none⟩ = some (.int .i64 e6) := (HH5.out.cell 6).trans rfl
      have c7 : w5.cell? ⟨b, 7, none⟩ = some (.int .i64 e7) := (HH5.out.cell 7).trans rfl
      have c8 : w5.cell? ⟨b, 8, none⟩ = some (.int .i64 e8) := (HH5.out.cell 8).trans rfl
      have c9 : w5.cell? ⟨b, 9, none⟩ = some (.int .i64 e9) := (HH5.out.cell 9).trans rfl
      have c10 : w5.cell? ⟨b, 10, none⟩ = some (.int .i64 e10) := (HH5.out.cell 10).trans rfl
      have c11 : w5.cell? ⟨b, 11, none⟩ = some (.int .i64 e11) := (HH5.out.cell 11).trans rfl
      have c12 : w5.cell? ⟨b, 12, none⟩ = some (.int .i64 e12) := (HH5.out.cell 12).trans rfl
      have c13 : w5.cell? ⟨b, 13, none⟩ = some (.int .i64 (65536 * t3)) := (HH5.out.cell 13).trans rfl
      have c14 : w5.cell? ⟨b, 14, none⟩ = some (.int .i64 t14) := (HH5.out.cell 14).trans rfl
      have c15 : w5.cell? ⟨b, 15, none⟩ = some (.int .i64 t5) := (HH5.out.cell 15).trans rfl
      have M2 : w5.cell? ⟨bm, om + 2, none⟩ = some (.int .i64 t4) := m2
      clear m2
      have m2 := M2
      clear M2
      refine wp_region_T (S := (fun w' => w'.cell? ⟨bm, om + 2, none⟩ = some (.int .i64 t4) ∧ w'.cell? ⟨b, 0, none⟩ = some (.int .i64 e0) ∧ w'.cell? ⟨b, 1, none⟩ = some (.int .i64 e1) ∧ w'.cell? ⟨b, 2, none⟩ = some (.int .i64 e2) ∧ w'.cell? ⟨b, 3, none⟩ = some (.int .i64 t3) ∧ w'.cell? ⟨b, 4, none⟩ = some (.int .i64 t4) ∧ w'.cell? ⟨b, 5, none⟩ = some (.int .i64 t5) ∧ w'.cell? ⟨b, 6, none⟩ = some (.int .i64 e6) ∧ w'.cell? ⟨b, 7, none⟩ = some (.int .i64 e7) ∧ w'.cell? ⟨b, 8, none⟩ = some (.int .i64 e8) ∧ w'.cell? ⟨b, 9, none⟩ = some (.int .i64 e9) ∧ w'.cell? ⟨b, 10, none⟩ = some (.int .i64 e10) ∧ w'.cell? ⟨b, 11, none⟩ = some (.int .i64 e11) ∧ w'.cell? ⟨b, 12, none⟩ = some (.int .i64 e12) ∧ w'.cell? ⟨b, 13, none⟩ = some (.int .i64 (65536 * t3)) ∧ w'.cell? ⟨b, 14, none⟩ = some (.int .i64 t14) ∧ w'.cell? ⟨b, 15, none⟩ = some (.int .i64 t5) ∧ Below w.heap.size w w')) 34 (by kernel_rfl) (⟨m2, c0, c1, c2, c3, c4, c5, c6, c7, c8, c9, c10, c11, c12, c13, c14, c15, HB5.out.drew⟩) (fun hHeld => ?_)
      clear m2 c0 c1 c2 c3 c4 c5 c6 c7 c8 c9 c10 c11 c12 c13 c14 c15
      refine wpAnyT_take (i := 0) (v := ?_) rfl (by decide +kernel) (by decide +kernel) (by decide +kernel) (by decide +kernel) (by decide +kernel) (fun _ _ _ h => h) (Or.inl ⟨by rfl, ?_⟩) (by assumption) ?_
      rotate_left
      · intro w hSw; (try dsimp only at hSw); first | (go_simp; done) | (go_simp; with_reducible rfl)
      try simp only [Act.put, List.getElem_toArray, List.getElem_cons_succ, List.getElem_cons_zero, List.setIfInBounds_toArray, List.set_cons_zero, List.set_cons_succ]
      refine wpAnyT_take (i := 1) (v := ?_) rfl (by decide +kernel) (by decide +kernel) (by decide +kernel) (by decide +kernel) (by decide +kernel) (fun _ _ _ h => h) (Or.inl ⟨by rfl, ?_⟩) (by assumption) ?_
      rotate_left
      · intro w hSw; (try dsimp only at hSw); first | (go_simp; done) | (go_simp; with_reducible rfl)
      try simp only [Act.put, List.getElem_toArray, List.getElem_cons_succ, List.getElem_cons_zero, List.setIfInBounds_toArray, List.set_cons_zero, List.set_cons_succ]
      refine wpAnyT_take (i := 2) (v := ?_) rfl (by decide +kernel) (by decide +kernel) (by decide +kernel) (by decide +kernel) (by decide +kernel) (fun _ _ _ h => h) (Or.inl ⟨by rfl, ?_⟩) (by assumption) ?_
      rotate_left
      · intro w hSw; (try dsimp only at hSw); first | (go_simp; done) | (go_simp; with_reducible rfl)
      try simp only [Act.put, List.getElem_toArray, List.getElem_cons_succ, List.getElem_cons_zero, List.setIfInBounds_toArray, List.set_cons_zero, List.set_cons_succ]
      refine wpAnyT_take (i := 3) (v := ?_) rfl (by decide +kernel) (by decide +kernel) (by decide +kernel) (by decide +kernel) (by decide +kernel) (fun _ _ _ h => h) (Or.inl ⟨by rfl, ?_⟩) (by assumption) ?_
      rotate_left
      · intro w hSw; (try dsimp only at hSw); first | (go_simp; done) | (go_simp; with_reducible rfl)
      try simp only [Act.put, List.getElem_toArray, List.getElem_cons_succ, List.getElem_cons_zero, List.setIfInBounds_toArray, List.set_cons_zero, List.set_cons_succ]
      refine wpAnyT_take (i := 4) (v := ?_) rfl (by decide +kernel) (by decide +kernel) (by decide +kernel) (by decide +kernel) (by decide +kernel) (fun _ _ _ h => h) (Or.inl ⟨by rfl, ?_⟩) (by assumption) ?_
      rotate_left
      · intro w hSw; (try dsimp only at hSw); first | (go_simp; done) | (go_simp; with_reducible rfl)
      try simp only [Act.put, List.getElem_toArray, List.getElem_cons_succ, List.getElem_cons_zero, List.setIfInBounds_toArray, List.set_cons_zero, List.set_cons_succ]
      refine wpAnyT_take (i := 5) (v := ?_) rfl (by decide +kernel) (by decide +kernel) (by decide +kernel) (by decide +kernel) (by decide +kernel) (fun _ _ _ h => h) (Or.inl ⟨by rfl, ?_⟩) (by assumption) ?_
      rotate_left
      · intro w hSw; (try dsimp only at hSw); first | (go_simp; done) | (go_simp; with_reducible rfl)
      try simp only [Act.put, List.getElem_toArray, List.getElem_cons_succ, List.getElem_cons_zero, List.setIfInBounds_toArray, List.set_cons_zero, List.set_cons_succ]
      refine wpAnyT_take (i := 6) (v := ?_) rfl (by decide +kernel) (by decide +kernel) (by decide +kernel) (by decide +kernel) (by decide +kernel) (fun _ _ _ h => h) (Or.inl ⟨by rfl, ?_⟩) (by assumption) ?_
      rotate_left
      · intro w hSw; (try dsimp only at hSw); first | (go_simp; done) | (go_simp; with_reducible rfl)
      try simp only [Act.put, List.getElem_toArray, List.getElem_cons_succ, List.getElem_cons_zero, List.setIfInBounds_toArray, List.set_cons_zero, List.set_cons_succ]
      refine wpAnyT_take (i := 7) (v := ?_) rfl (by decide +kernel) (by decide +kernel) (by decide +kernel) (by decide +kernel) (by decide +kernel) (fun _ _ _ h => h) (Or.inl ⟨by rfl, ?_⟩) (by assumption) ?_
      rotate_left
      · intro w hSw; (try dsimp only at hSw); first | (go_simp; done) | (go_simp; with_reducible rfl)
      try simp only [Act.put, List.getElem_toArray, List.getElem_cons_succ, List.getElem_cons_zero, List.setIfInBounds_toArray, List.set_cons_zero, List.set_cons_succ]
      refine wpAnyT_take (i := 8) (v := ?_) rfl (by decide +kernel) (by decide +kernel) (by decide +kernel) (by decide +kernel) (by decide +kernel) (fun _ _ _ h => h) (Or.inl ⟨by rfl, ?_⟩) (by assumption) ?_
      rotate_left
      · intro w hSw; (try dsimp only at hSw); first | (go_simp; done) | (go_simp; with_reducible rfl)
      try simp only [Act.put, List.getElem_toArray, List.getElem_cons_succ, List.getElem_cons_zero, List.setIfInBounds_toArray, List.set_cons_zero, List.set_cons_succ]
      refine wpAnyT_take (i := 9) (v := ?_) rfl (by decide +kernel) (by decide +kernel) (by decide +kernel) (by decide +kernel) (by decide +kernel) (fun _ _ _ h => h) (Or.inl ⟨by rfl, ?_⟩) (by assumption) ?_
      rotate_left
      · intro w hSw; (try dsimp only at hSw); first | (go_simp; done) | (go_simp; with_reducible rfl)
      try simp only [Act.put, List.getElem_toArray, List.getElem_cons_succ, List.getElem_cons_zero, List.setIfInBounds_toArray, List.set_cons_zero, List.set_cons_succ]
      refine wpAnyT_take (i := 10) (v := ?_) rfl (by decide +kernel) (by decide +kernel) (by decide +kernel) (by decide +kernel) (by decide +kernel) (fun _ _ _ h => h) (Or.inl ⟨by rfl, ?_⟩) (by assumption) ?_
      rotate_left
      · intro w hSw; (try dsimp only at hSw); first | (go_simp; done) | (go_simp; with_reducible rfl)
      try simp only [Act.put, List.getElem_toArray, List.getElem_cons_succ, List.getElem_cons_zero, List.setIfInBounds_toArray, List.set_cons_zero, List.set_cons_succ]
      refine wpAnyT_take (i := 11) (v := ?_) rfl (by decide +kernel) (by decide +kernel) (by decide +kernel) (by decide +kernel) (by decide +kernel) (fun _ _ _ h => h) (Or.inl ⟨by rfl, ?_⟩) (by assumption) ?_
      rotate_left
      · intro w hSw; (try dsimp only at hSw); first | (go_simp; done) | (go_simp; with_reducible rfl)
      try simp only [Act.put, List.getElem_toArray, List.getElem_cons_succ, List.getElem_cons_zero, List.setIfInBounds_toArray, List.set_cons_zero, List.set_cons_succ]
      refine wpAnyT_take (i := 12) (v := ?_) rfl (by decide +kernel) (by decide +kernel) (by decide +kernel) (by decide +kernel) (by decide +kernel) (fun _ _ _ h => h) (Or.inl ⟨by rfl, ?_⟩) (by assumption) ?_
      rotate_left
      · intro w hSw; (try dsimp only at hSw); first | (go_simp; done) | (go_simp; with_reducible rfl)
      try simp only [Act.put, List.getElem_toArray, List.getElem_cons_succ, List.getElem_cons_zero, List.setIfInBounds_toArray, List.set_cons_zero, List.set_cons_succ]
      refine wpAnyT_take (i := 13) (v := ?_) rfl (by decide +kernel) (by decide +kernel) (by decide +kernel) (by decide +kernel) (by decide +kernel) (fun _ _ _ h => h) (Or.inl ⟨by rfl, ?_⟩) (by assumption) ?_
      rotate_left
      · intro w hSw; (try dsimp only at hSw); first | (go_simp; done) | (go_simp; with_reducible rfl)
      try simp only [Act.put, List.getElem_toArray, List.getElem_cons_succ, List.getElem_cons_zero, List.setIfInBounds_toArray, List.set_cons_zero, List.set_cons_succ]
      refine wpAnyT_take (i := 14) (v := ?_) rfl (by decide +kernel) (by decide +kernel) (by decide +kernel) (by decide +kernel) (by decide +kernel) (fun _ _ _ h => h) (Or.inl ⟨by rfl, ?_⟩) (by assumption) ?_
      rotate_left
      · intro w hSw; (try dsimp only at hSw); first | (go_simp; done) | (go_simp; with_reducible rfl)
      try simp only [Act.put, List.getElem_toArray, List.getElem_cons_succ, List.getElem_cons_zero, List.setIfInBounds_toArray, List.set_cons_zero, List.set_cons_succ]
      refine wpAnyT_take (i := 15) (v := ?_) rfl (by decide +kernel) (by decide +kernel) (by decide +kernel) (by decide +kernel) (by decide +kernel) (fun _ _ _ h => h) (Or.inl ⟨by rfl, ?_⟩) (by assumption) ?_
      rotate_left
      · intro w hSw; (try dsimp only at hSw); first | (go_simp; done) | (go_simp; with_reducible rfl)
      try simp only [Act.put, List.getElem_toArray, List.getElem_cons_succ, List.getElem_cons_zero, List.setIfInBounds_toArray, List.set_cons_zero, List.set_cons_succ]
      refine wpAnyT_take (i := 16) (v := ?_) rfl (by decide +kernel) (by decide +kernel) (by decide +kernel) (by decide +kernel) (by decide +kernel) (fun _ _ _ h => h) (Or.inl ⟨by rfl, ?_⟩) (by assumption) ?_
      rotate_left
      · intro w hSw; (try dsimp only at hSw); first | (go_simp; done) | (go_simp; with_reducible rfl)
      try simp only [Act.put, List.getElem_toArray, List.getElem_cons_succ, List.getElem_cons_zero, List.setIfInBounds_toArray, List.set_cons_zero, List.set_cons_succ]
      refine wpAnyT_take (i := 17) (v := ?_) rfl (by decide +kernel) (by decide +kernel) (by decide +kernel) (by decide +kernel) (by decide +kernel) (fun _ _ _ h => h) (Or.inl ⟨by rfl, ?_⟩) (by assumption) ?_
      rotate_left
      · intro w hSw; (try dsimp only at hSw); first | (go_simp; done) | (go_simp; with_reducible rfl)
      try simp only [Act.put, List.getElem_toArray, List.getElem_cons_succ, List.getElem_cons_zero, List.setIfInBounds_toArray, List.set_cons_zero, List.set_cons_succ]
      refine wpAnyT_take (i := 18) (v := ?_) rfl (by decide +kernel) (by decide +kernel) (by decide +kernel) (by decide +kernel) (by decide +kernel) (fun _ _ _ h => h) (Or.inl ⟨by rfl, ?_⟩) (by assumption) ?_
      rotate_left
      · intro w hSw; (try dsimp only at hSw); first | (go_simp; done) | (go_simp; with_reducible rfl)
      try simp only [Act.put, List.getElem_toArray, List.getElem_cons_succ, List.getElem_cons_zero, List.setIfInBounds_toArray, List.set_cons_zero, List.set_cons_succ]
      refine wpAnyT_take (i := 19) (v := ?_) rfl (by decide +kernel) (by decide +kernel) (by decide +kernel) (by decide +kernel) (by decide +kernel) (fun _ _ _ h => h) (Or.inl ⟨by rfl, ?_⟩) (by assumption) ?_
      rotate_left
      · intro w hSw; (try dsimp only at hSw); first | (go_simp; done) | (go_simp; with_reducible rfl)
      try simp only [Act.put, List.getElem_toArray, List.getElem_cons_succ, List.getElem_cons_zero, List.setIfInBounds_toArray, List.set_cons_zero, List.set_cons_succ]
      refine wpAnyT_take (i := 20) (v := ?_) rfl (by decide +kernel) (by decide +kernel) (by decide +kernel) (by decide +kernel) (by decide +kernel) (fun _ _ _ h => h) (Or.inl ⟨by rfl, ?_⟩) (by assumption) ?_
      rotate_left
      · intro w hSw; (try dsimp only at hSw); first | (go_simp; done) | (go_simp; with_reducible rfl)
      try simp only [Act.put, List.getElem_toArray, List.getElem_cons_succ, List.getElem_cons_zero, List.setIfInBounds_toArray, List.set_cons_zero, List.set_cons_succ]
      refine wpAnyT_take (i := 21) (v := ?_) rfl (by decide +kernel) (by decide +kernel) (by decide +kernel) (by decide +kernel) (by decide +kernel) (fun _ _ _ h => h) (Or.inl ⟨by rfl, ?_⟩) (by assumption) ?_
      rotate_left
      · intro w hSw; (try dsimp only at hSw); first | (go_simp; done) | (go_simp; with_reducible rfl)
      try simp only [Act.put, List.getElem_toArray, List.getElem_cons_succ, List.getElem_cons_zero, List.setIfInBounds_toArray, List.set_cons_zero, List.set_cons_succ]
      refine wpAnyT_take (i := 22) (v := ?_) rfl (by decide +kernel) (by decide +kernel) (by decide +kernel) (by decide +kernel) (by decide +kernel) (fun _ _ _ h => h) (Or.inl ⟨by rfl, ?_⟩) (by assumption) ?_
      rotate_left
      · intro w hSw; (try dsimp only at hSw); first | (go_simp; done) | (go_simp; with_reducible rfl)
      try simp only [Act.put, List.getElem_toArray, List.getElem_cons_succ, List.getElem_cons_zero, List.setIfInBounds_toArray, List.set_cons_zero, List.set_cons_succ]
      refine wpAnyT_take (i := 23) (v := ?_) rfl (by decide +kernel) (by decide +kernel) (by decide +kernel) (by decide +kernel) (by decide +kernel) (fun _ _ _ h => h) (Or.inl ⟨by rfl, ?_⟩) (by assumption) ?_
      rotate_left
      · intro w hSw; (try dsimp only at hSw); first | (go_simp; done) | (go_simp; with_reducible rfl)
      try simp only [Act.put, List.getElem_toArray, List.getElem_cons_succ, List.getElem_cons_zero, List.setIfInBounds_toArray, List.set_cons_zero, List.set_cons_succ]
      refine wpAnyT_take (i := 24) (v := ?_) rfl (by decide +kernel) (by decide +kernel) (by decide +kernel) (by decide +kernel) (by decide +kernel) (fun _ _ _ h => h) (Or.inl ⟨by rfl, ?_⟩) (by assumption) ?_
      rotate_left
      · intro w hSw; (try dsimp only at hSw); first | (go_simp; done) | (go_simp; with_reducible rfl)
      try simp only [Act.put, List.getElem_toArray, List.getElem_cons_succ, List.getElem_cons_zero, List.setIfInBounds_toArray, List.set_cons_zero, List.set_cons_succ]
      refine wpAnyT_take (i := 25) (v := ?_) rfl (by decide +kernel) (by decide +kernel) (by decide +kernel) (by decide +kernel) (by decide +kernel) (fun _ _ _ h => h) (Or.inl ⟨by rfl, ?_⟩) (by assumption) ?_
      rotate_left
      · intro w hSw; (try dsimp only at hSw); first | (go_simp; done) | (go_simp; with_reducible rfl)
      try simp only [Act.put, List.getElem_toArray, List.getElem_cons_succ, List.getElem_cons_zero, List.setIfInBounds_toArray, List.set_cons_zero, List.set_cons_succ]
      refine wpAnyT_take (i := 27) (v := ?_) rfl (by decide +kernel) (by decide +kernel) (by decide +kernel) (by decide +kernel) (by decide +kernel) (fun _ _ _ h => h) (Or.inl ⟨by rfl, ?_⟩) (by assumption) ?_
      rotate_left
      · intro w hSw; (try dsimp only at hSw); first | (go_simp; done) | (go_simp; with_reducible rfl)
      try simp only [Act.put, List.getElem_toArray, List.getElem_cons_succ, List.getElem_cons_zero, List.setIfInBounds_toArray, List.set_cons_zero, List.set_cons_succ]
      refine wpAnyT_take (i := 28) (v := ?_) rfl (by decide +kernel) (by decide +kernel) (by decide +kernel) (by decide +kernel) (by decide +kernel) (fun _ _ _ h => h) (Or.inl ⟨by rfl, ?_⟩) (by assumption) ?_
      rotate_left
      · intro w hSw; (try dsimp only at hSw); first | (go_simp; done) | (go_simp; with_reducible rfl)
      try simp only [Act.put, List.getElem_toArray, List.getElem_cons_succ, List.getElem_cons_zero, List.setIfInBounds_toArray, List.set_cons_zero, List.set_cons_succ]
      refine wpAnyT_one (i := 26) (by kernel_rfl) rfl (fun K hK => ?_)
      go_simp
      (refine (Value_any _ _ _ _ _ _ _ _ _ _ _ _ _ _ _ _ _ _).mono ?_; rw [HEP.out.2.2]; rintro e w' ⟨rfl, hb'⟩)
      refine hK.out _ _ ?_ (fun hHeld2 => ?_)
      · (try dsimp only); exact ⟨(hb'.cell (p := ⟨bm, om + 2, none⟩) (World.block_lt_of_cell? _ _ hHeld.1)).trans hHeld.1, (hb'.cell (p := ⟨b, 0, none⟩) (World.block_lt_of_cell? _ _ hHeld.2.1)).trans hHeld.2.1, (hb'.cell (p := ⟨b, 1, none⟩) (World.block_lt_of_cell? _ _ hHeld.2.2.1)).trans hHeld.2.2.1, (hb'.cell (p := ⟨b, 2, none⟩) (World.block_lt_of_cell? _ _ hHeld.2.2.2.1)).trans hHeld.2.2.2.1, (hb'.cell (p := ⟨b, 3, none⟩) (World.block_lt_of_cell? _ _ hHeld.2.2.2.2.1)).trans hHeld.2.2.2.2.1, (hb'.cell (p := ⟨b, 4, none⟩) (World.block_lt_of_cell? _ _ hHeld.2.2.2.2.2.1)).trans hHeld.2.2.2.2.2.1, (hb'.cell (p := ⟨b, 5, none⟩) (World.block_lt_of_cell? _ _ hHeld.2.2.2.2.2.2.1)).trans hHeld.2.2.2.2.2.2.1, (hb'.cell (p := ⟨b, 6, none⟩) (World.block_lt_of_cell? _ _ hHeld.2.2.2.2.2.2.2.1)).trans hHeld.2.2.2.2.2.2.2.1, (hb'.cell (p := ⟨b, 7, none⟩) (World.block_lt_of_cell? _ _ hHeld.2.2.2.2.2.2.2.2.1)).trans hHeld.2.2.2.2.2.2.2.2.1, (hb'.cell (p := ⟨b, 8, none⟩) (World.block_lt_of_cell? _ _ hHeld.2.2.2.2.2.2.2.2.2.1)).trans hHeld.2.2.2.2.2.2.2.2.2.1, (hb'.cell (p := ⟨b, 9, none⟩) (World.block_lt_of_cell? _ _ hHeld.2.2.2.2.2.2.2.2.2.2.1)).trans hHeld.2.2.2.2.2.2.2.2.2.2.1, (hb'.cell (p := ⟨b, 10, none⟩) (World.block_lt_of_cell? _ _ hHeld.2.2.2.2.2.2.2.2.2.2.2.1)).trans hHeld.2.2.2.2.2.2.2.2.2.2.2.1, (hb'.cell (p := ⟨b, 11, none⟩) (World.block_lt_of_cell? _ _ hHeld.2.2.2.2.2.2.2.2.2.2.2.2.1)).trans hHeld.2.2.2.2.2.2.2.2.2.2.2.2.1, (hb'.cell (p := ⟨b, 12, none⟩) (World.block_lt_of_cell? _ _ hHeld.2.2.2.2.2.2.2.2.2.2.2.2.2.1)).trans hHeld.2.2.2.2.2.2.2.2.2.2.2.2.2.1, (hb'.cell (p := ⟨b, 13, none⟩) (World.block_lt_of_cell? _ _ hHeld.2.2.2.2.2.2.2.2.2.2.2.2.2.2.1)).trans hHeld.2.2.2.2.2.2.2.2.2.2.2.2.2.2.1, (hb'.cell (p := ⟨b, 14, none⟩) (World.block_lt_of_cell? _ _ hHeld.2.2.2.2.2.2.2.2.2.2.2.2.2.2.2.1)).trans hHeld.2.2.2.2.2.2.2.2.2.2.2.2.2.2.2.1, (hb'.cell (p := ⟨b, 15, none⟩) (World.block_lt_of_cell? _ _ hHeld.2.2.2.2.2.2.2.2.2.2.2.2.2.2.2.2.1)).trans hHeld.2.2.2.2.2.2.2.2.2.2.2.2.2.2.2.2.1, Below.trans hHeld.2.2.2.2.2.2.2.2.2.2.2.2.2.2.2.2.2 (hb'.mono hHeld.2.2.2.2.2.2.2.2.2.2.2.2.2.2.2.2.2.size)⟩
      clear hK K hHeld
      have hHeld := hHeld2
      clear hHeld2
      try simp only [Act.put, List.getElem_toArray, List.getElem_cons_succ, List.getElem_cons_zero, List.setIfInBounds_toArray, List.set_cons_zero, List.set_cons_succ]
      clear hb'
      refine wpAnyT_take (i := 29) (v := ?_) rfl (by decide +kernel) (by decide +kernel) (by decide +kernel) (by decide +kernel) (by decide +kernel) (fun _ _ _ h => h) (Or.inl ⟨by rfl, ?_⟩) (by assumption) ?_
      rotate_left
      · intro w hSw; (try dsimp only at hSw); first | (go_simp; done) | (go_simp; with_reducible rfl)
      try simp only [Act.put, List.getElem_toArray, List.getElem_cons_succ, List.getElem_cons_zero, List.setIfInBounds_toArray, List.set_cons_zero, List.set_cons_succ]
      refine wpAnyT_take (i := 30) (v := ?_) rfl (by decide +kernel) (by decide +kernel) (by decide +kernel) (by decide +kernel) (by decide +kernel) (fun _ _ _ h => h) (Or.inl ⟨by rfl, ?_⟩) (by assumption) ?_
      rotate_left
      · intro w hSw; (try dsimp only at hSw); first | (go_simp; done) | (go_simp; with_reducible rfl)
      try simp only [Act.put, List.getElem_toArray, List.getElem_cons_succ, List.getElem_cons_zero, List.setIfInBounds_toArray, List.set_cons_zero, List.set_cons_succ]
      refine wpAnyT_take (i := 31) (v := ?_) rfl (by decide +kernel) (by decide +kernel) (by decide +kernel) (by decide +kernel) (by decide +kernel) (fun _ _ _ h => h) (Or.inl ⟨by rfl, ?_⟩) (by assumption) ?_
      rotate_left
      · intro w hSw; (try dsimp only at hSw); first | (go_simp; done) | (go_simp; with_reducible rfl)
      try simp only [Act.put, List.getElem_toArray, List.getElem_cons_succ, List.getElem_cons_zero, List.setIfInBounds_toArray, List.set_cons_zero, List.set_cons_succ]
      refine wpAnyT_one (i := 32) (by kernel_rfl) rfl (fun K hK => ?_)
      go_simp
      (refine (awake_any _).mono ?_; rintro e w' ⟨rfl, hb'⟩)
      refine hK.out _ _ ?_ (fun hHeld2 => ?_)
      · (try dsimp only); exact ⟨(hb'.cell (p := ⟨bm, om + 2, none⟩) (World.block_lt_of_cell? _ _ hHeld.1)).trans hHeld.1, (hb'.cell (p := ⟨b, 0, none⟩) (World.block_lt_of_cell? _ _ hHeld.2.1)).trans hHeld.2.1, (hb'.cell (p := ⟨b, 1, none⟩) (World.block_lt_of_cell? _ _ hHeld.2.2.1)).trans hHeld.2.2.1, (hb'.cell (p := ⟨b, 2, none⟩) (World.block_lt_of_cell? _ _ hHeld.2.2.2.1)).trans hHeld.2.2.2.1, (hb'.cell (p := ⟨b, 3, none⟩) (World.block_lt_of_cell? _ _ hHeld.2.2.2.2.1)).trans hHeld.2.2.2.2.1, (hb'.cell (p := ⟨b, 4, none⟩) (World.block_lt_of_cell? _ _ hHeld.2.2.2.2.2.1)).trans hHeld.2.2.2.2.2.1, (hb'.cell (p := ⟨b, 5, none⟩) (World.block_lt_of_cell? _ _ hHeld.2.2.2.2.2.2.1)).trans hHeld.2.2.2.2.2.2.1, (hb'.cell (p := ⟨b, 6, none⟩) (World.block_lt_of_cell? _ _ hHeld.2.2.2.2.2.2.2.1)).trans hHeld.2.2.2.2.2.2.2.1, (hb'.cell (p := ⟨b, 7, none⟩) (World.block_lt_of_cell? _ _ hHeld.2.2.2.2.2.2.2.2.1)).trans hHeld.2.2.2.2.2.2.2.2.1, (hb'.cell (p := ⟨b, 8, none⟩) (World.block_lt_of_cell? _ _ hHeld.2.2.2.2.2.2.2.2.2.1)).trans hHeld.2.2.2.2.2.2.2.2.2.1, (hb'.cell (p := ⟨b, 9, none⟩) (World.block_lt_of_cell? _ _ hHeld.2.2.2.2.2.2.2.2.2.2.1)).trans hHeld.2.2.2.2.2.2.2.2.2.2.1, (hb'.cell (p := ⟨b, 10, none⟩) (World.block_lt_of_cell? _ _ hHeld.2.2.2.2.2.2.2.2.2.2.2.1)).trans hHeld.2.2.2.2.2.2.2.2.2.2.2.1, (hb'.cell (p := ⟨b, 11, none⟩) (World.block_lt_of_cell? _ _ hHeld.2.2.2.2.2.2.2.2.2.2.2.2.1)).trans hHeld.2.2.2.2.2.2.2.2.2.2.2.2.1, (hb'.cell (p := ⟨b, 12, none⟩) (World.block_lt_of_cell? _ _ hHeld.2.2.2.2.2.2.2.2.2.2.2.2.2.1)).trans hHeld.2.2.2.2.2.2.2.2.2.2.2.2.2.1, (hb'.cell (p := ⟨b, 13, none⟩) (World.block_lt_of_cell? _ _ hHeld.2.2.2.2.2.2.2.2.2.2.2.2.2.2.1)).trans hHeld.2.2.2.2.2.2.2.2.2.2.2.2.2.2.1, (hb'.cell (p := ⟨b, 14, none⟩) (World.block_lt_of_cell? _ _ hHeld.2.2.2.2.2.2.2.2.2.2.2.2.2.2.2.1)).trans hHeld.2.2.2.2.2.2.2.2.2.2.2.2.2.2.2.1, (hb'.cell (p := ⟨b, 15, none⟩) (World.block_lt_of_cell? _ _ hHeld.2.2.2.2.2.2.2.2.2.2.2.2.2.2.2.2.1)).trans hHeld.2.2.2.2.2.2.2.2.2.2.2.2.2.2.2.2.1, Below.trans hHeld.2.2.2.2.2.2.2.2.2.2.2.2.2.2.2.2.2 (hb'.mono hHeld.2.2.2.2.2.2.2.2.2.2.2.2.2.2.2.2.2.size)⟩
      clear hK K hHeld
      have hHeld := hHeld2
      clear hHeld2
      try simp only [Act.put, List.getElem_toArray, List.getElem_cons_succ, List.getElem_cons_zero, List.setIfInBounds_toArray, List.set_cons_zero, List.set_cons_succ]
      clear hb'
      refine wpAnyT_take (i := 33) (v := ?_) rfl (by decide +kernel) (by decide +kernel) (by decide +kernel) (by decide +kernel) (by decide +kernel) (fun _ _ _ h => h) (Or.inl ⟨by rfl, ?_⟩) (by assumption) ?_
      rotate_left
      · intro w hSw; (try dsimp only at hSw); first | (go_simp; done) | (go_simp; with_reducible rfl)
      try simp only [Act.put, List.getElem_toArray, List.getElem_cons_succ, List.getElem_cons_zero, List.setIfInBounds_toArray, List.set_cons_zero, List.set_cons_succ]
      have HBE := Lib.hid hHeld.2.2.2.2.2.2.2.2.2.2.2.2.2.2.2.2.2
      refine wpAnyT_last (i := 34) (by kernel_rfl) (by kernel_rfl) rfl (by kernel_rfl) (fun K hK => ?_)
      go_simp
      refine hK.out _ _ ?_
      clear hK K
      try simp only [Act.put, List.getElem_toArray, List.getElem_cons_succ, List.getElem_cons_zero, List.setIfInBounds_toArray, List.set_cons_zero, List.set_cons_succ]
      go_wp2
      go_ret
      exact ⟨rfl, HBE.out⟩
  · have hz1 : (er != 0) = true := by simpa using hz
    as_aux_lemma =>
      go_wp2_with (go_at_call 18; refine (awake_any _).mono ?_; rintro e w10 ⟨rfl, hb10⟩)
      go_ret
      exact ⟨rfl, HB4.out.trans (hb10.mono HB4.out.size)⟩
end Go.Proofs.Ytfcffmjmohkpoaa

