/- interrupt of package animation (printed by wip/gen_int.py). -/
import Derived.Test.YtfcffmjmohkpoaaFill
import Derived.Test.YtfcffmjmohkpoaaSetPlain
import Derived.Test.YtfcffmjmohkpoaaStop
namespace Go.Proofs.Ytfcffmjmohkpoaa
open Go.RowKit
set_option linter.unusedVariables false
set_option linter.unusedSimpArgs false

theorem alloc3_heap (w : World) (o1 o2 o3 : Obj) : (((w.alloc o1).alloc o2).alloc o3).heap[w.heap.size]? = some o1 ∧ (((w.alloc o1).alloc o2).alloc o3).heap[w.heap.size + 1]? = some o2 ∧ (((w.alloc o1).alloc o2).alloc o3).heap[w.heap.size + 2]? = some o3 := by
  have s1 : (w.alloc o1).heap.size = w.heap.size + 1 := by simp
  have s2 : ((w.alloc o1).alloc o2).heap.size = w.heap.size + 2 := by simp
  refine ⟨?_, ?_, ?_⟩
  · rw [Below.heap_alloc _ _ _ (by omega), Below.heap_alloc _ _ _ (by omega)]; exact heap_alloc_new w o1
  · rw [Below.heap_alloc _ _ _ (by omega), ← s1]; exact heap_alloc_new (w.alloc o1) o2
  · rw [← s2]; exact heap_alloc_new ((w.alloc o1).alloc o2) o3

set_option maxHeartbeats 4000000 in
set_option maxRecDepth 100000 in
theorem inter_cc (p0 p1 p3 p4 p5 p6 p7 p8 p9 p10 p11 p12 p13 p14 p15 q0 q1 q2 q3 q4 q5 q6 q7 q8 q9 q10 q11 q12 q13 q14 q15 now V : Int) (w : World) (HV : Hid ((⟨p0, p1, 1, p3, p4, p5, p6, p7, p8, p9, p10, p11, p12, p13, p14, p15⟩ : Anim).value now = V)) (hv0 : -33554432 ≤ V) (hv1 : V ≤ 33554432) :
    Calls Try.prog 58 #[.agg #[.int .i64 p0, .int .i64 p1, .int .i64 1, .int .i64 p3, .int .i64 p4, .int .i64 p5, .int .i64 p6, .int .i64 p7, .int .i64 p8, .int .i64 p9, .int .i64 p10, .int .i64 p11, .int .i64 p12, .int .i64 p13, .int .i64 p14, .int .i64 p15], .agg #[.int .i64 q0, .int .i64 q1, .int .i64 q2, .int .i64 q3, .int .i64 q4, .int .i64 q5, .int .i64 q6, .int .i64 q7, .int .i64 q8, .int .i64 q9, .int .i64 q10, .int .i64 q11, .int .i64 q12, .int .i64 q13, .int .i64 q14, .int .i64 q15], .int .i64 now] w (GivesV (.agg #[.int .i64 q0, .int .i64 q1, .int .i64 q2, .int .i64 V, .int .i64 q4, .int .i64 q5, .int .i64 q6, .int .i64 q7, .int .i64 q8, .int .i64 q9, .int .i64 q10, .int .i64 q11, .int .i64 q12, .int .i64 (65536 * V), .int .i64 0, .int .i64 q15]) w) := by
  go_enter Try.func58, Try.ntmps58
  go_wp2_with fail
  refine (Value_any _ _ _ _ _ _ _ _ _ _ _ _ _ _ _ _ _ _).mono ?_
  rw [HV.out]
  rintro e w1 ⟨rfl, hb⟩
  obtain ⟨k0, k1, k2⟩ := alloc3_heap w (.cells #[.int .i64 p0, .int .i64 p1, .int .i64 1, .int .i64 p3, .int .i64 p4, .int .i64 p5, .int .i64 p6, .int .i64 p7, .int .i64 p8, .int .i64 p9, .int .i64 p10, .int .i64 p11, .int .i64 p12, .int .i64 p13, .int .i64 p14, .int .i64 p15] 38 (0, 0)) (.cells #[.int .i64 q0, .int .i64 q1, .int .i64 q2, .int .i64 q3, .int .i64 q4, .int .i64 q5, .int .i64 q6, .int .i64 q7, .int .i64 q8, .int .i64 q9, .int .i64 q10, .int .i64 q11, .int .i64 q12, .int .i64 q13, .int .i64 q14, .int .i64 q15] 38 (0, 0)) (.cells #[.int .i64 0, .int .i64 0, .int .i64 0, .int .i64 0, .int .i64 0, .int .i64 0, .int .i64 0, .int .i64 0, .int .i64 0, .int .i64 0, .int .i64 0, .int .i64 0, .int .i64 0, .int .i64 0, .int .i64 0, .int .i64 0] 38 (0, 0))
  have HO : Hid (AnimBlk w1 w.heap.size 38 [.int .i64 p0, .int .i64 p1, .int .i64 1, .int .i64 p3, .int .i64 p4, .int .i64 p5, .int .i64 p6, .int .i64 p7, .int .i64 p8, .int .i64 p9, .int .i64 p10, .int .i64 p11, .int .i64 p12, .int .i64 p13, .int .i64 p14, .int .i64 p15]) := ⟨rfl, (hb.block w.heap.size (by simp; omega)).trans k0⟩
  have HA : Hid (AnimBlk w1 (w.heap.size + 1) 38 [.int .i64 q0, .int .i64 q1, .int .i64 q2, .int .i64 q3, .int .i64 q4, .int .i64 q5, .int .i64 q6, .int .i64 q7, .int .i64 q8, .int .i64 q9, .int .i64 q10, .int .i64 q11, .int .i64 q12, .int .i64 q13, .int .i64 q14, .int .i64 q15]) := ⟨rfl, (hb.block (w.heap.size + 1) (by simp)).trans k1⟩
  have HR : Hid (AnimBlk w1 (w.heap.size + 1 + 1) 38 [.int .i64 0, .int .i64 0, .int .i64 0, .int .i64 0, .int .i64 0, .int .i64 0, .int .i64 0, .int .i64 0, .int .i64 0, .int .i64 0, .int .i64 0, .int .i64 0, .int .i64 0, .int .i64 0, .int .i64 0, .int .i64 0]) := ⟨rfl, (hb.block (w.heap.size + 2) (by simp)).trans k2⟩
  have HB1 : Hid (Below w.heap.size w w1) := (below3 _ _ _ _).trans (hb.mono (by simp; omega))
  clear hb k0 k1 k2
  have ho0 : w1.cell? ⟨w.heap.size, 0, none⟩ = some (.int .i64 p0) := (HO.out.cell 0).trans rfl
  have ho1 : w1.cell? ⟨w.heap.size, 1, none⟩ = some (.int .i64 p1) := (HO.out.cell 1).trans rfl
  have ho2 : w1.cell? ⟨w.heap.size, 2, none⟩ = some (.int .i64 1) := (HO.out.cell 2).trans rfl
  have ho3 : w1.cell? ⟨w.heap.size, 3, none⟩ = some (.int .i64 p3) := (HO.out.cell 3).trans rfl
  have ho4 : w1.cell? ⟨w.heap.size, 4, none⟩ = some (.int .i64 p4) := (HO.out.cell 4).trans rfl
  have ho5 : w1.cell? ⟨w.heap.size, 5, none⟩ = some (.int .i64 p5) := (HO.out.cell 5).trans rfl
  have ho6 : w1.cell? ⟨w.heap.size, 6, none⟩ = some (.int .i64 p6) := (HO.out.cell 6).trans rfl
  have ho7 : w1.cell? ⟨w.heap.size, 7, none⟩ = some (.int .i64 p7) := (HO.out.cell 7).trans rfl
  have ho8 : w1.cell? ⟨w.heap.size, 8, none⟩ = some (.int .i64 p8) := (HO.out.cell 8).trans rfl
  have ho9 : w1.cell? ⟨w.heap.size, 9, none⟩ = some (.int .i64 p9) := (HO.out.cell 9).trans rfl
  have ho10 : w1.cell? ⟨w.heap.size, 10, none⟩ = some (.int .i64 p10) := (HO.out.cell 10).trans rfl
  have ho11 : w1.cell? ⟨w.heap.size, 11, none⟩ = some (.int .i64 p11) := (HO.out.cell 11).trans rfl
  have ho12 : w1.cell? ⟨w.heap.size, 12, none⟩ = some (.int .i64 p12) := (HO.out.cell 12).trans rfl
  have ho13 : w1.cell? ⟨w.heap.size, 13, none⟩ = some (.int .i64 p13) := (HO.out.cell 13).trans rfl
  have ho14 : w1.cell? ⟨w.heap.size, 14, none⟩ = some (.int .i64 p14) := (HO.out.cell 14).trans rfl
  have ho15 : w1.cell? ⟨w.heap.size, 15, none⟩ = some (.int .i64 p15) := (HO.out.cell 15).trans rfl
  have ha0 : w1.cell? ⟨w.heap.size + 1, 0, none⟩ = some (.int .i64 q0) := (HA.out.cell 0).trans rfl
  have ha1 : w1.cell? ⟨w.heap.size + 1, 1, none⟩ = some (.int .i64 q1) := (HA.out.cell 1).trans rfl
  have ha2 : w1.cell? ⟨w.heap.size + 1, 2, none⟩ = some (.int .i64 q2) := (HA.out.cell 2).trans rfl
  have ha3 : w1.cell? ⟨w.heap.size + 1, 3, none⟩ = some (.int .i64 q3) := (HA.out.cell 3).trans rfl
  have ha4 : w1.cell? ⟨w.heap.size + 1, 4, none⟩ = some (.int .i64 q4) := (HA.out.cell 4).trans rfl
  have ha5 : w1.cell? ⟨w.heap.size + 1, 5, none⟩ = some (.int .i64 q5) := (HA.out.cell 5).trans rfl
  have ha6 : w1.cell? ⟨w.heap.size + 1, 6, none⟩ = some (.int .i64 q6) := (HA.out.cell 6).trans rfl
  have ha7 : w1.cell? ⟨w.heap.size + 1, 7, none⟩ = some (.int .i64 q7) := (HA.out.cell 7).trans rfl
  have ha8 : w1.cell? ⟨w.heap.size + 1, 8, none⟩ = some (.int .i64 q8) := (HA.out.cell 8).trans rfl
  have ha9 : w1.cell? ⟨w.heap.size + 1, 9, none⟩ = some (.int .i64 q9) := (HA.out.cell 9).trans rfl
  have ha10 : w1.cell? ⟨w.heap.size + 1, 10, none⟩ = some (.int .i64 q10) := (HA.out.cell 10).trans rfl
  have ha11 : w1.cell? ⟨w.heap.size + 1, 11, none⟩ = some (.int .i64 q11) := (HA.out.cell 11).trans rfl
  have ha12 : w1.cell? ⟨w.heap.size + 1, 12, none⟩ = some (.int .i64 q12) := (HA.out.cell 12).trans rfl
  have ha13 : w1.cell? ⟨w.heap.size + 1, 13, none⟩ = some (.int .i64 q13) := (HA.out.cell 13).trans rfl
  have ha14 : w1.cell? ⟨w.heap.size + 1, 14, none⟩ = some (.int .i64 q14) := (HA.out.cell 14).trans rfl
  have ha15 : w1.cell? ⟨w.heap.size + 1, 15, none⟩ = some (.int .i64 q15) := (HA.out.cell 15).trans rfl
  have haz3 : w1.frozen? ⟨w.heap.size + 1, 3, none⟩ = false := HA.out.free 3
  have haz13 : w1.frozen? ⟨w.heap.size + 1, 13, none⟩ = false := HA.out.free 13
  have haz14 : w1.frozen? ⟨w.heap.size + 1, 14, none⟩ = false := HA.out.free 14
  have hl1 : w.heap.size + 1 < w1.heap.size := HA.out.lt
  have hne : w.heap.size + 1 + 1 ≠ w.heap.size + 1 := by omega
  have hle : w.heap.size ≤ w.heap.size + 1 := by omega
  as_aux_lemma =>
  go_wp2_with (refine stop_dst 32 ?_)
  have HR3 : Hid (AnimBlk (((w1.setCell ⟨w.heap.size + 1, 3, none⟩ (.int .i64 V)).setCell ⟨w.heap.size + 1, 13, none⟩ (.int .i64 (65536 * V))).setCell ⟨w.heap.size + 1, 14, none⟩ (.int .i64 0)) (w.heap.size + 1 + 1) 38 [.int .i64 0, .int .i64 0, .int .i64 0, .int .i64 0, .int .i64 0, .int .i64 0, .int .i64 0, .int .i64 0, .int .i64 0, .int .i64 0, .int .i64 0, .int .i64 0, .int .i64 0, .int .i64 0, .int .i64 0, .int .i64 0]) := (((HR.out.set_other hne 3 _).set_other hne 13 _).set_other hne 14 _)
  have HB3 : Hid (Below w.heap.size w (((w1.setCell ⟨w.heap.size + 1, 3, none⟩ (.int .i64 V)).setCell ⟨w.heap.size + 1, 13, none⟩ (.int .i64 (65536 * V))).setCell ⟨w.heap.size + 1, 14, none⟩ (.int .i64 0))) := (((HB1.out.setCell hle _).setCell hle _).setCell hle _)
  have HA3 : Hid (AnimBlk (((w1.setCell ⟨w.heap.size + 1, 3, none⟩ (.int .i64 V)).setCell ⟨w.heap.size + 1, 13, none⟩ (.int .i64 (65536 * V))).setCell ⟨w.heap.size + 1, 14, none⟩ (.int .i64 0)) (w.heap.size + 1) 38 [.int .i64 q0, .int .i64 q1, .int .i64 q2, .int .i64 V, .int .i64 q4, .int .i64 q5, .int .i64 q6, .int .i64 q7, .int .i64 q8, .int .i64 q9, .int .i64 q10, .int .i64 q11, .int .i64 q12, .int .i64 (65536 * V), .int .i64 0, .int .i64 q15]) := (((HA.out.set 3 _).set 13 _).set 14 _)
  obtain ⟨W3, hW3⟩ : ∃ W3, ((w1.setCell ⟨w.heap.size + 1, 3, none⟩ (.int .i64 V)).setCell ⟨w.heap.size + 1, 13, none⟩ (.int .i64 (65536 * V))).setCell ⟨w.heap.size + 1, 14, none⟩ (.int .i64 0) = W3 := ⟨_, rfl⟩
  rw [hW3] at HR3 HB3 HA3 ⊢
  clear hW3 ho0 ha0 ho1 ha1 ho2 ha2 ho3 ha3 ho4 ha4 ho5 ha5 ho6 ha6 ho7 ha7 ho8 ha8 ho9 ha9 ho10 ha10 ho11 ha11 ho12 ha12 ho13 ha13 ho14 ha14 ho15 ha15 haz3 haz13 haz14 hl1
  refine go_on ?_
  as_aux_lemma =>
  refine load_anim rfl _ rfl (w.heap.size + 1) rfl _ _ HA3.out ?_
  refine store_anim rfl _ _ rfl (w.heap.size + 1 + 1) [.int .i64 q0, .int .i64 q1, .int .i64 q2, .int .i64 V, .int .i64 q4, .int .i64 q5, .int .i64 q6, .int .i64 q7, .int .i64 q8, .int .i64 q9, .int .i64 q10, .int .i64 q11, .int .i64 q12, .int .i64 (65536 * V), .int .i64 0, .int .i64 q15] rfl rfl rfl _ _ HR3.out (by simp [Value.oneCell']) ?_
  intro W HR4 hB4
  have HB4 := HB3.out.trans (hB4 w.heap.size (by omega))
  clear hB4
  go_wp2
  have r0 : W.cell? ⟨w.heap.size + 1 + 1, 0, none⟩ = some (.int .i64 q0) := (HR4.cell 0).trans rfl
  have r1 : W.cell? ⟨w.heap.size + 1 + 1, 1, none⟩ = some (.int .i64 q1) := (HR4.cell 1).trans rfl
  have r2 : W.cell? ⟨w.heap.size + 1 + 1, 2, none⟩ = some (.int .i64 q2) := (HR4.cell 2).trans rfl
  have r3 : W.cell? ⟨w.heap.size + 1 + 1, 3, none⟩ = some (.int .i64 V) := (HR4.cell 3).trans rfl
  have r4 : W.cell? ⟨w.heap.size + 1 + 1, 4, none⟩ = some (.int .i64 q4) := (HR4.cell 4).trans rfl
  have r5 : W.cell? ⟨w.heap.size + 1 + 1, 5, none⟩ = some (.int .i64 q5) := (HR4.cell 5).trans rfl
  have r6 : W.cell? ⟨w.heap.size + 1 + 1, 6, none⟩ = some (.int .i64 q6) := (HR4.cell 6).trans rfl
  have r7 : W.cell? ⟨w.heap.size + 1 + 1, 7, none⟩ = some (.int .i64 q7) := (HR4.cell 7).trans rfl
  have r8 : W.cell? ⟨w.heap.size + 1 + 1, 8, none⟩ = some (.int .i64 q8) := (HR4.cell 8).trans rfl
  have r9 : W.cell? ⟨w.heap.size + 1 + 1, 9, none⟩ = some (.int .i64 q9) := (HR4.cell 9).trans rfl
  have r10 : W.cell? ⟨w.heap.size + 1 + 1, 10, none⟩ = some (.int .i64 q10) := (HR4.cell 10).trans rfl
  have r11 : W.cell? ⟨w.heap.size + 1 + 1, 11, none⟩ = some (.int .i64 q11) := (HR4.cell 11).trans rfl
  have r12 : W.cell? ⟨w.heap.size + 1 + 1, 12, none⟩ = some (.int .i64 q12) := (HR4.cell 12).trans rfl
  have r13 : W.cell? ⟨w.heap.size + 1 + 1, 13, none⟩ = some (.int .i64 (65536 * V)) := (HR4.cell 13).trans rfl
  have r14 : W.cell? ⟨w.heap.size + 1 + 1, 14, none⟩ = some (.int .i64 0) := (HR4.cell 14).trans rfl
  have r15 : W.cell? ⟨w.heap.size + 1 + 1, 15, none⟩ = some (.int .i64 q15) := (HR4.cell 15).trans rfl
  exact bodyPost_ret (v := .agg #[.int .i64 q0, .int .i64 q1, .int .i64 q2, .int .i64 V, .int .i64 q4, .int .i64 q5, .int .i64 q6, .int .i64 q7, .int .i64 q8, .int .i64 q9, .int .i64 q10, .int .i64 q11, .int .i64 q12, .int .i64 (65536 * V), .int .i64 0, .int .i64 q15]) (by simp [results, Try.results58, go_sem, r0, r1, r2, r3, r4, r5, r6, r7, r8, r9, r10, r11, r12, r13, r14, r15]) rfl ⟨rfl, HB4⟩

set_option maxHeartbeats 4000000 in
set_option maxRecDepth 100000 in
theorem inter_sc (p0 p1 p3 p4 p5 p6 p7 p8 p9 p10 p11 p12 p13 p14 p15 q0 q1 q2 q3 q4 q5 q6 q7 q8 q9 q10 q11 q12 q13 q14 q15 now V : Int) (w : World) (HV : Hid ((⟨p0, p1, 2, p3, p4, p5, p6, p7, p8, p9, p10, p11, p12, p13, p14, p15⟩ : Anim).value now = V)) (hv0 : -33554432 ≤ V) (hv1 : V ≤ 33554432) (hq : ¬ q2 = 2) :
    Calls Try.prog 58 #[.agg #[.int .i64 p0, .int .i64 p1, .int .i64 2, .int .i64 p3, .int .i64 p4, .int .i64 p5, .int .i64 p6, .int .i64 p7, .int .i64 p8, .int .i64 p9, .int .i64 p10, .int .i64 p11, .int .i64 p12, .int .i64 p13, .int .i64 p14, .int .i64 p15], .agg #[.int .i64 q0, .int .i64 q1, .int .i64 q2, .int .i64 q3, .int .i64 q4, .int .i64 q5, .int .i64 q6, .int .i64 q7, .int .i64 q8, .int .i64 q9, .int .i64 q10, .int .i64 q11, .int .i64 q12, .int .i64 q13, .int .i64 q14, .int .i64 q15], .int .i64 now] w (GivesV (.agg #[.int .i64 q0, .int .i64 q1, .int .i64 q2, .int .i64 V, .int .i64 q4, .int .i64 q5, .int .i64 q6, .int .i64 q7, .int .i64 q8, .int .i64 q9, .int .i64 q10, .int .i64 q11, .int .i64 q12, .int .i64 (65536 * V), .int .i64 0, .int .i64 q15]) w) := by
  have e1 : (q2 == 2) = false := by simpa using hq
  clear hq
  go_enter Try.func58, Try.ntmps58
  go_wp2_with fail
  refine (Value_any _ _ _ _ _ _ _ _ _ _ _ _ _ _ _ _ _ _).mono ?_
  rw [HV.out]
  rintro e w1 ⟨rfl, hb⟩
  obtain ⟨k0, k1, k2⟩ := alloc3_heap w (.cells #[.int .i64 p0, .int .i64 p1, .int .i64 2, .int .i64 p3, .int .i64 p4, .int .i64 p5, .int .i64 p6, .int .i64 p7, .int .i64 p8, .int .i64 p9, .int .i64 p10, .int .i64 p11, .int .i64 p12, .int .i64 p13, .int .i64 p14, .int .i64 p15] 38 (0, 0)) (.cells #[.int .i64 q0, .int .i64 q1, .int .i64 q2, .int .i64 q3, .int .i64 q4, .int .i64 q5, .int .i64 q6, .int .i64 q7, .int .i64 q8, .int .i64 q9, .int .i64 q10, .int .i64 q11, .int .i64 q12, .int .i64 q13, .int .i64 q14, .int .i64 q15] 38 (0, 0)) (.cells #[.int .i64 0, .int .i64 0, .int .i64 0, .int .i64 0, .int .i64 0, .int .i64 0, .int .i64 0, .int .i64 0, .int .i64 0, .int .i64 0, .int .i64 0, .int .i64 0, .int .i64 0, .int .i64 0, .int .i64 0, .int .i64 0] 38 (0, 0))
  have HO : Hid (AnimBlk w1 w.heap.size 38 [.int .i64 p0, .int .i64 p1, .int .i64 2, .int .i64 p3, .int .i64 p4, .int .i64 p5, .int .i64 p6, .int .i64 p7, .int .i64 p8, .int .i64 p9, .int .i64 p10, .int .i64 p11, .int .i64 p12, .int .i64 p13, .int .i64 p14, .int .i64 p15]) := ⟨rfl, (hb.block w.heap.size (by simp; omega)).trans k0⟩
  have HA : Hid (AnimBlk w1 (w.heap.size + 1) 38 [.int .i64 q0, .int .i64 q1, .int .i64 q2, .int .i64 q3, .int .i64 q4, .int .i64 q5, .int .i64 q6, .int .i64 q7, .int .i64 q8, .int .i64 q9, .int .i64 q10, .int .i64 q11, .int .i64 q12, .int .i64 q13, .int .i64 q14, .int .i64 q15]) := ⟨rfl, (hb.block (w.heap.size + 1) (by simp)).trans k1⟩
  have HR : Hid (AnimBlk w1 (w.heap.size + 1 + 1) 38 [.int .i64 0, .int .i64 0, .int .i64 0, .int .i64 0, .int .i64 0, .int .i64 0, .int .i64 0, .int .i64 0, .int .i64 0, .int .i64 0, .int .i64 0, .int .i64 0, .int .i64 0, .int .i64 0, .int .i64 0, .int .i64 0]) := ⟨rfl, (hb.block (w.heap.size + 2) (by simp)).trans k2⟩
  have HB1 : Hid (Below w.heap.size w w1) := (below3 _ _ _ _).trans (hb.mono (by simp; omega))
  clear hb k0 k1 k2
  have ho0 : w1.cell? ⟨w.heap.size, 0, none⟩ = some (.int .i64 p0) := (HO.out.cell 0).trans rfl
  have ho1 : w1.cell? ⟨w.heap.size, 1, none⟩ = some (.int .i64 p1) := (HO.out.cell 1).trans rfl
  have ho2 : w1.cell? ⟨w.heap.size, 2, none⟩ = some (.int .i64 2) := (HO.out.cell 2).trans rfl
  have ho3 : w1.cell? ⟨w.heap.size, 3, none⟩ = some (.int .i64 p3) := (HO.out.cell 3).trans rfl
  have ho4 : w1.cell? ⟨w.heap.size, 4, none⟩ = some (.int .i64 p4) := (HO.out.cell 4).trans rfl
  have ho5 : w1.cell? ⟨w.heap.size, 5, none⟩ = some (.int .i64 p5) := (HO.out.cell 5).trans rfl
  have ho6 : w1.cell? ⟨w.heap.size, 6, none⟩ = some (.int .i64 p6) := (HO.out.cell 6).trans rfl
  have ho7 : w1.cell? ⟨w.heap.size, 7, none⟩ = some (.int .i64 p7) := (HO.out.cell 7).trans rfl
  have ho8 : w1.cell? ⟨w.heap.size, 8, none⟩ = some (.int .i64 p8) := (HO.out.cell 8).trans rfl
  have ho9 : w1.cell? ⟨w.heap.size, 9, none⟩ = some (.int .i64 p9) := (HO.out.cell 9).trans rfl
  have ho10 : w1.cell? ⟨w.heap.size, 10, none⟩ = some (.int .i64 p10) := (HO.out.cell 10).trans rfl
  have ho11 : w1.cell? ⟨w.heap.size, 11, none⟩ = some (.int .i64 p11) := (HO.out.cell 11).trans rfl
  have ho12 : w1.cell? ⟨w.heap.size, 12, none⟩ = some (.int .i64 p12) := (HO.out.cell 12).trans rfl
  have ho13 : w1.cell? ⟨w.heap.size, 13, none⟩ = some (.int .i64 p13) := (HO.out.cell 13).trans rfl
  have ho14 : w1.cell? ⟨w.heap.size, 14, none⟩ = some (.int .i64 p14) := (HO.out.cell 14).trans rfl
  have ho15 : w1.cell? ⟨w.heap.size, 15, none⟩ = some (.int .i64 p15) := (HO.out.cell 15).trans rfl
  have ha0 : w1.cell? ⟨w.heap.size + 1, 0, none⟩ = some (.int .i64 q0) := (HA.out.cell 0).trans rfl
  have ha1 : w1.cell? ⟨w.heap.size + 1, 1, none⟩ = some (.int .i64 q1) := (HA.out.cell 1).trans rfl
  have ha2 : w1.cell? ⟨w.heap.size + 1, 2, none⟩ = some (.int .i64 q2) := (HA.out.cell 2).trans rfl
  have ha3 : w1.cell? ⟨w.heap.size + 1, 3, none⟩ = some (.int .i64 q3) := (HA.out.cell 3).trans rfl
  have ha4 : w1.cell? ⟨w.heap.size + 1, 4, none⟩ = some (.int .i64 q4) := (HA.out.cell 4).trans rfl
  have ha5 : w1.cell? ⟨w.heap.size + 1, 5, none⟩ = some (.int .i64 q5) := (HA.out.cell 5).trans rfl
  have ha6 : w1.cell? ⟨w.heap.size + 1, 6, none⟩ = some (.int .i64 q6) := (HA.out.cell 6).trans rfl
  have ha7 : w1.cell? ⟨w.heap.size + 1, 7, none⟩ = some (.int .i64 q7) := (HA.out.cell 7).trans rfl
  have ha8 : w1.cell? ⟨w.heap.size + 1, 8, none⟩ = some (.int .i64 q8) := (HA.out.cell 8).trans rfl
  have ha9 : w1.cell? ⟨w.heap.size + 1, 9, none⟩ = some (.int .i64 q9) := (HA.out.cell 9).trans rfl
  have ha10 : w1.cell? ⟨w.heap.size + 1, 10, none⟩ = some (.int .i64 q10) := (HA.out.cell 10).trans rfl
  have ha11 : w1.cell? ⟨w.heap.size + 1, 11, none⟩ = some (.int .i64 q11) := (HA.out.cell 11).trans rfl
  have ha12 : w1.cell? ⟨w.heap.size + 1, 12, none⟩ = some (.int .i64 q12) := (HA.out.cell 12).trans rfl
  have ha13 : w1.cell? ⟨w.heap.size + 1, 13, none⟩ = some (.int .i64 q13) := (HA.out.cell 13).trans rfl
  have ha14 : w1.cell? ⟨w.heap.size + 1, 14, none⟩ = some (.int .i64 q14) := (HA.out.cell 14).trans rfl
  have ha15 : w1.cell? ⟨w.heap.size + 1, 15, none⟩ = some (.int .i64 q15) := (HA.out.cell 15).trans rfl
  have haz3 : w1.frozen? ⟨w.heap.size + 1, 3, none⟩ = false := HA.out.free 3
  have haz13 : w1.frozen? ⟨w.heap.size + 1, 13, none⟩ = false := HA.out.free 13
  have haz14 : w1.frozen? ⟨w.heap.size + 1, 14, none⟩ = false := HA.out.free 14
  have hl1 : w.heap.size + 1 < w1.heap.size := HA.out.lt
  have hne : w.heap.size + 1 + 1 ≠ w.heap.size + 1 := by omega
  have hle : w.heap.size ≤ w.heap.size + 1 := by omega
  as_aux_lemma =>
  go_wp2_with (refine stop_dst 32 ?_)
  have HR3 : Hid (AnimBlk (((w1.setCell ⟨w.heap.size + 1, 3, none⟩ (.int .i64 V)).setCell ⟨w.heap.size + 1, 13, none⟩ (.int .i64 (65536 * V))).setCell ⟨w.heap.size + 1, 14, none⟩ (.int .i64 0)) (w.heap.size + 1 + 1) 38 [.int .i64 0, .int .i64 0, .int .i64 0, .int .i64 0, .int .i64 0, .int .i64 0, .int .i64 0, .int .i64 0, .int .i64 0, .int .i64 0, .int .i64 0, .int .i64 0, .int .i64 0, .int .i64 0, .int .i64 0, .int .i64 0]) := (((HR.out.set_other hne 3 _).set_other hne 13 _).set_other hne 14 _)
  have HB3 : Hid (Below w.heap.size w (((w1.setCell ⟨w.heap.size + 1, 3, none⟩ (.int .i64 V)).setCell ⟨w.heap.size + 1, 13, none⟩ (.int .i64 (65536 * V))).setCell ⟨w.heap.size + 1, 14, none⟩ (.int .i64 0))) := (((HB1.out.setCell hle _).setCell hle _).setCell hle _)
  have HA3 : Hid (AnimBlk (((w1.setCell ⟨w.heap.size + 1, 3, none⟩ (.int .i64 V)).setCell ⟨w.heap.size + 1, 13, none⟩ (.int .i64 (65536 * V))).setCell ⟨w.heap.size + 1, 14, none⟩ (.int .i64 0)) (w.heap.size + 1) 38 [.int .i64 q0, .int .i64 q1, .int .i64 q2, .int .i64 V, .int .i64 q4, .int .i64 q5, .int .i64 q6, .int .i64 q7, .int .i64 q8, .int .i64 q9, .int .i64 q10, .int .i64 q11, .int .i64 q12, .int .i64 (65536 * V), .int .i64 0, .int .i64 q15]) := (((HA.out.set 3 _).set 13 _).set 14 _)
  obtain ⟨W3, hW3⟩ : ∃ W3, ((w1.setCell ⟨w.heap.size + 1, 3, none⟩ (.int .i64 V)).setCell ⟨w.heap.size + 1, 13, none⟩ (.int .i64 (65536 * V))).setCell ⟨w.heap.size + 1, 14, none⟩ (.int .i64 0) = W3 := ⟨_, rfl⟩
  rw [hW3] at HR3 HB3 HA3 ⊢
  clear hW3 ho0 ha0 ho1 ha1 ho2 ha2 ho3 ha3 ho4 ha4 ho5 ha5 ho6 ha6 ho7 ha7 ho8 ha8 ho9 ha9 ho10 ha10 ho11 ha11 ho12 ha12 ho13 ha13 ho14 ha14 ho15 ha15 haz3 haz13 haz14 hl1
  refine go_on ?_
  as_aux_lemma =>
  refine load_anim rfl _ rfl (w.heap.size + 1) rfl _ _ HA3.out ?_
  refine store_anim rfl _ _ rfl (w.heap.size + 1 + 1) [.int .i64 q0, .int .i64 q1, .int .i64 q2, .int .i64 V, .int .i64 q4, .int .i64 q5, .int .i64 q6, .int .i64 q7, .int .i64 q8, .int .i64 q9, .int .i64 q10, .int .i64 q11, .int .i64 q12, .int .i64 (65536 * V), .int .i64 0, .int .i64 q15] rfl rfl rfl _ _ HR3.out (by simp [Value.oneCell']) ?_
  intro W HR4 hB4
  have HB4 := HB3.out.trans (hB4 w.heap.size (by omega))
  clear hB4
  go_wp2
  have r0 : W.cell? ⟨w.heap.size + 1 + 1, 0, none⟩ = some (.int .i64 q0) := (HR4.cell 0).trans rfl
  have r1 : W.cell? ⟨w.heap.size + 1 + 1, 1, none⟩ = some (.int .i64 q1) := (HR4.cell 1).trans rfl
  have r2 : W.cell? ⟨w.heap.size + 1 + 1, 2, none⟩ = some (.int .i64 q2) := (HR4.cell 2).trans rfl
  have r3 : W.cell? ⟨w.heap.size + 1 + 1, 3, none⟩ = some (.int .i64 V) := (HR4.cell 3).trans rfl
  have r4 : W.cell? ⟨w.heap.size + 1 + 1, 4, none⟩ = some (.int .i64 q4) := (HR4.cell 4).trans rfl
  have r5 : W.cell? ⟨w.heap.size + 1 + 1, 5, none⟩ = some (.int .i64 q5) := (HR4.cell 5).trans rfl
  have r6 : W.cell? ⟨w.heap.size + 1 + 1, 6, none⟩ = some (.int .i64 q6) := (HR4.cell 6).trans rfl
  have r7 : W.cell? ⟨w.heap.size + 1 + 1, 7, none⟩ = some (.int .i64 q7) := (HR4.cell 7).trans rfl
  have r8 : W.cell? ⟨w.heap.size + 1 + 1, 8, none⟩ = some (.int .i64 q8) := (HR4.cell 8).trans rfl
  have r9 : W.cell? ⟨w.heap.size + 1 + 1, 9, none⟩ = some (.int .i64 q9) := (HR4.cell 9).trans rfl
  have r10 : W.cell? ⟨w.heap.size + 1 + 1, 10, none⟩ = some (.int .i64 q10) := (HR4.cell 10).trans rfl
  have r11 : W.cell? ⟨w.heap.size + 1 + 1, 11, none⟩ = some (.int .i64 q11) := (HR4.cell 11).trans rfl
  have r12 : W.cell? ⟨w.heap.size + 1 + 1, 12, none⟩ = some (.int .i64 q12) := (HR4.cell 12).trans rfl
  have r13 : W.cell? ⟨w.heap.size + 1 + 1, 13, none⟩ = some (.int .i64 (65536 * V)) := (HR4.cell 13).trans rfl
  have r14 : W.cell? ⟨w.heap.size + 1 + 1, 14, none⟩ = some (.int .i64 0) := (HR4.cell 14).trans rfl
  have r15 : W.cell? ⟨w.heap.size + 1 + 1, 15, none⟩ = some (.int .i64 q15) := (HR4.cell 15).trans rfl
  exact bodyPost_ret (v := .agg #[.int .i64 q0, .int .i64 q1, .int .i64 q2, .int .i64 V, .int .i64 q4, .int .i64 q5, .int .i64 q6, .int .i64 q7, .int .i64 q8, .int .i64 q9, .int .i64 q10, .int .i64 q11, .int .i64 q12, .int .i64 (65536 * V), .int .i64 0, .int .i64 q15]) (by simp [results, Try.results58, go_sem, r0, r1, r2, r3, r4, r5, r6, r7, r8, r9, r10, r11, r12, r13, r14, r15]) rfl ⟨rfl, HB4⟩

set_option maxHeartbeats 4000000 in
set_option maxRecDepth 100000 in
theorem inter_ss (p0 p1 p3 p4 p5 p6 p7 p8 p9 p10 p11 p12 p13 p14 p15 q0 q1 q3 q4 q5 q6 q7 q8 q9 q10 q11 q12 q13 q14 q15 now V : Int) (w : World) (HV : Hid ((⟨p0, p1, 2, p3, p4, p5, p6, p7, p8, p9, p10, p11, p12, p13, p14, p15⟩ : Anim).value now = V)) (hv0 : -33554432 ≤ V) (hv1 : V ≤ 33554432) (S1 S2 : Int) (HX : Hid ((⟨p0, p1, 2, p3, p4, p5, p6, p7, p8, p9, p10, p11, p12, p13, p14, p15⟩ : Anim).state now = (S1, S2))) (hs0 : 0 ≤ p5) (hs1 : p5 ≤ 1099511627776) (hn0 : 0 ≤ now) (hn1 : now ≤ 1099511627776) (ht0 : -1048576 ≤ p4) (ht1 : p4 ≤ 1048576) (hw0 : 0 ≤ p15) (hw1 : p15 ≤ 1099511627776) :
    Calls Try.prog 58 #[.agg #[.int .i64 p0, .int .i64 p1, .int .i64 2, .int .i64 p3, .int .i64 p4, .int .i64 p5, .int .i64 p6, .int .i64 p7, .int .i64 p8, .int .i64 p9, .int .i64 p10, .int .i64 p11, .int .i64 p12, .int .i64 p13, .int .i64 p14, .int .i64 p15], .agg #[.int .i64 q0, .int .i64 q1, .int .i64 2, .int .i64 q3, .int .i64 q4, .int .i64 q5, .int .i64 q6, .int .i64 q7, .int .i64 q8, .int .i64 q9, .int .i64 q10, .int .i64 q11, .int .i64 q12, .int .i64 q13, .int .i64 q14, .int .i64 q15], .int .i64 now] w (GivesV (.agg #[.int .i64 q0, .int .i64 q1, .int .i64 2, .int .i64 V, .int .i64 q4, .int .i64 q5, .int .i64 q6, .int .i64 q7, .int .i64 q8, .int .i64 q9, .int .i64 q10, .int .i64 q11, .int .i64 q12, .int .i64 S1, .int .i64 S2, .int .i64 q15]) w) := by
  go_enter Try.func58, Try.ntmps58
  go_wp2_with fail
  refine (Value_any _ _ _ _ _ _ _ _ _ _ _ _ _ _ _ _ _ _).mono ?_
  rw [HV.out]
  rintro e w1 ⟨rfl, hb⟩
  obtain ⟨k0, k1, k2⟩ := alloc3_heap w (.cells #[.int .i64 p0, .int .i64 p1, .int .i64 2, .int .i64 p3, .int .i64 p4, .int .i64 p5, .int .i64 p6, .int .i64 p7, .int .i64 p8, .int .i64 p9, .int .i64 p10, .int .i64 p11, .int .i64 p12, .int .i64 p13, .int .i64 p14, .int .i64 p15] 38 (0, 0)) (.cells #[.int .i64 q0, .int .i64 q1, .int .i64 2, .int .i64 q3, .int .i64 q4, .int .i64 q5, .int .i64 q6, .int .i64 q7, .int .i64 q8, .int .i64 q9, .int .i64 q10, .int .i64 q11, .int .i64 q12, .int .i64 q13, .int .i64 q14, .int .i64 q15] 38 (0, 0)) (.cells #[.int .i64 0, .int .i64 0, .int .i64 0, .int .i64 0, .int .i64 0, .int .i64 0, .int .i64 0, .int .i64 0, .int .i64 0, .int .i64 0, .int .i64 0, .int .i64 0, .int .i64 0, .int .i64 0, .int .i64 0, .int .i64 0] 38 (0, 0))
  have HO : Hid (AnimBlk w1 w.heap.size 38 [.int .i64 p0, .int .i64 p1, .int .i64 2, .int .i64 p3, .int .i64 p4, .int .i64 p5, .int .i64 p6, .int .i64 p7, .int .i64 p8, .int .i64 p9, .int .i64 p10, .int .i64 p11, .int .i64 p12, .int .i64 p13, .int .i64 p14, .int .i64 p15]) := ⟨rfl, (hb.block w.heap.size (by simp; omega)).trans k0⟩
  have HA : Hid (AnimBlk w1 (w.heap.size + 1) 38 [.int .i64 q0, .int .i64 q1, .int .i64 2, .int .i64 q3, .int .i64 q4, .int .i64 q5, .int .i64 q6, .int .i64 q7, .int .i64 q8, .int .i64 q9, .int .i64 q10, .int .i64 q11, .int .i64 q12, .int .i64 q13, .int .i64 q14, .int .i64 q15]) := ⟨rfl, (hb.block (w.heap.size + 1) (by simp)).trans k1⟩
  have HR : Hid (AnimBlk w1 (w.heap.size + 1 + 1) 38 [.int .i64 0, .int .i64 0, .int .i64 0, .int .i64 0, .int .i64 0, .int .i64 0, .int .i64 0, .int .i64 0, .int .i64 0, .int .i64 0, .int .i64 0, .int .i64 0, .int .i64 0, .int .i64 0, .int .i64 0, .int .i64 0]) := ⟨rfl, (hb.block (w.heap.size + 2) (by simp)).trans k2⟩
  have HB1 : Hid (Below w.heap.size w w1) := (below3 _ _ _ _).trans (hb.mono (by simp; omega))
  clear hb k0 k1 k2
  have ho0 : w1.cell? ⟨w.heap.size, 0, none⟩ = some (.int .i64 p0) := (HO.out.cell 0).trans rfl
  have ho1 : w1.cell? ⟨w.heap.size, 1, none⟩ = some (.int .i64 p1) := (HO.out.cell 1).trans rfl
  have ho2 : w1.cell? ⟨w.heap.size, 2, none⟩ = some (.int .i64 2) := (HO.out.cell 2).trans rfl
  have ho3 : w1.cell? ⟨w.heap.size, 3, none⟩ = some (.int .i64 p3) := (HO.out.cell 3).trans rfl
  have ho4 : w1.cell? ⟨w.heap.size, 4, none⟩ = some (.int .i64 p4) := (HO.out.cell 4).trans rfl
  have ho5 : w1.cell? ⟨w.heap.size, 5, none⟩ = some (.int .i64 p5) := (HO.out.cell 5).trans rfl
  have ho6 : w1.cell? ⟨w.heap.size, 6, none⟩ = some (.int .i64 p6) := (HO.out.cell 6).trans rfl
  have ho7 : w1.cell? ⟨w.heap.size, 7, none⟩ = some (.int .i64 p7) := (HO.out.cell 7).trans rfl
  have ho8 : w1.cell? ⟨w.heap.size, 8, none⟩ = some (.int .i64 p8) := (HO.out.cell 8).trans rfl
  have ho9 : w1.cell? ⟨w.heap.size, 9, none⟩ = some (.int .i64 p9) := (HO.out.cell 9).trans rfl
  have ho10 : w1.cell? ⟨w.heap.size, 10, none⟩ = some (.int .i64 p10) := (HO.out.cell 10).trans rfl
  have ho11 : w1.cell? ⟨w.heap.size, 11, none⟩ = some (.int .i64 p11) := (HO.out.cell 11).trans rfl
  have ho12 : w1.cell? ⟨w.heap.size, 12, none⟩ = some (.int .i64 p12) := (HO.out.cell 12).trans rfl
  have ho13 : w1.cell? ⟨w.heap.size, 13, none⟩ = some (.int .i64 p13) := (HO.out.cell 13).trans rfl
  have ho14 : w1.cell? ⟨w.heap.size, 14, none⟩ = some (.int .i64 p14) := (HO.out.cell 14).trans rfl
  have ho15 : w1.cell? ⟨w.heap.size, 15, none⟩ = some (.int .i64 p15) := (HO.out.cell 15).trans rfl
  have ha0 : w1.cell? ⟨w.heap.size + 1, 0, none⟩ = some (.int .i64 q0) := (HA.out.cell 0).trans rfl
  have ha1 : w1.cell? ⟨w.heap.size + 1, 1, none⟩ = some (.int .i64 q1) := (HA.out.cell 1).trans rfl
  have ha2 : w1.cell? ⟨w.heap.size + 1, 2, none⟩ = some (.int .i64 2) := (HA.out.cell 2).trans rfl
  have ha3 : w1.cell? ⟨w.heap.size + 1, 3, none⟩ = some (.int .i64 q3) := (HA.out.cell 3).trans rfl
  have ha4 : w1.cell? ⟨w.heap.size + 1, 4, none⟩ = some (.int .i64 q4) := (HA.out.cell 4).trans rfl
  have ha5 : w1.cell? ⟨w.heap.size + 1, 5, none⟩ = some (.int .i64 q5) := (HA.out.cell 5).trans rfl
  have ha6 : w1.cell? ⟨w.heap.size + 1, 6, none⟩ = some (.int .i64 q6) := (HA.out.cell 6).trans rfl
  have ha7 : w1.cell? ⟨w.heap.size + 1, 7, none⟩ = some (.int .i64 q7) := (HA.out.cell 7).trans rfl
  have ha8 : w1.cell? ⟨w.heap.size + 1, 8, none⟩ = some (.int .i64 q8) := (HA.out.cell 8).trans rfl
  have ha9 : w1.cell? ⟨w.heap.size + 1, 9, none⟩ = some (.int .i64 q9) := (HA.out.cell 9).trans rfl
  have ha10 : w1.cell? ⟨w.heap.size + 1, 10, none⟩ = some (.int .i64 q10) := (HA.out.cell 10).trans rfl
  have ha11 : w1.cell? ⟨w.heap.size + 1, 11, none⟩ = some (.int .i64 q11) := (HA.out.cell 11).trans rfl
  have ha12 : w1.cell? ⟨w.heap.size + 1, 12, none⟩ = some (.int .i64 q12) := (HA.out.cell 12).trans rfl
  have ha13 : w1.cell? ⟨w.heap.size + 1, 13, none⟩ = some (.int .i64 q13) := (HA.out.cell 13).trans rfl
  have ha14 : w1.cell? ⟨w.heap.size + 1, 14, none⟩ = some (.int .i64 q14) := (HA.out.cell 14).trans rfl
  have ha15 : w1.cell? ⟨w.heap.size + 1, 15, none⟩ = some (.int .i64 q15) := (HA.out.cell 15).trans rfl
  have haz3 : w1.frozen? ⟨w.heap.size + 1, 3, none⟩ = false := HA.out.free 3
  have haz13 : w1.frozen? ⟨w.heap.size + 1, 13, none⟩ = false := HA.out.free 13
  have haz14 : w1.frozen? ⟨w.heap.size + 1, 14, none⟩ = false := HA.out.free 14
  have hl1 : w.heap.size + 1 < w1.heap.size := HA.out.lt
  have hne : w.heap.size + 1 + 1 ≠ w.heap.size + 1 := by omega
  have hle : w.heap.size ≤ w.heap.size + 1 := by omega
  go_wp2_with fail
  refine (state_any _ _ _ _ _ _ _ _ _ _ _ _ _ _ _ _ _ _ (by omega) (by omega) (by omega) (by omega) (by omega) (by omega) (by omega) (by omega)).mono ?_
  rw [HX.out]
  rintro e w2 ⟨rfl, hw2⟩
  have HR2 : Hid (AnimBlk w2 (w.heap.size + 1 + 1) 38 [.int .i64 0, .int .i64 0, .int .i64 0, .int .i64 0, .int .i64 0, .int .i64 0, .int .i64 0, .int .i64 0, .int .i64 0, .int .i64 0, .int .i64 0, .int .i64 0, .int .i64 0, .int .i64 0, .int .i64 0, .int .i64 0]) := hw2 ▸ (((((HR.out.set_other hne 3 _).set_other hne 13 _).set_other hne 14 _).alloc _))
  have HA2 : Hid (AnimBlk w2 (w.heap.size + 1) 38 [.int .i64 q0, .int .i64 q1, .int .i64 2, .int .i64 V, .int .i64 q4, .int .i64 q5, .int .i64 q6, .int .i64 q7, .int .i64 q8, .int .i64 q9, .int .i64 q10, .int .i64 q11, .int .i64 q12, .int .i64 (65536 * V), .int .i64 0, .int .i64 q15]) := hw2 ▸ (((((HA.out.set 3 _).set 13 _).set 14 _).alloc _))
  have HB2 : Hid (Below w.heap.size w w2) := hw2 ▸ ((((HB1.out.setCell hle _).setCell hle _).setCell hle _).alloc (by simp; omega) _)
  clear hw2 ho0 ha0 ho1 ha1 ho2 ha2 ho3 ha3 ho4 ha4 ho5 ha5 ho6 ha6 ho7 ha7 ho8 ha8 ho9 ha9 ho10 ha10 ho11 ha11 ho12 ha12 ho13 ha13 ho14 ha14 ho15 ha15 haz3 haz13 haz14 hl1
  have ha20 : w2.cell? ⟨w.heap.size + 1, 0, none⟩ = some (.int .i64 q0) := (HA2.out.cell 0).trans rfl
  have ha21 : w2.cell? ⟨w.heap.size + 1, 1, none⟩ = some (.int .i64 q1) := (HA2.out.cell 1).trans rfl
  have ha22 : w2.cell? ⟨w.heap.size + 1, 2, none⟩ = some (.int .i64 2) := (HA2.out.cell 2).trans rfl
  have ha23 : w2.cell? ⟨w.heap.size + 1, 3, none⟩ = some (.int .i64 V) := (HA2.out.cell 3).trans rfl
  have ha24 : w2.cell? ⟨w.heap.size + 1, 4, none⟩ = some (.int .i64 q4) := (HA2.out.cell 4).trans rfl
  have ha25 : w2.cell? ⟨w.heap.size + 1, 5, none⟩ = some (.int .i64 q5) := (HA2.out.cell 5).trans rfl
  have ha26 : w2.cell? ⟨w.heap.size + 1, 6, none⟩ = some (.int .i64 q6) := (HA2.out.cell 6).trans rfl
  have ha27 : w2.cell? ⟨w.heap.size + 1, 7, none⟩ = some (.int .i64 q7) := (HA2.out.cell 7).trans rfl
  have ha28 : w2.cell? ⟨w.heap.size + 1, 8, none⟩ = some (.int .i64 q8) := (HA2.out.cell 8).trans rfl
  have ha29 : w2.cell? ⟨w.heap.size + 1, 9, none⟩ = some (.int .i64 q9) := (HA2.out.cell 9).trans rfl
  have ha210 : w2.cell? ⟨w.heap.size + 1, 10, none⟩ = some (.int .i64 q10) := (HA2.out.cell 10).trans rfl
  have ha211 : w2.cell? ⟨w.heap.size + 1, 11, none⟩ = some (.int .i64 q11) := (HA2.out.cell 11).trans rfl
  have ha212 : w2.cell? ⟨w.heap.size + 1, 12, none⟩ = some (.int .i64 q12) := (HA2.out.cell 12).trans rfl
  have ha213 : w2.cell? ⟨w.heap.size + 1, 13, none⟩ = some (.int .i64 (65536 * V)) := (HA2.out.cell 13).trans rfl
  have ha214 : w2.cell? ⟨w.heap.size + 1, 14, none⟩ = some (.int .i64 0) := (HA2.out.cell 14).trans rfl
  have ha215 : w2.cell? ⟨w.heap.size + 1, 15, none⟩ = some (.int .i64 q15) := (HA2.out.cell 15).trans rfl
  have ha2z13 : w2.frozen? ⟨w.heap.size + 1, 13, none⟩ = false := HA2.out.free 13
  have ha2z14 : w2.frozen? ⟨w.heap.size + 1, 14, none⟩ = false := HA2.out.free 14
  have hl1 : w.heap.size + 1 < w2.heap.size := HA2.out.lt
  as_aux_lemma =>
  go_wp2_with (refine stop_dst 32 ?_)
  have HR3 : Hid (AnimBlk ((w2.setCell ⟨w.heap.size + 1, 13, none⟩ (.int .i64 S1)).setCell ⟨w.heap.size + 1, 14, none⟩ (.int .i64 S2)) (w.heap.size + 1 + 1) 38 [.int .i64 0, .int .i64 0, .int .i64 0, .int .i64 0, .int .i64 0, .int .i64 0, .int .i64 0, .int .i64 0, .int .i64 0, .int .i64 0, .int .i64 0, .int .i64 0, .int .i64 0, .int .i64 0, .int .i64 0, .int .i64 0]) := ((HR2.out.set_other hne 13 _).set_other hne 14 _)
  have HB3 : Hid (Below w.heap.size w ((w2.setCell ⟨w.heap.size + 1, 13, none⟩ (.int .i64 S1)).setCell ⟨w.heap.size + 1, 14, none⟩ (.int .i64 S2))) := ((HB2.out.setCell hle _).setCell hle _)
  have HA3 : Hid (AnimBlk ((w2.setCell ⟨w.heap.size + 1, 13, none⟩ (.int .i64 S1)).setCell ⟨w.heap.size + 1, 14, none⟩ (.int .i64 S2)) (w.heap.size + 1) 38 [.int .i64 q0, .int .i64 q1, .int .i64 2, .int .i64 V, .int .i64 q4, .int .i64 q5, .int .i64 q6, .int .i64 q7, .int .i64 q8, .int .i64 q9, .int .i64 q10, .int .i64 q11, .int .i64 q12, .int .i64 S1, .int .i64 S2, .int .i64 q15]) := ((HA2.out.set 13 _).set 14 _)
  obtain ⟨W3, hW3⟩ : ∃ W3, (w2.setCell ⟨w.heap.size + 1, 13, none⟩ (.int .i64 S1)).setCell ⟨w.heap.size + 1, 14, none⟩ (.int .i64 S2) = W3 := ⟨_, rfl⟩
  rw [hW3] at HR3 HB3 HA3 ⊢
  clear hW3 ha20 ha21 ha22 ha23 ha24 ha25 ha26 ha27 ha28 ha29 ha210 ha211 ha212 ha213 ha214 ha215 ha2z13 ha2z14 hl1
  refine go_on ?_
  as_aux_lemma =>
  refine load_anim rfl _ rfl (w.heap.size + 1) rfl _ _ HA3.out ?_
  refine store_anim rfl _ _ rfl (w.heap.size + 1 + 1) [.int .i64 q0, .int .i64 q1, .int .i64 2, .int .i64 V, .int .i64 q4, .int .i64 q5, .int .i64 q6, .int .i64 q7, .int .i64 q8, .int .i64 q9, .int .i64 q10, .int .i64 q11, .int .i64 q12, .int .i64 S1, .int .i64 S2, .int .i64 q15] rfl rfl rfl _ _ HR3.out (by simp [Value.oneCell']) ?_
  intro W HR4 hB4
  have HB4 := HB3.out.trans (hB4 w.heap.size (by omega))
  clear hB4
  go_wp2
  have r0 : W.cell? ⟨w.heap.size + 1 + 1, 0, none⟩ = some (.int .i64 q0) := (HR4.cell 0).trans rfl
  have r1 : W.cell? ⟨w.heap.size + 1 + 1, 1, none⟩ = some (.int .i64 q1) := (HR4.cell 1).trans rfl
  have r2 : W.cell? ⟨w.heap.size + 1 + 1, 2, none⟩ = some (.int .i64 2) := (HR4.cell 2).trans rfl
  have r3 : W.cell? ⟨w.heap.size + 1 + 1, 3, none⟩ = some (.int .i64 V) := (HR4.cell 3).trans rfl
  have r4 : W.cell? ⟨w.heap.size + 1 + 1, 4, none⟩ = some (.int .i64 q4) := (HR4.cell 4).trans rfl
  have r5 : W.cell? ⟨w.heap.size + 1 + 1, 5, none⟩ = some (.int .i64 q5) := (HR4.cell 5).trans rfl
  have r6 : W.cell? ⟨w.heap.size + 1 + 1, 6, none⟩ = some (.int .i64 q6) := (HR4.cell 6).trans rfl
  have r7 : W.cell? ⟨w.heap.size + 1 + 1, 7, none⟩ = some (.int .i64 q7) := (HR4.cell 7).trans rfl
  have r8 : W.cell? ⟨w.heap.size + 1 + 1, 8, none⟩ = some (.int .i64 q8) := (HR4.cell 8).trans rfl
  have r9 : W.cell? ⟨w.heap.size + 1 + 1, 9, none⟩ = some (.int .i64 q9) := (HR4.cell 9).trans rfl
  have r10 : W.cell? ⟨w.heap.size + 1 + 1, 10, none⟩ = some (.int .i64 q10) := (HR4.cell 10).trans rfl
  have r11 : W.cell? ⟨w.heap.size + 1 + 1, 11, none⟩ = some (.int .i64 q11) := (HR4.cell 11).trans rfl
  have r12 : W.cell? ⟨w.heap.size + 1 + 1, 12, none⟩ = some (.int .i64 q12) := (HR4.cell 12).trans rfl
  have r13 : W.cell? ⟨w.heap.size + 1 + 1, 13, none⟩ = some (.int .i64 S1) := (HR4.cell 13).trans rfl
  have r14 : W.cell? ⟨w.heap.size + 1 + 1, 14, none⟩ = some (.int .i64 S2) := (HR4.cell 14).trans rfl
  have r15 : W.cell? ⟨w.heap.size + 1 + 1, 15, none⟩ = some (.int .i64 q15) := (HR4.cell 15).trans rfl
  exact bodyPost_ret (v := .agg #[.int .i64 q0, .int .i64 q1, .int .i64 2, .int .i64 V, .int .i64 q4, .int .i64 q5, .int .i64 q6, .int .i64 q7, .int .i64 q8, .int .i64 q9, .int .i64 q10, .int .i64 q11, .int .i64 q12, .int .i64 S1, .int .i64 S2, .int .i64 q15]) (by simp [results, Try.results58, go_sem, r0, r1, r2, r3, r4, r5, r6, r7, r8, r9, r10, r11, r12, r13, r14, r15]) rfl ⟨rfl, HB4⟩
end Go.Proofs.Ytfcffmjmohkpoaa
