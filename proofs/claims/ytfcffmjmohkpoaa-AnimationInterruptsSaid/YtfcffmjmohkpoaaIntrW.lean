/- The walk of the law AnimationInterrupts (printed by wip/gen_intr.py). -/
import Derived.Test.YtfcffmjmohkpoaaSetAny
import Derived.Test.YtfcffmjmohkpoaaSrcAnim
import Derived.Test.YtfcffmjmohkpoaaIntrPlain
import Derived.Test.YtfcffmjmohkpoaaLits
import Derived.Test.YtfcffmjmohkpoaaValue
import Derived.Test.YtfcffmjmohkpoaaSrcR
import Derived.Test.YtfcffmjmohkpoaaAwake36
import Derived.Test.YtfcffmjmohkpoaaHalt
import Derived.Lib.SmallJoins
import Derived.Deep.AppendLies
namespace Go.Proofs.Ytfcffmjmohkpoaa
open Go.RowKit
set_option linter.unusedVariables false
set_option linter.unusedSimpArgs false

set_option maxHeartbeats 2000000 in
set_option maxRecDepth 100000 in
theorem lit_41 {ops : Array Oper} {rest : List Oper} {Q : Exit → Act → World → Prop} {t1 t2 : TypeId} {s1 s2 : String} {e1 e2 : Array Edge} {r0 r1 r2 r3 r4 r5 r6 r7 r8 r9 r10 r11 r12 r13 r14 r15 : Int} {u0 u1 u2 u3 u4 u5 u6 u7 u9 u10 u11 u12 u13 u14 u15 u16 u17 u18 u19 u20 u21 u22 u23 u24 u25 u26 u27 u28 u29 u30 u31 u32 u33 u34 u35 u36 u37 u38 u39 u40 u41 u42 u43 u44 u45 u46 u47 u48 u49 u50 u51 u52 u53 u54 u55 u56 u57 u58 u59 u60 u61 u62 u63 u64 u65 u66 u67 u68 u69 u70 u71 u72 u73 u74 u75 u76 u77 u78 u79 u80 u81 u82 u83 u84 u85 u86 u87 u88 u89 u90 u91 u92 u93 u94 u95 u96 u97 u98 u99 u100 u101 u102 u103 u104 u105 u106 u107 u108 u109 u110 u111 u112 u113 u114 u115 u116 u117 u118 u119 : Value} {A0 : Nat} {w : World} (HBA : AnimBlk w A0 38 [.int .i64 r0, .int .i64 r1, .int .i64 r2, .int .i64 r3, .int .i64 r4, .int .i64 r5, .int .i64 r6, .int .i64 r7, .int .i64 r8, .int .i64 r9, .int .i64 r10, .int .i64 r11, .int .i64 r12, .int .i64 r13, .int .i64 r14, .int .i64 r15])
   (hQ : wpList Try.prog ops Q rest ⟨#[u0, u1, u2, u3, u4, u5, u6, u7, .pointer (some ⟨A0, 0, none⟩), u9, u10, u11, u12, u13, u14, u15, u16, u17, u18, u19, u20, u21, u22, u23, u24, u25, u26, u27, u28, u29, u30, u31, u32, u33, u34, u35, u36, u37, u38, u39, u40, .agg #[.int .i64 r0, .int .i64 r1, .int .i64 r2, .int .i64 r3, .int .i64 r4, .int .i64 r5, .int .i64 r6, .int .i64 r7, .int .i64 r8, .int .i64 r9, .int .i64 r10, .int .i64 r11, .int .i64 r12, .int .i64 r13, .int .i64 r14, .int .i64 r15], .slice (some ⟨w.heap.size, 0, none⟩) 1 1, u43, u44, u45, u46, u47, u48, u49, u50, u51, u52, u53, u54, u55, u56, u57, u58, u59, u60, u61, u62, u63, u64, u65, u66, u67, u68, u69, u70, u71, u72, u73, u74, u75, u76, u77, u78, u79, u80, u81, u82, u83, u84, u85, u86, u87, u88, u89, u90, u91, u92, u93, u94, u95, u96, u97, u98, u99, u100, u101, u102, u103, u104, u105, u106, u107, u108, u109, u110, u111, u112, u113, u114, u115, u116, u117, u118, u119], []⟩ (w.alloc (.cells #[.int .i64 r0, .int .i64 r1, .int .i64 r2, .int .i64 r3, .int .i64 r4, .int .i64 r5, .int .i64 r6, .int .i64 r7, .int .i64 r8, .int .i64 r9, .int .i64 r10, .int .i64 r11, .int .i64 r12, .int .i64 r13, .int .i64 r14, .int .i64 r15] 38))) :
   wpList Try.prog ops Q (⟨some 41, .load 38 (.tmp 8), t1, s1, e1, none⟩ :: ⟨some 42, .buildSlice 40 1 #[(0, .tmp 41)], t2, s2, e2, none⟩ :: rest) ⟨#[u0, u1, u2, u3, u4, u5, u6, u7, .pointer (some ⟨A0, 0, none⟩), u9, u10, u11, u12, u13, u14, u15, u16, u17, u18, u19, u20, u21, u22, u23, u24, u25, u26, u27, u28, u29, u30, u31, u32, u33, u34, u35, u36, u37, u38, u39, u40, u41, u42, u43, u44, u45, u46, u47, u48, u49, u50, u51, u52, u53, u54, u55, u56, u57, u58, u59, u60, u61, u62, u63, u64, u65, u66, u67, u68, u69, u70, u71, u72, u73, u74, u75, u76, u77, u78, u79, u80, u81, u82, u83, u84, u85, u86, u87, u88, u89, u90, u91, u92, u93, u94, u95, u96, u97, u98, u99, u100, u101, u102, u103, u104, u105, u106, u107, u108, u109, u110, u111, u112, u113, u114, u115, u116, u117, u118, u119], []⟩ w := by
  obtain ⟨G, hG⟩ : ∃ G, wpList Try.prog ops Q rest ⟨#[u0, u1, u2, u3, u4, u5, u6, u7, .pointer (some ⟨A0, 0, none⟩), u9, u10, u11, u12, u13, u14, u15, u16, u17, u18, u19, u20, u21, u22, u23, u24, u25, u26, u27, u28, u29, u30, u31, u32, u33, u34, u35, u36, u37, u38, u39, u40, .agg #[.int .i64 r0, .int .i64 r1, .int .i64 r2, .int .i64 r3, .int .i64 r4, .int .i64 r5, .int .i64 r6, .int .i64 r7, .int .i64 r8, .int .i64 r9, .int .i64 r10, .int .i64 r11, .int .i64 r12, .int .i64 r13, .int .i64 r14, .int .i64 r15], .slice (some ⟨w.heap.size, 0, none⟩) 1 1, u43, u44, u45, u46, u47, u48, u49, u50, u51, u52, u53, u54, u55, u56, u57, u58, u59, u60, u61, u62, u63, u64, u65, u66, u67, u68, u69, u70, u71, u72, u73, u74, u75, u76, u77, u78, u79, u80, u81, u82, u83, u84, u85, u86, u87, u88, u89, u90, u91, u92, u93, u94, u95, u96, u97, u98, u99, u100, u101, u102, u103, u104, u105, u106, u107, u108, u109, u110, u111, u112, u113, u114, u115, u116, u117, u118, u119], []⟩ (w.alloc (.cells #[.int .i64 r0, .int .i64 r1, .int .i64 r2, .int .i64 r3, .int .i64 r4, .int .i64 r5, .int .i64 r6, .int .i64 r7, .int .i64 r8, .int .i64 r9, .int .i64 r10, .int .i64 r11, .int .i64 r12, .int .i64 r13, .int .i64 r14, .int .i64 r15] 38)) = G := ⟨_, rfl⟩
  rw [hG] at hQ
  refine load_anim rfl _ rfl A0 rfl _ _ HBA ?_
  refine wpList_step (fun K hK => ?_)
  have HK := Lib.hid hK
  clear hK
  go_wp2
  refine HK.out _ _ ?_
  rw [hG]
  exact hQ

theorem line_any (w : World) : Calls Try.prog 32 #[] w (GivesL (.agg #[.int .i64 333, .int .i64 333, .int .i64 667, .int .i64 667]) w) := by
  go_enter Try.func32, Try.ntmps32
  go_wp2
  exact bodyPost_ret (v := .agg #[.int .i64 333, .int .i64 333, .int .i64 667, .int .i64 667]) (by simp [results, Try.results32, go_sem]) rfl ⟨rfl, below_new _ _⟩
set_option maxHeartbeats 4000000 in
set_option maxRecDepth 100000 in
theorem build_cur {ρ : Operand → Value} {ty : TypeId} {s : String} {e : Array Edge} {f t : Int} (h1 : ρ (.tmp 25) = .int .i64 f) (h2 : ρ (.tmp 27) = .int .i64 t) (h3 : ρ (.tmp 28) = .agg #[.int .i64 333, .int .i64 333, .int .i64 667, .int .i64 667]) (h4 : ρ (.const (.int .i64 1)) = .int .i64 1) (h5 : ρ (.const (.int .i64 300)) = .int .i64 300) (w : World) :
    (execOp ρ (⟨some 29, .build 38 #[(0, .const (.int .i64 1)), (2, .const (.int .i64 1)), (3, .tmp 25), (4, .tmp 27), (6, .const (.int .i64 300)), (7, .tmp 28)], ty, s, e, none⟩ : Oper)).run Try.prog w = .ok (.value (.agg #[.int .i64 1, .int .i64 0, .int .i64 1, .int .i64 f, .int .i64 t, .int .i64 0, .int .i64 300, .int .i64 333, .int .i64 333, .int .i64 667, .int .i64 667, .int .i64 0, .int .i64 0, .int .i64 0, .int .i64 0, .int .i64 0])) w := by
  go_simp
  all_goals (try simp [h1, h2, h3, h4, h5])
/-- What Set gives: one animation. -/
def SetOne (r : Anim) (w : World) (e : Ending) (w' : World) : Prop := ∃ bp op cp, e = .returned (.tuple #[.slice (some ⟨bp, op, none⟩) 1 cp, .int .i64 0]) ∧ 1 ≤ cp ∧ cp ≤ maxLen ∧ AnimOff w' bp op r ∧ Below w.heap.size w w'
theorem set_one (v : Value) (a r : Anim) (t2 now : Int) (w : World) (hv : IsAnims w v [a]) (he : setErr [a] (newA t2) now = 0) (hm : setOn [a] (newA t2) now = [r]) :
    Calls Try.prog 33 #[v, .agg #[.int .i64 1, .int .i64 0, .int .i64 2, .int .i64 7, .int .i64 t2, .int .i64 0, .int .i64 0, .int .i64 0, .int .i64 0, .int .i64 0, .int .i64 0, .int .i64 200, .int .i64 240, .int .i64 458752, .int .i64 99, .int .i64 0], .int .i64 now] w (SetOne r w) := by
  refine (set_any v [a] 1 0 2 7 t2 0 0 0 0 0 0 200 240 458752 99 0 now w hv).mono ?_
  rintro e w' ⟨u, rfl, hu, hb⟩
  have e1 : setOn [a] (⟨1, 0, 2, 7, t2, 0, 0, 0, 0, 0, 0, 200, 240, 458752, 99, 0⟩ : Anim) now = [r] := hm
  have e2 : setErr [a] (⟨1, 0, 2, 7, t2, 0, 0, 0, 0, 0, 0, 200, 240, 458752, 99, 0⟩ : Anim) now = 0 := he
  rw [e1] at hu
  obtain ⟨aa, cap, rfl, h1, h2, h3⟩ := hu.open_
  obtain ⟨b, off, rfl, hlt, hc⟩ := h3 (by simp)
  have hc0 := hc 0 (by simp)
  rw [Nat.zero_mul, Nat.add_zero] at hc0
  exact ⟨b, off, cap, by rw [e2]; rfl, h1, h2, hc0, hb⟩

set_option maxHeartbeats 16000000 in
set_option maxRecDepth 100000 in
theorem intr_sp (v0 : Value) (xs : List Int) (n : Nat) (w : World) (h0 : InInts w v0 xs) (hn : n < 65536) : Calls Try.prog 9 #[v0, .int .u16 n, .bool false] w (True_ w) := by
  have HU := Lib.hid h0
  clear h0
  have hm6 : ((n : Int)).tmod 600 = ((n % 600 : Nat) : Int) := by rw [Int.tmod_eq_emod_of_nonneg (by omega)]; omega
  have hmb : (0 : Int) ≤ ((n % 600 : Nat) : Int) ∧ ((n % 600 : Nat) : Int) < 600 := by omega
  have hcn : IntKind.i64.wrap (n : Int) = (n : Int) := IntWalk.i64_in _ (by omega)
  obtain ⟨m, hm⟩ : ∃ m : Int, ((n % 600 : Nat) : Int) = m := ⟨_, rfl⟩
  rw [hm] at hm6 hmb
  have hcm : IntKind.i64.wrap m = m := IntWalk.i64_in _ (by omega)
  have HM6 := Lib.hid hm6
  have HMB := Lib.hid hmb
  have HCN := Lib.hid hcn
  have HCM := Lib.hid hcm
  clear hm6 hmb hcn hcm hm
  go_enter Try.func9, Try.ntmps9
  go_wp2_with fail
  refine (srcNew_any _ xs _ HU.out).mono ?_
  rintro e w1 ⟨g, rfl, hs, hg0, hg1, hb⟩
  have HG : Hid (w.heap.size ≤ g) := hg0
  have HS1 := Lib.hid hs
  have HB1 := Lib.hid hb
  clear hs hg0 hg1 hb HU
  go_wp2_with fail
  refine (srcRange_any g _ _ _ HS1.out (by omega) (by omega) (by omega)).mono ?_
  rintro e w2 ⟨f, f0, f1, rfl, hs, hg⟩
  have HS2 := Lib.hid hs
  have HB2 := Lib.hid (HB1.out.trans (grownBy_below hg HG.out HS1.out.lt))
  clear hs hg
  go_wp2_with fail
  refine (srcRange_any g _ _ _ HS2.out (by omega) (by omega) (by omega)).mono ?_
  rintro e w3 ⟨t, t0, t1, rfl, hs, hg⟩
  have HS3 := Lib.hid hs
  have HB3 := Lib.hid (HB2.out.trans (grownBy_below hg HG.out HS2.out.lt))
  clear hs hg
  go_wp2_with fail
  refine (lspring_any f t _ (by omega)).mono ?_
  rintro e w4 ⟨rfl, hb⟩
  have HS4 := Lib.hid (HS3.out.kept (hb.mono HS3.out.lt))
  have HB4 := Lib.hid (HB3.out.trans (hb.mono HB3.out.size))
  clear hb
  go_upto_if 23 with fail
  obtain ⟨b0, hh⟩ : ∃ b, w4.heap.size = b := ⟨_, rfl⟩
  have HGH : Hid (g < b0) := by show _ < _; rw [← hh]; exact HS4.out.lt
  have HA5 : Hid (AnimBlk (w4.alloc (.cells #[.int .i64 1, .int .i64 0, .int .i64 2, .int .i64 f, .int .i64 t, .int .i64 0, .int .i64 0, .int .i64 0, .int .i64 0, .int .i64 0, .int .i64 0, .int .i64 200, .int .i64 240, .int .i64 (65536 * f), .int .i64 0, .int .i64 0] 38)) b0 38 [.int .i64 1, .int .i64 0, .int .i64 2, .int .i64 f, .int .i64 t, .int .i64 0, .int .i64 0, .int .i64 0, .int .i64 0, .int .i64 0, .int .i64 0, .int .i64 200, .int .i64 240, .int .i64 (65536 * f), .int .i64 0, .int .i64 0]) := ⟨rfl, by rw [← hh]; exact heap_alloc_new w4 _⟩
  have HB5 : Hid (Below w.heap.size w (w4.alloc (.cells #[.int .i64 1, .int .i64 0, .int .i64 2, .int .i64 f, .int .i64 t, .int .i64 0, .int .i64 0, .int .i64 0, .int .i64 0, .int .i64 0, .int .i64 0, .int .i64 200, .int .i64 240, .int .i64 (65536 * f), .int .i64 0, .int .i64 0] 38))) := HB4.out.alloc HB4.out.size _
  have HS5 : Hid (SrcOk (w4.alloc (.cells #[.int .i64 1, .int .i64 0, .int .i64 2, .int .i64 f, .int .i64 t, .int .i64 0, .int .i64 0, .int .i64 0, .int .i64 0, .int .i64 0, .int .i64 0, .int .i64 200, .int .i64 240, .int .i64 (65536 * f), .int .i64 0, .int .i64 0] 38)) g) := HS4.out.kept ((Below.refl _ _).alloc (by have := HS4.out.lt; omega) _)
  have HWb : Hid (w.heap.size ≤ b0) := by show _ ≤ _; rw [← hh]; exact HB4.out.size
  rw [hh]
  obtain ⟨w5, hw5⟩ : ∃ w5, w4.alloc (.cells #[.int .i64 1, .int .i64 0, .int .i64 2, .int .i64 f, .int .i64 t, .int .i64 0, .int .i64 0, .int .i64 0, .int .i64 0, .int .i64 0, .int .i64 0, .int .i64 200, .int .i64 240, .int .i64 (65536 * f), .int .i64 0, .int .i64 0] 38) = w5 := ⟨_, rfl⟩
  rw [hw5] at HA5 HB5 HS5 ⊢
  clear hw5 hh HB4 HS4 HB3 HS3 HB2 HS2 HB1 HS1
  have HA6 := HA5
  have HB6 := HB5
  have HS6 := HS5
  obtain ⟨w6, rfl⟩ : ∃ x : World, x = w5 := ⟨_, rfl⟩
  clear HA5 HB5 HS5
  as_aux_lemma =>
    have hm6 := HM6.out
    have hcn := HCN.out
    have hcm := HCM.out
    go_wp2_with (refine halt_dst 33 ?_; intro G HGo)
    clear hm6 hcn hcm
    obtain ⟨Vv, hVv⟩ : ∃ V, (lawA f t 200 240 0).value m = V := ⟨_, rfl⟩
    have HVA := Lib.hid hVv
    clear hVv
    refine HGo.out ?_
    clear HGo
    go_wp2_with (first | (refine load_anim rfl _ rfl b0 rfl _ _ HA6.out ?_))
    refine (Value_any _ _ _ _ _ _ _ _ _ _ _ _ _ _ _ _ _ _).mono ?_
    rw [show (⟨1, 0, 2, f, t, 0, 0, 0, 0, 0, 0, 200, 240, (65536 * f), 0, 0⟩ : Anim).value m = Vv from HVA.out]
    rintro e w7 ⟨rfl, hb⟩
    have HA7 : Hid (AnimBlk w7 b0 38 [.int .i64 1, .int .i64 0, .int .i64 2, .int .i64 f, .int .i64 t, .int .i64 0, .int .i64 0, .int .i64 0, .int .i64 0, .int .i64 0, .int .i64 0, .int .i64 200, .int .i64 240, .int .i64 (65536 * f), .int .i64 0, .int .i64 0]) := HA6.out.kept hb HA6.out.lt
    have HB7 : Hid (Below w.heap.size w w7) := HB6.out.trans (hb.mono HB6.out.size)
    have HS7 : Hid (SrcOk w7 g) := HS6.out.kept (hb.mono HS6.out.lt)
    clear hb HA6 HB6 HS6
    go_wp2_with fail
    refine (srcRange_any g _ _ _ HS7.out (by omega) (by omega) (by omega)).mono ?_
    rintro e w8 ⟨t2, t20, t21, rfl, hs, hg⟩
    have HB8 : Hid (Below w.heap.size w w8) := HB7.out.trans (grownBy_below hg HG.out HS7.out.lt)
    have HA8 : Hid (AnimBlk w8 b0 38 [.int .i64 1, .int .i64 0, .int .i64 2, .int .i64 f, .int .i64 t, .int .i64 0, .int .i64 0, .int .i64 0, .int .i64 0, .int .i64 0, .int .i64 0, .int .i64 200, .int .i64 240, .int .i64 (65536 * f), .int .i64 0, .int .i64 0]) := ⟨rfl, (hg.block b0 HA7.out.lt (by have := HGH.out; simp; omega)).trans HA7.out.2⟩
    clear hs hg HA7 HB7 HS7
    go_wp2_with fail
    refine (lspring_any 7 t2 _ (by omega)).mono ?_
    rw [show (65536 * 7 : Int) = 458752 from rfl]
    rintro e w9 ⟨rfl, hb⟩
    have HA9 : Hid (AnimBlk w9 b0 38 [.int .i64 1, .int .i64 0, .int .i64 2, .int .i64 f, .int .i64 t, .int .i64 0, .int .i64 0, .int .i64 0, .int .i64 0, .int .i64 0, .int .i64 0, .int .i64 200, .int .i64 240, .int .i64 (65536 * f), .int .i64 0, .int .i64 0]) := HA8.out.kept hb HA8.out.lt
    have HB9 : Hid (Below w.heap.size w w9) := HB8.out.trans (hb.mono HB8.out.size)
    clear hb HA8 HB8
    go_wp2_with (refine halt_dst 41 ?_; intro G HGo)
    obtain ⟨b1, hh⟩ : ∃ b, w9.heap.size = b := ⟨_, rfl⟩
    have HN10 : Hid (AnimBlk (w9.alloc (.cells #[.int .i64 1, .int .i64 0, .int .i64 2, .int .i64 7, .int .i64 t2, .int .i64 0, .int .i64 0, .int .i64 0, .int .i64 0, .int .i64 0, .int .i64 0, .int .i64 200, .int .i64 240, .int .i64 458752, .int .i64 99, .int .i64 0] 38)) b1 38 [.int .i64 1, .int .i64 0, .int .i64 2, .int .i64 7, .int .i64 t2, .int .i64 0, .int .i64 0, .int .i64 0, .int .i64 0, .int .i64 0, .int .i64 0, .int .i64 200, .int .i64 240, .int .i64 458752, .int .i64 99, .int .i64 0]) := ⟨rfl, by rw [← hh]; exact heap_alloc_new w9 _⟩
    have HA10 : Hid (AnimBlk (w9.alloc (.cells #[.int .i64 1, .int .i64 0, .int .i64 2, .int .i64 7, .int .i64 t2, .int .i64 0, .int .i64 0, .int .i64 0, .int .i64 0, .int .i64 0, .int .i64 0, .int .i64 200, .int .i64 240, .int .i64 458752, .int .i64 99, .int .i64 0] 38)) b0 38 [.int .i64 1, .int .i64 0, .int .i64 2, .int .i64 f, .int .i64 t, .int .i64 0, .int .i64 0, .int .i64 0, .int .i64 0, .int .i64 0, .int .i64 0, .int .i64 200, .int .i64 240, .int .i64 (65536 * f), .int .i64 0, .int .i64 0]) := HA9.out.alloc _
    have HB10 : Hid (Below w.heap.size w (w9.alloc (.cells #[.int .i64 1, .int .i64 0, .int .i64 2, .int .i64 7, .int .i64 t2, .int .i64 0, .int .i64 0, .int .i64 0, .int .i64 0, .int .i64 0, .int .i64 0, .int .i64 200, .int .i64 240, .int .i64 458752, .int .i64 99, .int .i64 0] 38))) := HB9.out.alloc HB9.out.size _
    rw [hh] at HGo
    obtain ⟨w10, hw10⟩ : ∃ w10, w9.alloc (.cells #[.int .i64 1, .int .i64 0, .int .i64 2, .int .i64 7, .int .i64 t2, .int .i64 0, .int .i64 0, .int .i64 0, .int .i64 0, .int .i64 0, .int .i64 0, .int .i64 200, .int .i64 240, .int .i64 458752, .int .i64 99, .int .i64 0] 38) = w10 := ⟨_, rfl⟩
    refine HGo.out ?_
    clear HGo
    rw [hw10] at HN10 HA10 HB10 ⊢
    clear hw10 hh HA9 HB9
    refine lit_41 HA10.out ?_
    have HN11 : Hid (AnimBlk (w10.alloc (.cells #[.int .i64 1, .int .i64 0, .int .i64 2, .int .i64 f, .int .i64 t, .int .i64 0, .int .i64 0, .int .i64 0, .int .i64 0, .int .i64 0, .int .i64 0, .int .i64 200, .int .i64 240, .int .i64 (65536 * f), .int .i64 0, .int .i64 0] 38)) b1 38 [.int .i64 1, .int .i64 0, .int .i64 2, .int .i64 7, .int .i64 t2, .int .i64 0, .int .i64 0, .int .i64 0, .int .i64 0, .int .i64 0, .int .i64 0, .int .i64 200, .int .i64 240, .int .i64 458752, .int .i64 99, .int .i64 0]) := HN10.out.alloc _
    go_wp2_with (first | (refine load_anim rfl _ rfl b1 rfl _ _ HN11.out ?_))
    obtain ⟨V', X1, X2, hV', s1, s2, s3, s4⟩ := intr_spring (f := f) (t := t) (t2 := t2) (now := m) (by omega) (by omega) (by omega) HMB.out
    obtain rfl : V' = Vv := hV'.symm.trans HVA.out
    have HS4 := Lib.hid s4
    clear s4
    refine (set_one _ (lawA f t 200 240 0) (gotA V' t2 m X1 X2) t2 m _ (lit_anim (lawA f t 200 240 0) (heap_alloc_new _ _)) s1 s2).mono ?_
    rintro e wS ⟨bp, op, cp, rfl, cp1, cp2, hpo, hb⟩
    have HV3 := Lib.hid s3
    have hbS := ((Below.refl w10.heap.size w10).alloc (Nat.le_refl _) (.cells #[.int .i64 1, .int .i64 0, .int .i64 2, .int .i64 f, .int .i64 t, .int .i64 0, .int .i64 0, .int .i64 0, .int .i64 0, .int .i64 0, .int .i64 0, .int .i64 200, .int .i64 240, .int .i64 (65536 * f), .int .i64 0, .int .i64 0] 38)).trans (hb.mono (by simp))
    have HBS : Hid (Below w.heap.size w wS) := HB10.out.trans (hbS.mono HB10.out.size)
    have HAS : Hid (AnimBlk wS b0 38 [.int .i64 1, .int .i64 0, .int .i64 2, .int .i64 f, .int .i64 t, .int .i64 0, .int .i64 0, .int .i64 0, .int .i64 0, .int .i64 0, .int .i64 0, .int .i64 200, .int .i64 240, .int .i64 (65536 * f), .int .i64 0, .int .i64 0]) := HA10.out.kept hbS HA10.out.lt
    have HNS : Hid (AnimBlk wS b1 38 [.int .i64 1, .int .i64 0, .int .i64 2, .int .i64 7, .int .i64 t2, .int .i64 0, .int .i64 0, .int .i64 0, .int .i64 0, .int .i64 0, .int .i64 0, .int .i64 200, .int .i64 240, .int .i64 458752, .int .i64 99, .int .i64 0]) := HN10.out.kept hbS HN10.out.lt
    clear hb hbS hV' s1 s2 s3 HA10 HN10 HN11 HB10
    unfold maxLen at cp2
    obtain ⟨c0, c1, c2, c3, c4, c5, c6, c7, c8, c9, c10, c11, c12, c13, c14, c15⟩ := hpo
    unfold gotA at c0 c1 c2 c3 c4 c5 c6 c7 c8 c9 c10 c11 c12 c13 c14 c15
    simp only at c0 c1 c2 c3 c4 c5 c6 c7 c8 c9 c10 c11 c12 c13 c14 c15
    have n4 : wS.cell? ⟨b1, 4, none⟩ = some (.int .i64 t2) := (HNS.out.cell 4).trans rfl
    go_upto_region 10 with fail
    refine wp_region_T (S := (fun w' => w'.cell? ⟨bp, op, none⟩ = some (.int .i64 1) ∧ w'.cell? ⟨bp, op + 1, none⟩ = some (.int .i64 0) ∧ w'.cell? ⟨bp, op + 2, none⟩ = some (.int .i64 2) ∧ w'.cell? ⟨bp, op + 3, none⟩ = some (.int .i64 V') ∧ w'.cell? ⟨bp, op + 4, none⟩ = some (.int .i64 t2) ∧ w'.cell? ⟨bp, op + 5, none⟩ = some (.int .i64 m) ∧ w'.cell? ⟨bp, op + 6, none⟩ = some (.int .i64 0) ∧ w'.cell? ⟨bp, op + 7, none⟩ = some (.int .i64 0) ∧ w'.cell? ⟨bp, op + 8, none⟩ = some (.int .i64 0) ∧ w'.cell? ⟨bp, op + 9, none⟩ = some (.int .i64 0) ∧ w'.cell? ⟨bp, op + 10, none⟩ = some (.int .i64 0) ∧ w'.cell? ⟨bp, op + 11, none⟩ = some (.int .i64 200) ∧ w'.cell? ⟨bp, op + 12, none⟩ = some (.int .i64 240) ∧ w'.cell? ⟨bp, op + 13, none⟩ = some (.int .i64 X1) ∧ w'.cell? ⟨bp, op + 14, none⟩ = some (.int .i64 X2) ∧ w'.cell? ⟨bp, op + 15, none⟩ = some (.int .i64 m) ∧ w'.cell? ⟨b1, 4, none⟩ = some (.int .i64 t2) ∧ Below wS.heap.size wS w')) 32 (by kernel_rfl) (⟨c0, c1, c2, c3, c4, c5, c6, c7, c8, c9, c10, c11, c12, c13, c14, c15, n4, (Below.refl _ _).drew⟩) (fun hHeld => ?_)
    clear c0 c1 c2 c3 c4 c5 c6 c7 c8 c9 c10 c11 c12 c13 c14 c15 n4
    refine wpAnyT_take (i := 0) (v := ?_) rfl (by decide +kernel) (by decide +kernel) (by decide +kernel) (by decide +kernel) (by decide +kernel) (fun _ _ _ h => h) (Or.inl ⟨by rfl, ?_⟩) (by assumption) ?_
    rotate_left
    · intro w hSw; (try dsimp only at hSw); first | (go_simp; done) | (go_simp; with_reducible rfl)
    try simp only [Act.put, List.getElem_toArray, List.getElem_cons_succ, List.getElem_cons_zero, List.setIfInBounds_toArray, List.set_cons_zero, List.set_cons_succ]
    refine wpAnyT_take (i := 1) (v := ?_) rfl (by decide +kernel) (by decide +kernel) (by decide +kernel) (by decide +kernel) (by decide +kernel) (fun _ _ _ h => h) (Or.inl ⟨by rfl, ?_⟩) (by assumption) ?_
    rotate_left
    · intro w hSw; (try dsimp only at hSw); first | (go_simp; done) | (go_simp; with_reducible rfl)
    try simp only [Act.put, List.getElem_toArray, List.getElem_cons_succ, List.getElem_cons_zero, List.setIfInBounds_toArray, List.set_cons_zero, List.set_cons_succ]
    refine wpAnyT_take (i := 2) (v := ?_) rfl (by decide +kernel) (by decide +kernel) (by decide +kernel) (by decide +kernel) (by decide +kernel) (fun _ _ _ h => h) (Or.inl ⟨by rfl, ?_⟩) (by assumption) ?_
    rotate_left
    · intro w hSw; (try dsimp only at hSw); first | (go_simp; done) | (go_simp; with_reducible rfl)
    try simp only [Act.put, List.getElem_toArray, List.getElem_cons_succ, List.getElem_cons_zero, List.setIfInBounds_toArray, List.set_cons_zero, List.set_cons_succ]
    refine wpAnyT_take (i := 3) (v := ?_) rfl (by decide +kernel) (by decide +kernel) (by decide +kernel) (by decide +kernel) (by decide +kernel) (fun _ _ _ h => h) (Or.inl ⟨by rfl, ?_⟩) (by assumption) ?_
    rotate_left
    · intro w hSw; (try dsimp only at hSw); first | (go_simp; done) | (go_simp; with_reducible rfl)
    try simp only [Act.put, List.getElem_toArray, List.getElem_cons_succ, List.getElem_cons_zero, List.setIfInBounds_toArray, List.set_cons_zero, List.set_cons_succ]
    refine wpAnyT_take (i := 4) (v := ?_) rfl (by decide +kernel) (by decide +kernel) (by decide +kernel) (by decide +kernel) (by decide +kernel) (fun _ _ _ h => h) (Or.inl ⟨by rfl, ?_⟩) (by assumption) ?_
    rotate_left
    · intro w hSw; (try dsimp only at hSw); first | (go_simp; done) | (go_simp; with_reducible rfl)
    try simp only [Act.put, List.getElem_toArray, List.getElem_cons_succ, List.getElem_cons_zero, List.setIfInBounds_toArray, List.set_cons_zero, List.set_cons_succ]
    refine wpAnyT_take (i := 5) (v := ?_) rfl (by decide +kernel) (by decide +kernel) (by decide +kernel) (by decide +kernel) (by decide +kernel) (fun _ _ _ h => h) (Or.inl ⟨by rfl, ?_⟩) (by assumption) ?_
    rotate_left
    · intro w hSw; (try dsimp only at hSw); first | (go_simp; done) | (go_simp; with_reducible rfl)
    try simp only [Act.put, List.getElem_toArray, List.getElem_cons_succ, List.getElem_cons_zero, List.setIfInBounds_toArray, List.set_cons_zero, List.set_cons_succ]
    refine wpAnyT_take (i := 6) (v := ?_) rfl (by decide +kernel) (by decide +kernel) (by decide +kernel) (by decide +kernel) (by decide +kernel) (fun _ _ _ h => h) (Or.inl ⟨by rfl, ?_⟩) (by assumption) ?_
    rotate_left
    · intro w hSw; (try dsimp only at hSw); first | (go_simp; done) | (go_simp; with_reducible rfl)
    try simp only [Act.put, List.getElem_toArray, List.getElem_cons_succ, List.getElem_cons_zero, List.setIfInBounds_toArray, List.set_cons_zero, List.set_cons_succ]
    refine wpAnyT_take (i := 7) (v := ?_) rfl (by decide +kernel) (by decide +kernel) (by decide +kernel) (by decide +kernel) (by decide +kernel) (fun _ _ _ h => h) (Or.inl ⟨by rfl, ?_⟩) (by assumption) ?_
    rotate_left
    · intro w hSw; (try dsimp only at hSw); first | (go_simp; done) | (go_simp; with_reducible rfl)
    try simp only [Act.put, List.getElem_toArray, List.getElem_cons_succ, List.getElem_cons_zero, List.setIfInBounds_toArray, List.set_cons_zero, List.set_cons_succ]
    refine wpAnyT_take (i := 8) (v := ?_) rfl (by decide +kernel) (by decide +kernel) (by decide +kernel) (by decide +kernel) (by decide +kernel) (fun _ _ _ h => h) (Or.inl ⟨by rfl, ?_⟩) (by assumption) ?_
    rotate_left
    · intro w hSw; (try dsimp only at hSw); first | (go_simp; done) | (go_simp; with_reducible rfl)
    try simp only [Act.put, List.getElem_toArray, List.getElem_cons_succ, List.getElem_cons_zero, List.setIfInBounds_toArray, List.set_cons_zero, List.set_cons_succ]
    refine wpAnyT_take (i := 9) (v := ?_) rfl (by decide +kernel) (by decide +kernel) (by decide +kernel) (by decide +kernel) (by decide +kernel) (fun _ _ _ h => h) (Or.inl ⟨by rfl, ?_⟩) (by assumption) ?_
    rotate_left
    · intro w hSw; (try dsimp only at hSw); first | (go_simp; done) | (go_simp; with_reducible rfl)
    try simp only [Act.put, List.getElem_toArray, List.getElem_cons_succ, List.getElem_cons_zero, List.setIfInBounds_toArray, List.set_cons_zero, List.set_cons_succ]
    refine wpAnyT_take (i := 10) (v := ?_) rfl (by decide +kernel) (by decide +kernel) (by decide +kernel) (by decide +kernel) (by decide +kernel) (fun _ _ _ h => h) (Or.inl ⟨by rfl, ?_⟩) (by assumption) ?_
    rotate_left
    · intro w hSw; (try dsimp only at hSw); first | (go_simp; done) | (go_simp; with_reducible rfl)
    try simp only [Act.put, List.getElem_toArray, List.getElem_cons_succ, List.getElem_cons_zero, List.setIfInBounds_toArray, List.set_cons_zero, List.set_cons_succ]
    refine wpAnyT_take (i := 11) (v := ?_) rfl (by decide +kernel) (by decide +kernel) (by decide +kernel) (by decide +kernel) (by decide +kernel) (fun _ _ _ h => h) (Or.inl ⟨by rfl, ?_⟩) (by assumption) ?_
    rotate_left
    · intro w hSw; (try dsimp only at hSw); first | (go_simp; done) | (go_simp; with_reducible rfl)
    try simp only [Act.put, List.getElem_toArray, List.getElem_cons_succ, List.getElem_cons_zero, List.setIfInBounds_toArray, List.set_cons_zero, List.set_cons_succ]
    refine wpAnyT_take (i := 13) (v := ?_) rfl (by decide +kernel) (by decide +kernel) (by decide +kernel) (by decide +kernel) (by decide +kernel) (fun _ _ _ h => h) (Or.inl ⟨by rfl, ?_⟩) (by assumption) ?_
    rotate_left
    · intro w hSw; (try dsimp only at hSw); first | (go_simp; done) | (go_simp; with_reducible rfl)
    try simp only [Act.put, List.getElem_toArray, List.getElem_cons_succ, List.getElem_cons_zero, List.setIfInBounds_toArray, List.set_cons_zero, List.set_cons_succ]
    refine wpAnyT_one (i := 12) (by kernel_rfl) rfl (fun K hK => ?_)
    go_simp
    (refine (Value_any _ _ _ _ _ _ _ _ _ _ _ _ _ _ _ _ _ _).mono ?_; rw [show (⟨1, 0, 2, V', t2, m, 0, 0, 0, 0, 0, 200, 240, X1, X2, m⟩ : Anim).value m = V' from HV3.out]; rintro e wT ⟨rfl, hb'⟩)
    refine hK.out _ _ ?_ (fun hHeld2 => ?_)
    · (try dsimp only); exact ⟨(hb'.cell (p := ⟨bp, op, none⟩) (World.block_lt_of_cell? _ _ hHeld.1)).trans hHeld.1, (hb'.cell (p := ⟨bp, op + 1, none⟩) (World.block_lt_of_cell? _ _ hHeld.2.1)).trans hHeld.2.1, (hb'.cell (p := ⟨bp, op + 2, none⟩) (World.block_lt_of_cell? _ _ hHeld.2.2.1)).trans hHeld.2.2.1, (hb'.cell (p := ⟨bp, op + 3, none⟩) (World.block_lt_of_cell? _ _ hHeld.2.2.2.1)).trans hHeld.2.2.2.1, (hb'.cell (p := ⟨bp, op + 4, none⟩) (World.block_lt_of_cell? _ _ hHeld.2.2.2.2.1)).trans hHeld.2.2.2.2.1, (hb'.cell (p := ⟨bp, op + 5, none⟩) (World.block_lt_of_cell? _ _ hHeld.2.2.2.2.2.1)).trans hHeld.2.2.2.2.2.1, (hb'.cell (p := ⟨bp, op + 6, none⟩) (World.block_lt_of_cell? _ _ hHeld.2.2.2.2.2.2.1)).trans hHeld.2.2.2.2.2.2.1, (hb'.cell (p := ⟨bp, op + 7, none⟩) (World.block_lt_of_cell? _ _ hHeld.2.2.2.2.2.2.2.1)).trans hHeld.2.2.2.2.2.2.2.1, (hb'.cell (p := ⟨bp, op + 8, none⟩) (World.block_lt_of_cell? _ _ hHeld.2.2.2.2.2.2.2.2.1)).trans hHeld.2.2.2.2.2.2.2.2.1, (hb'.cell (p := ⟨bp, op + 9, none⟩) (World.block_lt_of_cell? _ _ hHeld.2.2.2.2.2.2.2.2.2.1)).trans hHeld.2.2.2.2.2.2.2.2.2.1, (hb'.cell (p := ⟨bp, op + 10, none⟩) (World.block_lt_of_cell? _ _ hHeld.2.2.2.2.2.2.2.2.2.2.1)).trans hHeld.2.2.2.2.2.2.2.2.2.2.1, (hb'.cell (p := ⟨bp, op + 11, none⟩) (World.block_lt_of_cell? _ _ hHeld.2.2.2.2.2.2.2.2.2.2.2.1)).trans hHeld.2.2.2.2.2.2.2.2.2.2.2.1, (hb'.cell (p := ⟨bp, op + 12, none⟩) (World.block_lt_of_cell? _ _ hHeld.2.2.2.2.2.2.2.2.2.2.2.2.1)).trans hHeld.2.2.2.2.2.2.2.2.2.2.2.2.1, (hb'.cell (p := ⟨bp, op + 13, none⟩) (World.block_lt_of_cell? _ _ hHeld.2.2.2.2.2.2.2.2.2.2.2.2.2.1)).trans hHeld.2.2.2.2.2.2.2.2.2.2.2.2.2.1, (hb'.cell (p := ⟨bp, op + 14, none⟩) (World.block_lt_of_cell? _ _ hHeld.2.2.2.2.2.2.2.2.2.2.2.2.2.2.1)).trans hHeld.2.2.2.2.2.2.2.2.2.2.2.2.2.2.1, (hb'.cell (p := ⟨bp, op + 15, none⟩) (World.block_lt_of_cell? _ _ hHeld.2.2.2.2.2.2.2.2.2.2.2.2.2.2.2.1)).trans hHeld.2.2.2.2.2.2.2.2.2.2.2.2.2.2.2.1, (hb'.cell (p := ⟨b1, 4, none⟩) (World.block_lt_of_cell? _ _ hHeld.2.2.2.2.2.2.2.2.2.2.2.2.2.2.2.2.1)).trans hHeld.2.2.2.2.2.2.2.2.2.2.2.2.2.2.2.2.1, hHeld.2.2.2.2.2.2.2.2.2.2.2.2.2.2.2.2.2.trans (hb'.mono hHeld.2.2.2.2.2.2.2.2.2.2.2.2.2.2.2.2.2.size)⟩
    clear hK K hHeld
    have hHeld := hHeld2
    clear hHeld2
    try simp only [Act.put, List.getElem_toArray, List.getElem_cons_succ, List.getElem_cons_zero, List.setIfInBounds_toArray, List.set_cons_zero, List.set_cons_succ]
    clear hb'
    refine wpAnyT_take (i := 14) (v := ?_) rfl (by decide +kernel) (by decide +kernel) (by decide +kernel) (by decide +kernel) (by decide +kernel) (fun _ _ _ h => h) (Or.inl ⟨by rfl, ?_⟩) (by assumption) ?_
    rotate_left
    · intro w hSw; (try dsimp only at hSw); first | (go_simp; done) | (go_simp; with_reducible rfl)
    try simp only [Act.put, List.getElem_toArray, List.getElem_cons_succ, List.getElem_cons_zero, List.setIfInBounds_toArray, List.set_cons_zero, List.set_cons_succ]
    refine wpAnyT_take (i := 15) (v := ?_) rfl (by decide +kernel) (by decide +kernel) (by decide +kernel) (by decide +kernel) (by decide +kernel) (fun _ _ _ h => h) (Or.inl ⟨by rfl, ?_⟩) (by assumption) ?_
    rotate_left
    · intro w hSw; (try dsimp only at hSw); first | (go_simp; done) | (go_simp; with_reducible rfl)
    try simp only [Act.put, List.getElem_toArray, List.getElem_cons_succ, List.getElem_cons_zero, List.setIfInBounds_toArray, List.set_cons_zero, List.set_cons_succ]
    refine wpAnyT_take (i := 16) (v := ?_) rfl (by decide +kernel) (by decide +kernel) (by decide +kernel) (by decide +kernel) (by decide +kernel) (fun _ _ _ h => h) (Or.inl ⟨by rfl, ?_⟩) (by assumption) ?_
    rotate_left
    · intro w hSw; (try dsimp only at hSw); first | (go_simp; done) | (go_simp; with_reducible rfl)
    try simp only [Act.put, List.getElem_toArray, List.getElem_cons_succ, List.getElem_cons_zero, List.setIfInBounds_toArray, List.set_cons_zero, List.set_cons_succ]
    refine wpAnyT_take (i := 17) (v := ?_) rfl (by decide +kernel) (by decide +kernel) (by decide +kernel) (by decide +kernel) (by decide +kernel) (fun _ _ _ h => h) (Or.inl ⟨by rfl, ?_⟩) (by assumption) ?_
    rotate_left
    · intro w hSw; (try dsimp only at hSw); first | (go_simp; done) | (go_simp; with_reducible rfl)
    try simp only [Act.put, List.getElem_toArray, List.getElem_cons_succ, List.getElem_cons_zero, List.setIfInBounds_toArray, List.set_cons_zero, List.set_cons_succ]
    refine wpAnyT_take (i := 18) (v := ?_) rfl (by decide +kernel) (by decide +kernel) (by decide +kernel) (by decide +kernel) (by decide +kernel) (fun _ _ _ h => h) (Or.inl ⟨by rfl, ?_⟩) (by assumption) ?_
    rotate_left
    · intro w hSw; (try dsimp only at hSw); first | (go_simp; done) | (go_simp; with_reducible rfl)
    try simp only [Act.put, List.getElem_toArray, List.getElem_cons_succ, List.getElem_cons_zero, List.setIfInBounds_toArray, List.set_cons_zero, List.set_cons_succ]
    refine wpAnyT_take (i := 19) (v := ?_) rfl (by decide +kernel) (by decide +kernel) (by decide +kernel) (by decide +kernel) (by decide +kernel) (fun _ _ _ h => h) (Or.inl ⟨by rfl, ?_⟩) (by assumption) ?_
    rotate_left
    · intro w hSw; (try dsimp only at hSw); first | (go_simp; done) | (go_simp; with_reducible rfl)
    try simp only [Act.put, List.getElem_toArray, List.getElem_cons_succ, List.getElem_cons_zero, List.setIfInBounds_toArray, List.set_cons_zero, List.set_cons_succ]
    refine wpAnyT_take (i := 20) (v := ?_) rfl (by decide +kernel) (by decide +kernel) (by decide +kernel) (by decide +kernel) (by decide +kernel) (fun _ _ _ h => h) (Or.inl ⟨by rfl, ?_⟩) (by assumption) ?_
    rotate_left
    · intro w hSw; (try dsimp only at hSw); first | (go_simp; done) | (go_simp; with_reducible rfl)
    try simp only [Act.put, List.getElem_toArray, List.getElem_cons_succ, List.getElem_cons_zero, List.setIfInBounds_toArray, List.set_cons_zero, List.set_cons_succ]
    refine wpAnyT_take (i := 21) (v := ?_) rfl (by decide +kernel) (by decide +kernel) (by decide +kernel) (by decide +kernel) (by decide +kernel) (fun _ _ _ h => h) (Or.inl ⟨by rfl, ?_⟩) (by assumption) ?_
    rotate_left
    · intro w hSw; (try dsimp only at hSw); first | (go_simp; done) | (go_simp; with_reducible rfl)
    try simp only [Act.put, List.getElem_toArray, List.getElem_cons_succ, List.getElem_cons_zero, List.setIfInBounds_toArray, List.set_cons_zero, List.set_cons_succ]
    refine wpAnyT_take (i := 22) (v := ?_) rfl (by decide +kernel) (by decide +kernel) (by decide +kernel) (by decide +kernel) (by decide +kernel) (fun _ _ _ h => h) (Or.inl ⟨by rfl, ?_⟩) (by assumption) ?_
    rotate_left
    · intro w hSw; (try dsimp only at hSw); first | (go_simp; done) | (go_simp; with_reducible rfl)
    try simp only [Act.put, List.getElem_toArray, List.getElem_cons_succ, List.getElem_cons_zero, List.setIfInBounds_toArray, List.set_cons_zero, List.set_cons_succ]
    refine wpAnyT_take (i := 23) (v := ?_) rfl (by decide +kernel) (by decide +kernel) (by decide +kernel) (by decide +kernel) (by decide +kernel) (fun _ _ _ h => h) (Or.inl ⟨by rfl, ?_⟩) (by assumption) ?_
    rotate_left
    · intro w hSw; (try dsimp only at hSw); first | (go_simp; done) | (go_simp; with_reducible rfl)
    try simp only [Act.put, List.getElem_toArray, List.getElem_cons_succ, List.getElem_cons_zero, List.setIfInBounds_toArray, List.set_cons_zero, List.set_cons_succ]
    refine wpAnyT_take (i := 24) (v := ?_) rfl (by decide +kernel) (by decide +kernel) (by decide +kernel) (by decide +kernel) (by decide +kernel) (fun _ _ _ h => h) (Or.inl ⟨by rfl, ?_⟩) (by assumption) ?_
    rotate_left
    · intro w hSw; (try dsimp only at hSw); first | (go_simp; done) | (go_simp; with_reducible rfl)
    try simp only [Act.put, List.getElem_toArray, List.getElem_cons_succ, List.getElem_cons_zero, List.setIfInBounds_toArray, List.set_cons_zero, List.set_cons_succ]
    refine wpAnyT_take (i := 25) (v := ?_) rfl (by decide +kernel) (by decide +kernel) (by decide +kernel) (by decide +kernel) (by decide +kernel) (fun _ _ _ h => h) (Or.inl ⟨by rfl, ?_⟩) (by assumption) ?_
    rotate_left
    · intro w hSw; (try dsimp only at hSw); first | (go_simp; done) | (go_simp; with_reducible rfl)
    try simp only [Act.put, List.getElem_toArray, List.getElem_cons_succ, List.getElem_cons_zero, List.setIfInBounds_toArray, List.set_cons_zero, List.set_cons_succ]
    refine wpAnyT_take (i := 26) (v := ?_) rfl (by decide +kernel) (by decide +kernel) (by decide +kernel) (by decide +kernel) (by decide +kernel) (fun _ _ _ h => h) (Or.inl ⟨by rfl, ?_⟩) (by assumption) ?_
    rotate_left
    · intro w hSw; (try dsimp only at hSw); first | (go_simp; done) | (go_simp; with_reducible rfl)
    try simp only [Act.put, List.getElem_toArray, List.getElem_cons_succ, List.getElem_cons_zero, List.setIfInBounds_toArray, List.set_cons_zero, List.set_cons_succ]
    refine wpAnyT_take (i := 27) (v := ?_) rfl (by decide +kernel) (by decide +kernel) (by decide +kernel) (by decide +kernel) (by decide +kernel) (fun _ _ _ h => h) (Or.inl ⟨by rfl, ?_⟩) (by assumption) ?_
    rotate_left
    · intro w hSw; (try dsimp only at hSw); first | (go_simp; done) | (go_simp; with_reducible rfl)
    try simp only [Act.put, List.getElem_toArray, List.getElem_cons_succ, List.getElem_cons_zero, List.setIfInBounds_toArray, List.set_cons_zero, List.set_cons_succ]
    refine wpAnyT_take (i := 28) (v := ?_) rfl (by decide +kernel) (by decide +kernel) (by decide +kernel) (by decide +kernel) (by decide +kernel) (fun _ _ _ h => h) (Or.inl ⟨by rfl, ?_⟩) (by assumption) ?_
    rotate_left
    · intro w hSw; (try dsimp only at hSw); first | (go_simp; done) | (go_simp; with_reducible rfl)
    try simp only [Act.put, List.getElem_toArray, List.getElem_cons_succ, List.getElem_cons_zero, List.setIfInBounds_toArray, List.set_cons_zero, List.set_cons_succ]
    refine wpAnyT_take (i := 29) (v := ?_) rfl (by decide +kernel) (by decide +kernel) (by decide +kernel) (by decide +kernel) (by decide +kernel) (fun _ _ _ h => h) (Or.inl ⟨by rfl, ?_⟩) (by assumption) ?_
    rotate_left
    · intro w hSw; (try dsimp only at hSw); first | (go_simp; done) | (go_simp; with_reducible rfl)
    try simp only [Act.put, List.getElem_toArray, List.getElem_cons_succ, List.getElem_cons_zero, List.setIfInBounds_toArray, List.set_cons_zero, List.set_cons_succ]
    refine wpAnyT_take (i := 30) (v := ?_) rfl (by decide +kernel) (by decide +kernel) (by decide +kernel) (by decide +kernel) (by decide +kernel) (fun _ _ _ h => h) (Or.inl ⟨by rfl, ?_⟩) (by assumption) ?_
    rotate_left
    · intro w hSw; (try dsimp only at hSw); first | (go_simp; done) | (go_simp; with_reducible rfl)
    try simp only [Act.put, List.getElem_toArray, List.getElem_cons_succ, List.getElem_cons_zero, List.setIfInBounds_toArray, List.set_cons_zero, List.set_cons_succ]
    refine wpAnyT_take (i := 31) (v := ?_) rfl (by decide +kernel) (by decide +kernel) (by decide +kernel) (by decide +kernel) (by decide +kernel) (fun _ _ _ h => h) (Or.inl ⟨by rfl, ?_⟩) (by assumption) ?_
    rotate_left
    · intro w hSw; (try dsimp only at hSw); first | (go_simp; done) | (go_simp; with_reducible rfl)
    try simp only [Act.put, List.getElem_toArray, List.getElem_cons_succ, List.getElem_cons_zero, List.setIfInBounds_toArray, List.set_cons_zero, List.set_cons_succ]
    have HT := Lib.hid hHeld
    refine wpAnyT_last (i := 32) (by kernel_rfl) (by kernel_rfl) rfl (by kernel_rfl) (fun K hK => ?_)
    go_simp
    refine hK.out _ _ ?_
    clear hK K
    try simp only [Act.put, List.getElem_toArray, List.getElem_cons_succ, List.getElem_cons_zero, List.setIfInBounds_toArray, List.set_cons_zero, List.set_cons_succ]
    have HBT : Hid (Below wS.heap.size wS wT) := HT.out.2.2.2.2.2.2.2.2.2.2.2.2.2.2.2.2.2
    have HBW : Hid (Below w.heap.size w wT) := HBS.out.trans (HBT.out.mono HBS.out.size)
    have HAT : Hid (AnimBlk wT b0 38 [.int .i64 1, .int .i64 0, .int .i64 2, .int .i64 f, .int .i64 t, .int .i64 0, .int .i64 0, .int .i64 0, .int .i64 0, .int .i64 0, .int .i64 0, .int .i64 200, .int .i64 240, .int .i64 (65536 * f), .int .i64 0, .int .i64 0]) := HAS.out.kept HBT.out HAS.out.lt
    clear hHeld
    have d13 : wT.cell? ⟨bp, op + 13, none⟩ = some (.int .i64 X1) := HT.out.2.2.2.2.2.2.2.2.2.2.2.2.2.1
    have d14 : wT.cell? ⟨bp, op + 14, none⟩ = some (.int .i64 X2) := HT.out.2.2.2.2.2.2.2.2.2.2.2.2.2.2.1
    have a4 : wT.cell? ⟨b0, 4, none⟩ = some (.int .i64 t) := (HAT.out.cell 4).trans rfl
    have a11 : wT.cell? ⟨b0, 11, none⟩ = some (.int .i64 200) := (HAT.out.cell 11).trans rfl
    have a12 : wT.cell? ⟨b0, 12, none⟩ = some (.int .i64 240) := (HAT.out.cell 12).trans rfl
    have a13 : wT.cell? ⟨b0, 13, none⟩ = some (.int .i64 (65536 * f)) := (HAT.out.cell 13).trans rfl
    go_wp2_with (first | (go_at_call 19; refine (Spring_any _ _ _ _ _ _ _).mono ?_; rw [HS4.out]; rintro e w19 ⟨rfl, rfl⟩) | (go_at_call 18; refine (awake_any _).mono ?_; rintro e w20 ⟨rfl, hb20⟩))
    go_ret
    exact ⟨rfl, HBW.out.trans (hb20.mono HBW.out.size)⟩

set_option maxHeartbeats 16000000 in
set_option maxRecDepth 100000 in
theorem intr_cu (v0 : Value) (xs : List Int) (n : Nat) (w : World) (h0 : InInts w v0 xs) (hn : n < 65536) : Calls Try.prog 9 #[v0, .int .u16 n, .bool true] w (True_ w) := by
  have HU := Lib.hid h0
  clear h0
  have hm6 : ((n : Int)).tmod 600 = ((n % 600 : Nat) : Int) := by rw [Int.tmod_eq_emod_of_nonneg (by omega)]; omega
  have hmb : (0 : Int) ≤ ((n % 600 : Nat) : Int) ∧ ((n % 600 : Nat) : Int) < 600 := by omega
  have hcn : IntKind.i64.wrap (n : Int) = (n : Int) := IntWalk.i64_in _ (by omega)
  obtain ⟨m, hm⟩ : ∃ m : Int, ((n % 600 : Nat) : Int) = m := ⟨_, rfl⟩
  rw [hm] at hm6 hmb
  have hcm : IntKind.i64.wrap m = m := IntWalk.i64_in _ (by omega)
  have HM6 := Lib.hid hm6
  have HMB := Lib.hid hmb
  have HCN := Lib.hid hcn
  have HCM := Lib.hid hcm
  clear hm6 hmb hcn hcm hm
  go_enter Try.func9, Try.ntmps9
  go_wp2_with fail
  refine (srcNew_any _ xs _ HU.out).mono ?_
  rintro e w1 ⟨g, rfl, hs, hg0, hg1, hb⟩
  have HG : Hid (w.heap.size ≤ g) := hg0
  have HS1 := Lib.hid hs
  have HB1 := Lib.hid hb
  clear hs hg0 hg1 hb HU
  go_wp2_with fail
  refine (srcRange_any g _ _ _ HS1.out (by omega) (by omega) (by omega)).mono ?_
  rintro e w2 ⟨f, f0, f1, rfl, hs, hg⟩
  have HS2 := Lib.hid hs
  have HB2 := Lib.hid (HB1.out.trans (grownBy_below hg HG.out HS1.out.lt))
  clear hs hg
  go_wp2_with fail
  refine (srcRange_any g _ _ _ HS2.out (by omega) (by omega) (by omega)).mono ?_
  rintro e w3 ⟨t, t0, t1, rfl, hs, hg⟩
  have HS3 := Lib.hid hs
  have HB3 := Lib.hid (HB2.out.trans (grownBy_below hg HG.out HS2.out.lt))
  clear hs hg
  go_wp2_with fail
  refine (lspring_any f t _ (by omega)).mono ?_
  rintro e w4 ⟨rfl, hb⟩
  have HS4 := Lib.hid (HS3.out.kept (hb.mono HS3.out.lt))
  have HB4 := Lib.hid (HB3.out.trans (hb.mono HB3.out.size))
  clear hb
  go_upto_if 23 with fail
  obtain ⟨b0, hh⟩ : ∃ b, w4.heap.size = b := ⟨_, rfl⟩
  have HGH : Hid (g < b0) := by show _ < _; rw [← hh]; exact HS4.out.lt
  have HA5 : Hid (AnimBlk (w4.alloc (.cells #[.int .i64 1, .int .i64 0, .int .i64 2, .int .i64 f, .int .i64 t, .int .i64 0, .int .i64 0, .int .i64 0, .int .i64 0, .int .i64 0, .int .i64 0, .int .i64 200, .int .i64 240, .int .i64 (65536 * f), .int .i64 0, .int .i64 0] 38)) b0 38 [.int .i64 1, .int .i64 0, .int .i64 2, .int .i64 f, .int .i64 t, .int .i64 0, .int .i64 0, .int .i64 0, .int .i64 0, .int .i64 0, .int .i64 0, .int .i64 200, .int .i64 240, .int .i64 (65536 * f), .int .i64 0, .int .i64 0]) := ⟨rfl, by rw [← hh]; exact heap_alloc_new w4 _⟩
  have HB5 : Hid (Below w.heap.size w (w4.alloc (.cells #[.int .i64 1, .int .i64 0, .int .i64 2, .int .i64 f, .int .i64 t, .int .i64 0, .int .i64 0, .int .i64 0, .int .i64 0, .int .i64 0, .int .i64 0, .int .i64 200, .int .i64 240, .int .i64 (65536 * f), .int .i64 0, .int .i64 0] 38))) := HB4.out.alloc HB4.out.size _
  have HS5 : Hid (SrcOk (w4.alloc (.cells #[.int .i64 1, .int .i64 0, .int .i64 2, .int .i64 f, .int .i64 t, .int .i64 0, .int .i64 0, .int .i64 0, .int .i64 0, .int .i64 0, .int .i64 0, .int .i64 200, .int .i64 240, .int .i64 (65536 * f), .int .i64 0, .int .i64 0] 38)) g) := HS4.out.kept ((Below.refl _ _).alloc (by have := HS4.out.lt; omega) _)
  have HWb : Hid (w.heap.size ≤ b0) := by show _ ≤ _; rw [← hh]; exact HB4.out.size
  rw [hh]
  obtain ⟨w5, hw5⟩ : ∃ w5, w4.alloc (.cells #[.int .i64 1, .int .i64 0, .int .i64 2, .int .i64 f, .int .i64 t, .int .i64 0, .int .i64 0, .int .i64 0, .int .i64 0, .int .i64 0, .int .i64 0, .int .i64 200, .int .i64 240, .int .i64 (65536 * f), .int .i64 0, .int .i64 0] 38) = w5 := ⟨_, rfl⟩
  rw [hw5] at HA5 HB5 HS5 ⊢
  clear hw5 hh HB4 HS4 HB3 HS3 HB2 HS2 HB1 HS1
  go_upto_region 4 with fail
  go_cut [] (fun wx => AnimBlk wx b0 38 [.int .i64 1, .int .i64 0, .int .i64 1, .int .i64 f, .int .i64 t, .int .i64 0, .int .i64 300, .int .i64 333, .int .i64 333, .int .i64 667, .int .i64 667, .int .i64 0, .int .i64 0, .int .i64 0, .int .i64 0, .int .i64 0] ∧ Below w.heap.size w wx ∧ SrcOk wx g)
  case first =>
    as_aux_lemma =>
      have c3 : w5.cell? ⟨b0, 3, none⟩ = some (.int .i64 f) := (HA5.out.cell 3).trans rfl
      have c4 : w5.cell? ⟨b0, 4, none⟩ = some (.int .i64 t) := (HA5.out.cell 4).trans rfl
      have hblt := HA5.out.lt
      refine wp_region_T (S := (fun w' => w'.cell? ⟨b0, 3, none⟩ = some (.int .i64 f) ∧ w'.cell? ⟨b0, 4, none⟩ = some (.int .i64 t) ∧ Below w5.heap.size w5 w')) 6 (by kernel_rfl) (⟨c3, c4, (Below.refl _ _).drew⟩) (fun hHeld => ?_)
      clear c3 c4
      refine wpAnyT_take (i := 0) (v := ?_) rfl (by decide +kernel) (by decide +kernel) (by decide +kernel) (by decide +kernel) (by decide +kernel) (fun _ _ _ h => h) (Or.inl ⟨by rfl, ?_⟩) (by assumption) ?_
      rotate_left
      · intro w hSw; (try dsimp only at hSw); first | (go_simp; done) | (go_simp; with_reducible rfl)
      try simp only [Act.put, List.getElem_toArray, List.getElem_cons_succ, List.getElem_cons_zero, List.setIfInBounds_toArray, List.set_cons_zero, List.set_cons_succ]
      refine wpAnyT_take (i := 1) (v := ?_) rfl (by decide +kernel) (by decide +kernel) (by decide +kernel) (by decide +kernel) (by decide +kernel) (fun _ _ _ h => h) (Or.inl ⟨by rfl, ?_⟩) (by assumption) ?_
      rotate_left
      · intro w hSw; (try dsimp only at hSw); first | (go_simp; done) | (go_simp; with_reducible rfl)
      try simp only [Act.put, List.getElem_toArray, List.getElem_cons_succ, List.getElem_cons_zero, List.setIfInBounds_toArray, List.set_cons_zero, List.set_cons_succ]
      refine wpAnyT_take (i := 2) (v := ?_) rfl (by decide +kernel) (by decide +kernel) (by decide +kernel) (by decide +kernel) (by decide +kernel) (fun _ _ _ h => h) (Or.inl ⟨by rfl, ?_⟩) (by assumption) ?_
      rotate_left
      · intro w hSw; (try dsimp only at hSw); first | (go_simp; done) | (go_simp; with_reducible rfl)
      try simp only [Act.put, List.getElem_toArray, List.getElem_cons_succ, List.getElem_cons_zero, List.setIfInBounds_toArray, List.set_cons_zero, List.set_cons_succ]
      refine wpAnyT_take (i := 3) (v := ?_) rfl (by decide +kernel) (by decide +kernel) (by decide +kernel) (by decide +kernel) (by decide +kernel) (fun _ _ _ h => h) (Or.inl ⟨by rfl, ?_⟩) (by assumption) ?_
      rotate_left
      · intro w hSw; (try dsimp only at hSw); first | (go_simp; done) | (go_simp; with_reducible rfl)
      try simp only [Act.put, List.getElem_toArray, List.getElem_cons_succ, List.getElem_cons_zero, List.setIfInBounds_toArray, List.set_cons_zero, List.set_cons_succ]
      refine wpAnyT_one (i := 4) (by kernel_rfl) rfl (fun K hK => ?_)
      go_simp
      (refine (line_any _).mono ?_; rintro e w' ⟨rfl, hb'⟩)
      refine hK.out _ _ ?_ (fun hHeld2 => ?_)
      · (try dsimp only); exact ⟨(hb'.cell (p := ⟨b0, 3, none⟩) (World.block_lt_of_cell? _ _ hHeld.1)).trans hHeld.1, (hb'.cell (p := ⟨b0, 4, none⟩) (World.block_lt_of_cell? _ _ hHeld.2.1)).trans hHeld.2.1, hHeld.2.2.trans (hb'.mono hHeld.2.2.size)⟩
      clear hK K hHeld
      have hHeld := hHeld2
      clear hHeld2
      try simp only [Act.put, List.getElem_toArray, List.getElem_cons_succ, List.getElem_cons_zero, List.setIfInBounds_toArray, List.set_cons_zero, List.set_cons_succ]
      refine wpAnyT_take (i := 5) (v := .agg #[.int .i64 1, .int .i64 0, .int .i64 1, .int .i64 f, .int .i64 t, .int .i64 0, .int .i64 300, .int .i64 333, .int .i64 333, .int .i64 667, .int .i64 667, .int .i64 0, .int .i64 0, .int .i64 0, .int .i64 0, .int .i64 0]) rfl (by decide +kernel) (by decide +kernel) (by decide +kernel) (by decide +kernel) (by decide +kernel) (fun _ _ _ h => h) (Or.inl ⟨by rfl, fun w _ => build_cur rfl rfl rfl rfl rfl w⟩) (by assumption) ?_
      try simp only [Act.put, List.getElem_toArray, List.getElem_cons_succ, List.getElem_cons_zero, List.setIfInBounds_toArray, List.set_cons_zero, List.set_cons_succ]
      have HBH := Lib.hid hHeld.2.2
      refine wpAnyT_last (i := 6) (by kernel_rfl) (by kernel_rfl) rfl (by kernel_rfl) (fun K hK => ?_)
      refine step_store_anim0 (by rfl) _ _ (by rfl) b0 [.int .i64 1, .int .i64 0, .int .i64 1, .int .i64 f, .int .i64 t, .int .i64 0, .int .i64 300, .int .i64 333, .int .i64 333, .int .i64 667, .int .i64 667, .int .i64 0, .int .i64 0, .int .i64 0, .int .i64 0, .int .i64 0] (by rfl) (by rfl) (by rfl) _ _ (HA5.out.kept HBH.out HA5.out.lt) (by simp [Value.oneCell']) ?_
      intro wz hAz hwz
      refine hK.out _ _ ?_
      clear hK K hHeld
      try simp only [Act.put, List.getElem_toArray, List.getElem_cons_succ, List.getElem_cons_zero, List.setIfInBounds_toArray, List.set_cons_zero, List.set_cons_succ]
      go_wp2
      go_meet
      have hb7 : ∀ B, B ≤ b0 → Below B w5 wz := fun B hB => by
        subst hwz
        exact below_fillL hB _ _ _ (HBH.out.mono (by have := HA5.out.lt; omega))
      exact ⟨hAz, HB5.out.trans (hb7 _ HWb.out), HS5.out.kept (hb7 _ HGH.out)⟩
  case rest =>
    obtain ⟨hA, hB, hS⟩ := hcut
    obtain ⟨w6, rfl⟩ : ∃ x : World, x = wc := ⟨_, rfl⟩
    have HA6 := Lib.hid hA
    have HB6 := Lib.hid hB
    have HS6 := Lib.hid hS
    clear hA hB hS HA5 HB5 HS5
    as_aux_lemma =>
      have hm6 := HM6.out
      have hcn := HCN.out
      have hcm := HCM.out
      go_wp2_with (refine halt_dst 33 ?_; intro G HGo)
      clear hm6 hcn hcm
      obtain ⟨Vv, hVv⟩ : ∃ V, (curA f t).value m = V := ⟨_, rfl⟩
      have HVA := Lib.hid hVv
      clear hVv
      refine HGo.out ?_
      clear HGo
      go_wp2_with (first | (refine load_anim rfl _ rfl b0 rfl _ _ HA6.out ?_))
      refine (Value_any _ _ _ _ _ _ _ _ _ _ _ _ _ _ _ _ _ _).mono ?_
      rw [show (⟨1, 0, 1, f, t, 0, 300, 333, 333, 667, 667, 0, 0, 0, 0, 0⟩ : Anim).value m = Vv from HVA.out]
      rintro e w7 ⟨rfl, hb⟩
      have HA7 : Hid (AnimBlk w7 b0 38 [.int .i64 1, .int .i64 0, .int .i64 1, .int .i64 f, .int .i64 t, .int .i64 0, .int .i64 300, .int .i64 333, .int .i64 333, .int .i64 667, .int .i64 667, .int .i64 0, .int .i64 0, .int .i64 0, .int .i64 0, .int .i64 0]) := HA6.out.kept hb HA6.out.lt
      have HB7 : Hid (Below w.heap.size w w7) := HB6.out.trans (hb.mono HB6.out.size)
      have HS7 : Hid (SrcOk w7 g) := HS6.out.kept (hb.mono HS6.out.lt)
      clear hb HA6 HB6 HS6
      go_wp2_with fail
      refine (srcRange_any g _ _ _ HS7.out (by omega) (by omega) (by omega)).mono ?_
      rintro e w8 ⟨t2, t20, t21, rfl, hs, hg⟩
      have HB8 : Hid (Below w.heap.size w w8) := HB7.out.trans (grownBy_below hg HG.out HS7.out.lt)
      have HA8 : Hid (AnimBlk w8 b0 38 [.int .i64 1, .int .i64 0, .int .i64 1, .int .i64 f, .int .i64 t, .int .i64 0, .int .i64 300, .int .i64 333, .int .i64 333, .int .i64 667, .int .i64 667, .int .i64 0, .int .i64 0, .int .i64 0, .int .i64 0, .int .i64 0]) := ⟨rfl, (hg.block b0 HA7.out.lt (by have := HGH.out; simp; omega)).trans HA7.out.2⟩
      clear hs hg HA7 HB7 HS7
      go_wp2_with fail
      refine (lspring_any 7 t2 _ (by omega)).mono ?_
      rw [show (65536 * 7 : Int) = 458752 from rfl]
      rintro e w9 ⟨rfl, hb⟩
      have HA9 : Hid (AnimBlk w9 b0 38 [.int .i64 1, .int .i64 0, .int .i64 1, .int .i64 f, .int .i64 t, .int .i64 0, .int .i64 300, .int .i64 333, .int .i64 333, .int .i64 667, .int .i64 667, .int .i64 0, .int .i64 0, .int .i64 0, .int .i64 0, .int .i64 0]) := HA8.out.kept hb HA8.out.lt
      have HB9 : Hid (Below w.heap.size w w9) := HB8.out.trans (hb.mono HB8.out.size)
      clear hb HA8 HB8
      go_wp2_with (refine halt_dst 41 ?_; intro G HGo)
      obtain ⟨b1, hh⟩ : ∃ b, w9.heap.size = b := ⟨_, rfl⟩
      have HN10 : Hid (AnimBlk (w9.alloc (.cells #[.int .i64 1, .int .i64 0, .int .i64 2, .int .i64 7, .int .i64 t2, .int .i64 0, .int .i64 0, .int .i64 0, .int .i64 0, .int .i64 0, .int .i64 0, .int .i64 200, .int .i64 240, .int .i64 458752, .int .i64 99, .int .i64 0] 38)) b1 38 [.int .i64 1, .int .i64 0, .int .i64 2, .int .i64 7, .int .i64 t2, .int .i64 0, .int .i64 0, .int .i64 0, .int .i64 0, .int .i64 0, .int .i64 0, .int .i64 200, .int .i64 240, .int .i64 458752, .int .i64 99, .int .i64 0]) := ⟨rfl, by rw [← hh]; exact heap_alloc_new w9 _⟩
      have HA10 : Hid (AnimBlk (w9.alloc (.cells #[.int .i64 1, .int .i64 0, .int .i64 2, .int .i64 7, .int .i64 t2, .int .i64 0, .int .i64 0, .int .i64 0, .int .i64 0, .int .i64 0, .int .i64 0, .int .i64 200, .int .i64 240, .int .i64 458752, .int .i64 99, .int .i64 0] 38)) b0 38 [.int .i64 1, .int .i64 0, .int .i64 1, .int .i64 f, .int .i64 t, .int .i64 0, .int .i64 300, .int .i64 333, .int .i64 333, .int .i64 667, .int .i64 667, .int .i64 0, .int .i64 0, .int .i64 0, .int .i64 0, .int .i64 0]) := HA9.out.alloc _
      have HB10 : Hid (Below w.heap.size w (w9.alloc (.cells #[.int .i64 1, .int .i64 0, .int .i64 2, .int .i64 7, .int .i64 t2, .int .i64 0, .int .i64 0, .int .i64 0, .int .i64 0, .int .i64 0, .int .i64 0, .int .i64 200, .int .i64 240, .int .i64 458752, .int .i64 99, .int .i64 0] 38))) := HB9.out.alloc HB9.out.size _
      rw [hh] at HGo
      obtain ⟨w10, hw10⟩ : ∃ w10, w9.alloc (.cells #[.int .i64 1, .int .i64 0, .int .i64 2, .int .i64 7, .int .i64 t2, .int .i64 0, .int .i64 0, .int .i64 0, .int .i64 0, .int .i64 0, .int .i64 0, .int .i64 200, .int .i64 240, .int .i64 458752, .int .i64 99, .int .i64 0] 38) = w10 := ⟨_, rfl⟩
      refine HGo.out ?_
      clear HGo
      rw [hw10] at HN10 HA10 HB10 ⊢
      clear hw10 hh HA9 HB9
      refine lit_41 HA10.out ?_
      have HN11 : Hid (AnimBlk (w10.alloc (.cells #[.int .i64 1, .int .i64 0, .int .i64 1, .int .i64 f, .int .i64 t, .int .i64 0, .int .i64 300, .int .i64 333, .int .i64 333, .int .i64 667, .int .i64 667, .int .i64 0, .int .i64 0, .int .i64 0, .int .i64 0, .int .i64 0] 38)) b1 38 [.int .i64 1, .int .i64 0, .int .i64 2, .int .i64 7, .int .i64 t2, .int .i64 0, .int .i64 0, .int .i64 0, .int .i64 0, .int .i64 0, .int .i64 0, .int .i64 200, .int .i64 240, .int .i64 458752, .int .i64 99, .int .i64 0]) := HN10.out.alloc _
      go_wp2_with (first | (refine load_anim rfl _ rfl b1 rfl _ _ HN11.out ?_))
      obtain ⟨V', hV', s1, s2, s3⟩ := intr_curve (f := f) (t := t) (t2 := t2) (now := m) (by omega) (by omega) (by omega) HMB.out
      obtain rfl : V' = Vv := hV'.symm.trans HVA.out
      refine (set_one _ (curA f t) (gotA V' t2 m (65536 * V') 0) t2 m _ (lit_anim (curA f t) (heap_alloc_new _ _)) s1 s2).mono ?_
      rintro e wS ⟨bp, op, cp, rfl, cp1, cp2, hpo, hb⟩
      have HV3 := Lib.hid s3
      have hbS := ((Below.refl w10.heap.size w10).alloc (Nat.le_refl _) (.cells #[.int .i64 1, .int .i64 0, .int .i64 1, .int .i64 f, .int .i64 t, .int .i64 0, .int .i64 300, .int .i64 333, .int .i64 333, .int .i64 667, .int .i64 667, .int .i64 0, .int .i64 0, .int .i64 0, .int .i64 0, .int .i64 0] 38)).trans (hb.mono (by simp))
      have HBS : Hid (Below w.heap.size w wS) := HB10.out.trans (hbS.mono HB10.out.size)
      have HAS : Hid (AnimBlk wS b0 38 [.int .i64 1, .int .i64 0, .int .i64 1, .int .i64 f, .int .i64 t, .int .i64 0, .int .i64 300, .int .i64 333, .int .i64 333, .int .i64 667, .int .i64 667, .int .i64 0, .int .i64 0, .int .i64 0, .int .i64 0, .int .i64 0]) := HA10.out.kept hbS HA10.out.lt
      have HNS : Hid (AnimBlk wS b1 38 [.int .i64 1, .int .i64 0, .int .i64 2, .int .i64 7, .int .i64 t2, .int .i64 0, .int .i64 0, .int .i64 0, .int .i64 0, .int .i64 0, .int .i64 0, .int .i64 200, .int .i64 240, .int .i64 458752, .int .i64 99, .int .i64 0]) := HN10.out.kept hbS HN10.out.lt
      clear hb hbS hV' s1 s2 s3 HA10 HN10 HN11 HB10
      unfold maxLen at cp2
      obtain ⟨c0, c1, c2, c3, c4, c5, c6, c7, c8, c9, c10, c11, c12, c13, c14, c15⟩ := hpo
      unfold gotA at c0 c1 c2 c3 c4 c5 c6 c7 c8 c9 c10 c11 c12 c13 c14 c15
      simp only at c0 c1 c2 c3 c4 c5 c6 c7 c8 c9 c10 c11 c12 c13 c14 c15
      have n4 : wS.cell? ⟨b1, 4, none⟩ = some (.int .i64 t2) := (HNS.out.cell 4).trans rfl
      go_upto_region 10 with fail
      refine wp_region_T (S := (fun w' => w'.cell? ⟨bp, op, none⟩ = some (.int .i64 1) ∧ w'.cell? ⟨bp, op + 1, none⟩ = some (.int .i64 0) ∧ w'.cell? ⟨bp, op + 2, none⟩ = some (.int .i64 2) ∧ w'.cell? ⟨bp, op + 3, none⟩ = some (.int .i64 V') ∧ w'.cell? ⟨bp, op + 4, none⟩ = some (.int .i64 t2) ∧ w'.cell? ⟨bp, op + 5, none⟩ = some (.int .i64 m) ∧ w'.cell? ⟨bp, op + 6, none⟩ = some (.int .i64 0) ∧ w'.cell? ⟨bp, op + 7, none⟩ = some (.int .i64 0) ∧ w'.cell? ⟨bp, op + 8, none⟩ = some (.int .i64 0) ∧ w'.cell? ⟨bp, op + 9, none⟩ = some (.int .i64 0) ∧ w'.cell? ⟨bp, op + 10, none⟩ = some (.int .i64 0) ∧ w'.cell? ⟨bp, op + 11, none⟩ = some (.int .i64 200) ∧ w'.cell? ⟨bp, op + 12, none⟩ = some (.int .i64 240) ∧ w'.cell? ⟨bp, op + 13, none⟩ = some (.int .i64 (65536 * V')) ∧ w'.cell? ⟨bp, op + 14, none⟩ = some (.int .i64 0) ∧ w'.cell? ⟨bp, op + 15, none⟩ = some (.int .i64 m) ∧ w'.cell? ⟨b1, 4, none⟩ = some (.int .i64 t2) ∧ Below wS.heap.size wS w')) 32 (by kernel_rfl) (⟨c0, c1, c2, c3, c4, c5, c6, c7, c8, c9, c10, c11, c12, c13, c14, c15, n4, (Below.refl _ _).drew⟩) (fun hHeld => ?_)
      clear c0 c1 c2 c3 c4 c5 c6 c7 c8 c9 c10 c11 c12 c13 c14 c15 n4
      refine wpAnyT_take (i := 0) (v := ?_) rfl (by decide +kernel) (by decide +kernel) (by decide +kernel) (by decide +kernel) (by decide +kernel) (fun _ _ _ h => h) (Or.inl ⟨by rfl, ?_⟩) (by assumption) ?_
      rotate_left
      · intro w hSw; (try dsimp only at hSw); first | (go_simp; done) | (go_simp; with_reducible rfl)
      try simp only [Act.put, List.getElem_toArray, List.getElem_cons_succ, List.getElem_cons_zero, List.setIfInBounds_toArray, List.set_cons_zero, List.set_cons_succ]
      refine wpAnyT_take (i := 1) (v := ?_) rfl (by decide +kernel) (by decide +kernel) (by decide +kernel) (by decide +kernel) (by decide +kernel) (fun _ _ _ h => h) (Or.inl ⟨by rfl, ?_⟩) (by assumption) ?_
      rotate_left
      · intro w hSw; (try dsimp only at hSw); first | (go_simp; done) | (go_simp; with_reducible rfl)
      try simp only [Act.put, List.getElem_toArray, List.getElem_cons_succ, List.getElem_cons_zero, List.setIfInBounds_toArray, List.set_cons_zero, List.set_cons_succ]
      refine wpAnyT_take (i := 2) (v := ?_) rfl (by decide +kernel) (by decide +kernel) (by decide +kernel) (by decide +kernel) (by decide +kernel) (fun _ _ _ h => h) (Or.inl ⟨by rfl, ?_⟩) (by assumption) ?_
      rotate_left
      · intro w hSw; (try dsimp only at hSw); first | (go_simp; done) | (go_simp; with_reducible rfl)
      try simp only [Act.put, List.getElem_toArray, List.getElem_cons_succ, List.getElem_cons_zero, List.setIfInBounds_toArray, List.set_cons_zero, List.set_cons_succ]
      refine wpAnyT_take (i := 3) (v := ?_) rfl (by decide +kernel) (by decide +kernel) (by decide +kernel) (by decide +kernel) (by decide +kernel) (fun _ _ _ h => h) (Or.inl ⟨by rfl, ?_⟩) (by assumption) ?_
      rotate_left
      · intro w hSw; (try dsimp only at hSw); first | (go_simp; done) | (go_simp; with_reducible rfl)
      try simp only [Act.put, List.getElem_toArray, List.getElem_cons_succ, List.getElem_cons_zero, List.setIfInBounds_toArray, List.set_cons_zero, List.set_cons_succ]
      refine wpAnyT_take (i := 4) (v := ?_) rfl (by decide +kernel) (by decide +kernel) (by decide +kernel) (by decide +kernel) (by decide +kernel) (fun _ _ _ h => h) (Or.inl ⟨by rfl, ?_⟩) (by assumption) ?_
      rotate_left
      · intro w hSw; (try dsimp only at hSw); first | (go_simp; done) | (go_simp; with_reducible rfl)
      try simp only [Act.put, List.getElem_toArray, List.getElem_cons_succ, List.getElem_cons_zero, List.setIfInBounds_toArray, List.set_cons_zero, List.set_cons_succ]
      refine wpAnyT_take (i := 5) (v := ?_) rfl (by decide +kernel) (by decide +kernel) (by decide +kernel) (by decide +kernel) (by decide +kernel) (fun _ _ _ h => h) (Or.inl ⟨by rfl, ?_⟩) (by assumption) ?_
      rotate_left
      · intro w hSw; (try dsimp only at hSw); first | (go_simp; done) | (go_simp; with_reducible rfl)
      try simp only [Act.put, List.getElem_toArray, List.getElem_cons_succ, List.getElem_cons_zero, List.setIfInBounds_toArray, List.set_cons_zero, List.set_cons_succ]
      refine wpAnyT_take (i := 6) (v := ?_) rfl (by decide +kernel) (by decide +kernel) (by decide +kernel) (by decide +kernel) (by decide +kernel) (fun _ _ _ h => h) (Or.inl ⟨by rfl, ?_⟩) (by assumption) ?_
      rotate_left
      · intro w hSw; (try dsimp only at hSw); first | (go_simp; done) | (go_simp; with_reducible rfl)
      try simp only [Act.put, List.getElem_toArray, List.getElem_cons_succ, List.getElem_cons_zero, List.setIfInBounds_toArray, List.set_cons_zero, List.set_cons_succ]
      refine wpAnyT_take (i := 7) (v := ?_) rfl (by decide +kernel) (by decide +kernel) (by decide +kernel) (by decide +kernel) (by decide +kernel) (fun _ _ _ h => h) (Or.inl ⟨by rfl, ?_⟩) (by assumption) ?_
      rotate_left
      · intro w hSw; (try dsimp only at hSw); first | (go_simp; done) | (go_simp; with_reducible rfl)
      try simp only [Act.put, List.getElem_toArray, List.getElem_cons_succ, List.getElem_cons_zero, List.setIfInBounds_toArray, List.set_cons_zero, List.set_cons_succ]
      refine wpAnyT_take (i := 8) (v := ?_) rfl (by decide +kernel) (by decide +kernel) (by decide +kernel) (by decide +kernel) (by decide +kernel) (fun _ _ _ h => h) (Or.inl ⟨by rfl, ?_⟩) (by assumption) ?_
      rotate_left
      · intro w hSw; (try dsimp only at hSw); first | (go_simp; done) | (go_simp; with_reducible rfl)
      try simp only [Act.put, List.getElem_toArray, List.getElem_cons_succ, List.getElem_cons_zero, List.setIfInBounds_toArray, List.set_cons_zero, List.set_cons_succ]
      refine wpAnyT_take (i := 9) (v := ?_) rfl (by decide +kernel) (by decide +kernel) (by decide +kernel) (by decide +kernel) (by decide +kernel) (fun _ _ _ h => h) (Or.inl ⟨by rfl, ?_⟩) (by assumption) ?_
      rotate_left
      · intro w hSw; (try dsimp only at hSw); first | (go_simp; done) | (go_simp; with_reducible rfl)
      try simp only [Act.put, List.getElem_toArray, List.getElem_cons_succ, List.getElem_cons_zero, List.setIfInBounds_toArray, List.set_cons_zero, List.set_cons_succ]
      refine wpAnyT_take (i := 10) (v := ?_) rfl (by decide +kernel) (by decide +kernel) (by decide +kernel) (by decide +kernel) (by decide +kernel) (fun _ _ _ h => h) (Or.inl ⟨by rfl, ?_⟩) (by assumption) ?_
      rotate_left
      · intro w hSw; (try dsimp only at hSw); first | (go_simp; done) | (go_simp; with_reducible rfl)
      try simp only [Act.put, List.getElem_toArray, List.getElem_cons_succ, List.getElem_cons_zero, List.setIfInBounds_toArray, List.set_cons_zero, List.set_cons_succ]
      refine wpAnyT_take (i := 11) (v := ?_) rfl (by decide +kernel) (by decide +kernel) (by decide +kernel) (by decide +kernel) (by decide +kernel) (fun _ _ _ h => h) (Or.inl ⟨by rfl, ?_⟩) (by assumption) ?_
      rotate_left
      · intro w hSw; (try dsimp only at hSw); first | (go_simp; done) | (go_simp; with_reducible rfl)
      try simp only [Act.put, List.getElem_toArray, List.getElem_cons_succ, List.getElem_cons_zero, List.setIfInBounds_toArray, List.set_cons_zero, List.set_cons_succ]
      refine wpAnyT_take (i := 13) (v := ?_) rfl (by decide +kernel) (by decide +kernel) (by decide +kernel) (by decide +kernel) (by decide +kernel) (fun _ _ _ h => h) (Or.inl ⟨by rfl, ?_⟩) (by assumption) ?_
      rotate_left
      · intro w hSw; (try dsimp only at hSw); first | (go_simp; done) | (go_simp; with_reducible rfl)
      try simp only [Act.put, List.getElem_toArray, List.getElem_cons_succ, List.getElem_cons_zero, List.setIfInBounds_toArray, List.set_cons_zero, List.set_cons_succ]
      refine wpAnyT_one (i := 12) (by kernel_rfl) rfl (fun K hK => ?_)
      go_simp
      (refine (Value_any _ _ _ _ _ _ _ _ _ _ _ _ _ _ _ _ _ _).mono ?_; rw [show (⟨1, 0, 2, V', t2, m, 0, 0, 0, 0, 0, 200, 240, (65536 * V'), 0, m⟩ : Anim).value m = V' from HV3.out]; rintro e wT ⟨rfl, hb'⟩)
      refine hK.out _ _ ?_ (fun hHeld2 => ?_)
      · (try dsimp only); exact ⟨(hb'.cell (p := ⟨bp, op, none⟩) (World.block_lt_of_cell? _ _ hHeld.1)).trans hHeld.1, (hb'.cell (p := ⟨bp, op + 1, none⟩) (World.block_lt_of_cell? _ _ hHeld.2.1)).trans hHeld.2.1, (hb'.cell (p := ⟨bp, op + 2, none⟩) (World.block_lt_of_cell? _ _ hHeld.2.2.1)).trans hHeld.2.2.1, (hb'.cell (p := ⟨bp, op + 3, none⟩) (World.block_lt_of_cell? _ _ hHeld.2.2.2.1)).trans hHeld.2.2.2.1, (hb'.cell (p := ⟨bp, op + 4, none⟩) (World.block_lt_of_cell? _ _ hHeld.2.2.2.2.1)).trans hHeld.2.2.2.2.1, (hb'.cell (p := ⟨bp, op + 5, none⟩) (World.block_lt_of_cell? _ _ hHeld.2.2.2.2.2.1)).trans hHeld.2.2.2.2.2.1, (hb'.cell (p := ⟨bp, op + 6, none⟩) (World.block_lt_of_cell? _ _ hHeld.2.2.2.2.2.2.1)).trans hHeld.2.2.2.2.2.2.1, (hb'.cell (p := ⟨bp, op + 7, none⟩) (World.block_lt_of_cell? _ _ hHeld.2.2.2.2.2.2.2.1)).trans hHeld.2.2.2.2.2.2.2.1, (hb'.cell (p := ⟨bp, op + 8, none⟩) (World.block_lt_of_cell? _ _ hHeld.2.2.2.2.2.2.2.2.1)).trans hHeld.2.2.2.2.2.2.2.2.1, (hb'.cell (p := ⟨bp, op + 9, none⟩) (World.block_lt_of_cell? _ _ hHeld.2.2.2.2.2.2.2.2.2.1)).trans hHeld.2.2.2.2.2.2.2.2.2.1, (hb'.cell (p := ⟨bp, op + 10, none⟩) (World.block_lt_of_cell? _ _ hHeld.2.2.2.2.2.2.2.2.2.2.1)).trans hHeld.2.2.2.2.2.2.2.2.2.2.1, (hb'.cell (p := ⟨bp, op + 11, none⟩) (World.block_lt_of_cell? _ _ hHeld.2.2.2.2.2.2.2.2.2.2.2.1)).trans hHeld.2.2.2.2.2.2.2.2.2.2.2.1, (hb'.cell (p := ⟨bp, op + 12, none⟩) (World.block_lt_of_cell? _ _ hHeld.2.2.2.2.2.2.2.2.2.2.2.2.1)).trans hHeld.2.2.2.2.2.2.2.2.2.2.2.2.1, (hb'.cell (p := ⟨bp, op + 13, none⟩) (World.block_lt_of_cell? _ _ hHeld.2.2.2.2.2.2.2.2.2.2.2.2.2.1)).trans hHeld.2.2.2.2.2.2.2.2.2.2.2.2.2.1, (hb'.cell (p := ⟨bp, op + 14, none⟩) (World.block_lt_of_cell? _ _ hHeld.2.2.2.2.2.2.2.2.2.2.2.2.2.2.1)).trans hHeld.2.2.2.2.2.2.2.2.2.2.2.2.2.2.1, (hb'.cell (p := ⟨bp, op + 15, none⟩) (World.block_lt_of_cell? _ _ hHeld.2.2.2.2.2.2.2.2.2.2.2.2.2.2.2.1)).trans hHeld.2.2.2.2.2.2.2.2.2.2.2.2.2.2.2.1, (hb'.cell (p := ⟨b1, 4, none⟩) (World.block_lt_of_cell? _ _ hHeld.2.2.2.2.2.2.2.2.2.2.2.2.2.2.2.2.1)).trans hHeld.2.2.2.2.2.2.2.2.2.2.2.2.2.2.2.2.1, hHeld.2.2.2.2.2.2.2.2.2.2.2.2.2.2.2.2.2.trans (hb'.mono hHeld.2.2.2.2.2.2.2.2.2.2.2.2.2.2.2.2.2.size)⟩
      clear hK K hHeld
      have hHeld := hHeld2
      clear hHeld2
      try simp only [Act.put, List.getElem_toArray, List.getElem_cons_succ, List.getElem_cons_zero, List.setIfInBounds_toArray, List.set_cons_zero, List.set_cons_succ]
      clear hb'
      refine wpAnyT_take (i := 14) (v := ?_) rfl (by decide +kernel) (by decide +kernel) (by decide +kernel) (by decide +kernel) (by decide +kernel) (fun _ _ _ h => h) (Or.inl ⟨by rfl, ?_⟩) (by assumption) ?_
      rotate_left
      · intro w hSw; (try dsimp only at hSw); first | (go_simp; done) | (go_simp; with_reducible rfl)
      try simp only [Act.put, List.getElem_toArray, List.getElem_cons_succ, List.getElem_cons_zero, List.setIfInBounds_toArray, List.set_cons_zero, List.set_cons_succ]
      refine wpAnyT_take (i := 15) (v := ?_) rfl (by decide +kernel) (by decide +kernel) (by decide +kernel) (by decide +kernel) (by decide +kernel) (fun _ _ _ h => h) (Or.inl ⟨by rfl, ?_⟩) (by assumption) ?_
      rotate_left
      · intro w hSw; (try dsimp only at hSw); first | (go_simp; done) | (go_simp; with_reducible rfl)
      try simp only [Act.put, List.getElem_toArray, List.getElem_cons_succ, List.getElem_cons_zero, List.setIfInBounds_toArray, List.set_cons_zero, List.set_cons_succ]
      refine wpAnyT_take (i := 16) (v := ?_) rfl (by decide +kernel) (by decide +kernel) (by decide +kernel) (by decide +kernel) (by decide +kernel) (fun _ _ _ h => h) (Or.inl ⟨by rfl, ?_⟩) (by assumption) ?_
      rotate_left
      · intro w hSw; (try dsimp only at hSw); first | (go_simp; done) | (go_simp; with_reducible rfl)
      try simp only [Act.put, List.getElem_toArray, List.getElem_cons_succ, List.getElem_cons_zero, List.setIfInBounds_toArray, List.set_cons_zero, List.set_cons_succ]
      refine wpAnyT_take (i := 17) (v := ?_) rfl (by decide +kernel) (by decide +kernel) (by decide +kernel) (by decide +kernel) (by decide +kernel) (fun _ _ _ h => h) (Or.inl ⟨by rfl, ?_⟩) (by assumption) ?_
      rotate_left
      · intro w hSw; (try dsimp only at hSw); first | (go_simp; done) | (go_simp; with_reducible rfl)
      try simp only [Act.put, List.getElem_toArray, List.getElem_cons_succ, List.getElem_cons_zero, List.setIfInBounds_toArray, List.set_cons_zero, List.set_cons_succ]
      refine wpAnyT_take (i := 18) (v := ?_) rfl (by decide +kernel) (by decide +kernel) (by decide +kernel) (by decide +kernel) (by decide +kernel) (fun _ _ _ h => h) (Or.inl ⟨by rfl, ?_⟩) (by assumption) ?_
      rotate_left
      · intro w hSw; (try dsimp only at hSw); first | (go_simp; done) | (go_simp; with_reducible rfl)
      try simp only [Act.put, List.getElem_toArray, List.getElem_cons_succ, List.getElem_cons_zero, List.setIfInBounds_toArray, List.set_cons_zero, List.set_cons_succ]
      refine wpAnyT_take (i := 19) (v := ?_) rfl (by decide +kernel) (by decide +kernel) (by decide +kernel) (by decide +kernel) (by decide +kernel) (fun _ _ _ h => h) (Or.inl ⟨by rfl, ?_⟩) (by assumption) ?_
      rotate_left
      · intro w hSw; (try dsimp only at hSw); first | (go_simp; done) | (go_simp; with_reducible rfl)
      try simp only [Act.put, List.getElem_toArray, List.getElem_cons_succ, List.getElem_cons_zero, List.setIfInBounds_toArray, List.set_cons_zero, List.set_cons_succ]
      refine wpAnyT_take (i := 20) (v := ?_) rfl (by decide +kernel) (by decide +kernel) (by decide +kernel) (by decide +kernel) (by decide +kernel) (fun _ _ _ h => h) (Or.inl ⟨by rfl, ?_⟩) (by assumption) ?_
      rotate_left
      · intro w hSw; (try dsimp only at hSw); first | (go_simp; done) | (go_simp; with_reducible rfl)
      try simp only [Act.put, List.getElem_toArray, List.getElem_cons_succ, List.getElem_cons_zero, List.setIfInBounds_toArray, List.set_cons_zero, List.set_cons_succ]
      refine wpAnyT_take (i := 21) (v := ?_) rfl (by decide +kernel) (by decide +kernel) (by decide +kernel) (by decide +kernel) (by decide +kernel) (fun _ _ _ h => h) (Or.inl ⟨by rfl, ?_⟩) (by assumption) ?_
      rotate_left
      · intro w hSw; (try dsimp only at hSw); first | (go_simp; done) | (go_simp; with_reducible rfl)
      try simp only [Act.put, List.getElem_toArray, List.getElem_cons_succ, List.getElem_cons_zero, List.setIfInBounds_toArray, List.set_cons_zero, List.set_cons_succ]
      refine wpAnyT_take (i := 22) (v := ?_) rfl (by decide +kernel) (by decide +kernel) (by decide +kernel) (by decide +kernel) (by decide +kernel) (fun _ _ _ h => h) (Or.inl ⟨by rfl, ?_⟩) (by assumption) ?_
      rotate_left
      · intro w hSw; (try dsimp only at hSw); first | (go_simp; done) | (go_simp; with_reducible rfl)
      try simp only [Act.put, List.getElem_toArray, List.getElem_cons_succ, List.getElem_cons_zero, List.setIfInBounds_toArray, List.set_cons_zero, List.set_cons_succ]
      refine wpAnyT_take (i := 23) (v := ?_) rfl (by decide +kernel) (by decide +kernel) (by decide +kernel) (by decide +kernel) (by decide +kernel) (fun _ _ _ h => h) (Or.inl ⟨by rfl, ?_⟩) (by assumption) ?_
      rotate_left
      · intro w hSw; (try dsimp only at hSw); first | (go_simp; done) | (go_simp; with_reducible rfl)
      try simp only [Act.put, List.getElem_toArray, List.getElem_cons_succ, List.getElem_cons_zero, List.setIfInBounds_toArray, List.set_cons_zero, List.set_cons_succ]
      refine wpAnyT_take (i := 24) (v := ?_) rfl (by decide +kernel) (by decide +kernel) (by decide +kernel) (by decide +kernel) (by decide +kernel) (fun _ _ _ h => h) (Or.inl ⟨by rfl, ?_⟩) (by assumption) ?_
      rotate_left
      · intro w hSw; (try dsimp only at hSw); first | (go_simp; done) | (go_simp; with_reducible rfl)
      try simp only [Act.put, List.getElem_toArray, List.getElem_cons_succ, List.getElem_cons_zero, List.setIfInBounds_toArray, List.set_cons_zero, List.set_cons_succ]
      refine wpAnyT_take (i := 25) (v := ?_) rfl (by decide +kernel) (by decide +kernel) (by decide +kernel) (by decide +kernel) (by decide +kernel) (fun _ _ _ h => h) (Or.inl ⟨by rfl, ?_⟩) (by assumption) ?_
      rotate_left
      · intro w hSw; (try dsimp only at hSw); first | (go_simp; done) | (go_simp; with_reducible rfl)
      try simp only [Act.put, List.getElem_toArray, List.getElem_cons_succ, List.getElem_cons_zero, List.setIfInBounds_toArray, List.set_cons_zero, List.set_cons_succ]
      refine wpAnyT_take (i := 26) (v := ?_) rfl (by decide +kernel) (by decide +kernel) (by decide +kernel) (by decide +kernel) (by decide +kernel) (fun _ _ _ h => h) (Or.inl ⟨by rfl, ?_⟩) (by assumption) ?_
      rotate_left
      · intro w hSw; (try dsimp only at hSw); first | (go_simp; done) | (go_simp; with_reducible rfl)
      try simp only [Act.put, List.getElem_toArray, List.getElem_cons_succ, List.getElem_cons_zero, List.setIfInBounds_toArray, List.set_cons_zero, List.set_cons_succ]
      refine wpAnyT_take (i := 27) (v := ?_) rfl (by decide +kernel) (by decide +kernel) (by decide +kernel) (by decide +kernel) (by decide +kernel) (fun _ _ _ h => h) (Or.inl ⟨by rfl, ?_⟩) (by assumption) ?_
      rotate_left
      · intro w hSw; (try dsimp only at hSw); first | (go_simp; done) | (go_simp; with_reducible rfl)
      try simp only [Act.put, List.getElem_toArray, List.getElem_cons_succ, List.getElem_cons_zero, List.setIfInBounds_toArray, List.set_cons_zero, List.set_cons_succ]
      refine wpAnyT_take (i := 28) (v := ?_) rfl (by decide +kernel) (by decide +kernel) (by decide +kernel) (by decide +kernel) (by decide +kernel) (fun _ _ _ h => h) (Or.inl ⟨by rfl, ?_⟩) (by assumption) ?_
      rotate_left
      · intro w hSw; (try dsimp only at hSw); first | (go_simp; done) | (go_simp; with_reducible rfl)
      try simp only [Act.put, List.getElem_toArray, List.getElem_cons_succ, List.getElem_cons_zero, List.setIfInBounds_toArray, List.set_cons_zero, List.set_cons_succ]
      refine wpAnyT_take (i := 29) (v := ?_) rfl (by decide +kernel) (by decide +kernel) (by decide +kernel) (by decide +kernel) (by decide +kernel) (fun _ _ _ h => h) (Or.inl ⟨by rfl, ?_⟩) (by assumption) ?_
      rotate_left
      · intro w hSw; (try dsimp only at hSw); first | (go_simp; done) | (go_simp; with_reducible rfl)
      try simp only [Act.put, List.getElem_toArray, List.getElem_cons_succ, List.getElem_cons_zero, List.setIfInBounds_toArray, List.set_cons_zero, List.set_cons_succ]
      refine wpAnyT_take (i := 30) (v := ?_) rfl (by decide +kernel) (by decide +kernel) (by decide +kernel) (by decide +kernel) (by decide +kernel) (fun _ _ _ h => h) (Or.inl ⟨by rfl, ?_⟩) (by assumption) ?_
      rotate_left
      · intro w hSw; (try dsimp only at hSw); first | (go_simp; done) | (go_simp; with_reducible rfl)
      try simp only [Act.put, List.getElem_toArray, List.getElem_cons_succ, List.getElem_cons_zero, List.setIfInBounds_toArray, List.set_cons_zero, List.set_cons_succ]
      refine wpAnyT_take (i := 31) (v := ?_) rfl (by decide +kernel) (by decide +kernel) (by decide +kernel) (by decide +kernel) (by decide +kernel) (fun _ _ _ h => h) (Or.inl ⟨by rfl, ?_⟩) (by assumption) ?_
      rotate_left
      · intro w hSw; (try dsimp only at hSw); first | (go_simp; done) | (go_simp; with_reducible rfl)
      try simp only [Act.put, List.getElem_toArray, List.getElem_cons_succ, List.getElem_cons_zero, List.setIfInBounds_toArray, List.set_cons_zero, List.set_cons_succ]
      have HT := Lib.hid hHeld
      refine wpAnyT_last (i := 32) (by kernel_rfl) (by kernel_rfl) rfl (by kernel_rfl) (fun K hK => ?_)
      go_simp
      refine hK.out _ _ ?_
      clear hK K
      try simp only [Act.put, List.getElem_toArray, List.getElem_cons_succ, List.getElem_cons_zero, List.setIfInBounds_toArray, List.set_cons_zero, List.set_cons_succ]
      have HBT : Hid (Below wS.heap.size wS wT) := HT.out.2.2.2.2.2.2.2.2.2.2.2.2.2.2.2.2.2
      have HBW : Hid (Below w.heap.size w wT) := HBS.out.trans (HBT.out.mono HBS.out.size)
      have HAT : Hid (AnimBlk wT b0 38 [.int .i64 1, .int .i64 0, .int .i64 1, .int .i64 f, .int .i64 t, .int .i64 0, .int .i64 300, .int .i64 333, .int .i64 333, .int .i64 667, .int .i64 667, .int .i64 0, .int .i64 0, .int .i64 0, .int .i64 0, .int .i64 0]) := HAS.out.kept HBT.out HAS.out.lt
      clear hHeld
      have d13 : wT.cell? ⟨bp, op + 13, none⟩ = some (.int .i64 (65536 * V')) := HT.out.2.2.2.2.2.2.2.2.2.2.2.2.2.1
      have d14 : wT.cell? ⟨bp, op + 14, none⟩ = some (.int .i64 0) := HT.out.2.2.2.2.2.2.2.2.2.2.2.2.2.2.1
      go_wp2_with (go_at_call 18; refine (awake_any _).mono ?_; rintro e w20 ⟨rfl, hb20⟩)
      go_ret
      exact ⟨rfl, HBW.out.trans (hb20.mono HBW.out.size)⟩
theorem open_U16i {H : Type} {enc : TypeId × Value → H} {W : World} {base : Nat} {v : Value} {d : DataW H} {p : List MemPlace} (hok : Value.okWide Try.prog W .any base 35 v) (h : DataW.Trod enc Try.prog W 0 (fun _ => true) true 35 v d p) : ∃ x, v = .int .u16 x ∧ (Lit.int .u16 x).wf = true := by
  obtain ⟨a, rfl, rfl, rfl, w⟩ := Go.ChangeShapes.open_int Try.underlying35 hok h
  exact ⟨a, rfl, w⟩
theorem walk_AnimationInterrupts (u0 : Value) (l : List Int) (u1 : Value) (x : Int) (u2 : Value) (c : Bool) (w : World) (h0 : InInts w u0 l) (h1 : u1 = .int .u16 x ∧ (Lit.int .u16 x).wf = true) (h2 : u2 = .bool c) :
    Calls Try.prog 9 #[u0, u1, u2] w (True_ w) := by
  obtain ⟨rfl, w1⟩ := h1
  have b1 := bounds_u16 w1
  obtain ⟨n, rfl⟩ := Int.eq_ofNat_of_zero_le b1.1
  subst h2
  cases c
  · exact intr_sp u0 l n w h0 (by omega)
  · exact intr_cu u0 l n w h0 (by omega)
end Go.Proofs.Ytfcffmjmohkpoaa

