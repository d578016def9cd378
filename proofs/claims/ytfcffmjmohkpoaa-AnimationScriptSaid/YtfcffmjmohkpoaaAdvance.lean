/- Advance of package animation (printed by wip/gen_adv.py). -/
import Derived.Test.YtfcffmjmohkpoaaNextS
import Derived.Test.YtfcffmjmohkpoaaAnims
import Derived.Test.YtfcffmjmohkpoaaFill
import Derived.Test.YtfcffmjmohkpoaaHalt
import Derived.Deep.AppendLies
import Derived.Deep.RegionLaw
namespace Go.Proofs.Ytfcffmjmohkpoaa
open Go.RowKit
set_option linter.unusedVariables false
set_option linter.unusedSimpArgs false

abbrev animV (r : Anim) : Value := .agg #[.int .i64 r.node, .int .i64 r.prop, .int .i64 r.kind, .int .i64 r.start0, .int .i64 r.goal, .int .i64 r.begin_, .int .i64 r.dur, .int .i64 r.x1, .int .i64 r.y1, .int .i64 r.x2, .int .i64 r.y2, .int .i64 r.stiff, .int .i64 r.damp, .int .i64 r.x, .int .i64 r.v, .int .i64 r.now]
/-- What a call of next leaves. -/
def Nexted (a : Anim) (now : Int) (w : World) (e : Ending) (w' : World) : Prop := ∃ (r : Anim) (g : Bool), e = .returned (.tuple #[animV r, .bool g]) ∧ a.next now = (if g = true then some r else none) ∧ Below w.heap.size w w'

theorem next_any (q0 q1 q2 q3 q4 q5 q6 q7 q8 q9 q10 q11 q12 q13 q14 q15 now : Int) (w : World) (he : (⟨q0, q1, q2, q3, q4, q5, q6, q7, q8, q9, q10, q11, q12, q13, q14, q15⟩ : Anim).err = 0) (hn : btw now 0 1099511627776 = true) :
    Calls Try.prog 57 #[.agg #[.int .i64 q0, .int .i64 q1, .int .i64 q2, .int .i64 q3, .int .i64 q4, .int .i64 q5, .int .i64 q6, .int .i64 q7, .int .i64 q8, .int .i64 q9, .int .i64 q10, .int .i64 q11, .int .i64 q12, .int .i64 q13, .int .i64 q14, .int .i64 q15], .int .i64 now] w (Nexted (⟨q0, q1, q2, q3, q4, q5, q6, q7, q8, q9, q10, q11, q12, q13, q14, q15⟩ : Anim) now w) := by
  obtain ⟨hh, hk⟩ := Anim.ok_cases he
  obtain ⟨b0, b1, b2, b3, b4, b5, b6, b7, b8, b9⟩ := Anim.head_bd hh
  have hnn := btw_iff.1 hn
  simp only at b0 b1 b2 b3 b4 b5 b6 b7 b8 b9
  rcases hk with ⟨hk, hc⟩ | ⟨hk, hc⟩
  · simp only at hk
    subst hk
    refine (next_curve _ _ _ _ _ _ _ _ _ _ _ _ _ _ _ _ w b8 b9 hnn.1 hnn.2).mono ?_
    rintro e w' ⟨rfl, hb⟩
    refine ⟨(⟨q0, q1, 1, q3, q4, q5, q6, q7, q8, q9, q10, q11, q12, q13, q14, q15⟩ : Anim), _, rfl, ?_, hb⟩
    unfold Anim.next
    rw [if_pos rfl]
    simp
  · simp only at hk
    subst hk
    obtain ⟨d0, d1, d2, d3, d4, d5, d6, d7, d8, d9⟩ := Anim.spring_bd hc
    simp only at d0 d1 d2 d3 d4 d5 d6 d7 d8 d9
    obtain ⟨X, hX⟩ : ∃ X, (⟨q0, q1, 2, q3, q4, q5, q6, q7, q8, q9, q10, q11, q12, q13, q14, q15⟩ : Anim).state now = X := ⟨_, rfl⟩
    refine (next_spring _ _ _ _ _ _ _ _ _ _ _ _ _ _ _ _ X w b8 b9 hnn.1 hnn.2 b6 b7 (by omega) (by omega) hX).mono ?_
    rintro e w' ⟨rfl, hb⟩
    refine ⟨(⟨q0, q1, 2, q3, q4, q5, q6, q7, q8, q9, q10, q11, q12, X.1, X.2, now⟩ : Anim), _, rfl, ?_, hb⟩
    unfold Anim.next
    rw [if_neg (show ¬ (2 : Int) = 1 by omega), hX]
    by_cases h1 : X.1 = 65536 * q4
    · by_cases h2 : X.2 = 0
      · simp [h1, h2]
      · simp [h1, h2]
    · simp [h1]

theorem next_flat (q0 q1 q2 q3 q4 q5 q6 q7 q8 q9 q10 q11 q12 q13 q14 q15 now : Int) (w : World) (he : (⟨q0, q1, q2, q3, q4, q5, q6, q7, q8, q9, q10, q11, q12, q13, q14, q15⟩ : Anim).err = 0) (hn : btw now 0 1099511627776 = true) :
    Calls Try.prog 57 #[.agg #[.int .i64 q0, .int .i64 q1, .int .i64 q2, .int .i64 q3, .int .i64 q4, .int .i64 q5, .int .i64 q6, .int .i64 q7, .int .i64 q8, .int .i64 q9, .int .i64 q10, .int .i64 q11, .int .i64 q12, .int .i64 q13, .int .i64 q14, .int .i64 q15], .int .i64 now] w (fun e w' => ∃ (r0 r1 r2 r3 r4 r5 r6 r7 r8 r9 r10 r11 r12 r13 r14 r15 : Int) (g : Bool), e = .returned (.tuple #[.agg #[.int .i64 r0, .int .i64 r1, .int .i64 r2, .int .i64 r3, .int .i64 r4, .int .i64 r5, .int .i64 r6, .int .i64 r7, .int .i64 r8, .int .i64 r9, .int .i64 r10, .int .i64 r11, .int .i64 r12, .int .i64 r13, .int .i64 r14, .int .i64 r15], .bool g]) ∧ (⟨q0, q1, q2, q3, q4, q5, q6, q7, q8, q9, q10, q11, q12, q13, q14, q15⟩ : Anim).next now = (if g = true then some ⟨r0, r1, r2, r3, r4, r5, r6, r7, r8, r9, r10, r11, r12, r13, r14, r15⟩ else none) ∧ Below w.heap.size w w') := by
  refine (next_any q0 q1 q2 q3 q4 q5 q6 q7 q8 q9 q10 q11 q12 q13 q14 q15 now w he hn).mono ?_
  rintro e w' ⟨r, g, rfl, h1, h2⟩
  exact ⟨r.node, r.prop, r.kind, r.start0, r.goal, r.begin_, r.dur, r.x1, r.y1, r.x2, r.y2, r.stiff, r.damp, r.x, r.v, r.now, g, rfl, h1, h2⟩

/-- What a call of Advance leaves. -/
def Advanced (l : List Anim) (now : Int) (w : World) (e : Ending) (w' : World) : Prop :=
  ∃ v u, e = .returned (.tuple #[v, u, .int .i64 (advErr l now)]) ∧ IsAnims w' v (advOn l now) ∧ IsRecs 3 w' u (advOut l now) ∧ Below w.heap.size w w'
theorem Advanced.no {l : List Anim} {now c : Int} {w w' : World} (h : advErr l now = c) (hc : c ≠ 0) (hb : Below w.heap.size w w') : Advanced l now w (.returned (.tuple #[.slice none 0 0, .slice none 0 0, .int .i64 c])) w' := by
  refine ⟨_, _, by rw [h], ?_, ?_, hb⟩
  · rw [advOn, if_neg (by rw [h]; exact hc)]; exact IsRecs.nil 16 _
  · rw [advOut, if_neg (by rw [h]; exact hc)]; exact IsRecs.nil 3 _

theorem info_anim : (Try.prog.info? 38).map (fun i => (i.zero, i.size, i.bytes)) = some (some (.agg #[.int .i64 0, .int .i64 0, .int .i64 0, .int .i64 0, .int .i64 0, .int .i64 0, .int .i64 0, .int .i64 0, .int .i64 0, .int .i64 0, .int .i64 0, .int .i64 0, .int .i64 0, .int .i64 0, .int .i64 0, .int .i64 0]), 16, 128) := by kernel_rfl
theorem info_motion : (Try.prog.info? 53).map (fun i => (i.zero, i.size, i.bytes)) = some (some (.agg #[.int .i64 0, .int .i64 0, .int .i64 0]), 3, 24) := by kernel_rfl

set_option maxHeartbeats 1000000 in
set_option maxRecDepth 100000 in
theorem advance_long (a : Option Addr) (n cap : Nat) (l : List Anim) (now : Int) (w : World) (HN : Hid (l.length = n)) (hn : 64 < n) (hm : n ≤ maxLen) :
    Calls Try.prog 30 #[.slice a n cap, .int .i64 now] w (Advanced l now w) := by
  unfold maxLen at hm
  have hn' : (64 : Int) < (n : Int) := by omega
  have HE : Hid (advErr l now = 2) := by show _ = _; rw [advErr, if_pos (by rw [HN.out]; exact hn)]
  go_enter Try.func30, Try.ntmps30
  go_wp2
  go_ret3
  exact Advanced.no HE.out (by omega) (Below.refl _ _)

theorem motion_wide (l : List Anim) (now : Int) : wide 3 (l.map (motionR now)) := by
  intro r hr
  obtain ⟨a, _, rfl⟩ := List.mem_map.1 hr
  rfl
theorem heap_alloc_at {w : World} {o : Obj} {n : Nat} (h : n = w.heap.size) : (w.alloc o).heap[n]? = some o := by subst h; exact heap_alloc_new w o
set_option maxHeartbeats 1000000 in
set_option maxRecDepth 100000 in
theorem adv_append {ops : Array Oper} {Q : Exit → Act → World → Prop} {t1 t2 t3 t4 : TypeId} {s1 s2 s3 s4 : String} {e1 e2 e3 e4 : Array Edge} {r0 r1 r2 r3 r4 r5 r6 r7 r8 r9 r10 r11 r12 r13 r14 r15 : Int} {u0 u1 u2 u3 u4 u5 u6 u7 u8 u9 u10 u11 u12 u13 u14 u16 u17 u18 u19 u20 u21 u22 u23 u24 u25 u26 u27 u28 u29 u30 u31 u32 u33 u34 u35 u36 u37 u38 u39 u40 u41 u42 u43 u44 u45 u46 u47 u48 u49 u50 u51 u52 u53 u54 u55 u56 u57 u58 u59 u60 u61 u62 u63 u64 u65 u66 u67 u68 u69 u70 u71 u73 u74 u75 u76 u77 u78 : Value} {w w2 : World} {N : Nat} (hNN : N ≤ 64) (HB : w.heap.size ≤ w2.heap.size) (xs : List Value) {i0 : TypeInfo} (hi0 : Try.prog.info? 38 = some i0) (hz0 : i0.zero = some (.agg #[.int .i64 0, .int .i64 0, .int .i64 0, .int .i64 0, .int .i64 0, .int .i64 0, .int .i64 0, .int .i64 0, .int .i64 0, .int .i64 0, .int .i64 0, .int .i64 0, .int .i64 0, .int .i64 0, .int .i64 0, .int .i64 0])) (hz1 : i0.size = 16) (hz2 : i0.bytes = 128)
   (HON3 : w2.ownsRow w.heap.size 38 16 u11 N xs) (HBA : AnimBlk (w2.alloc (.cells #[.int .i64 r0, .int .i64 r1, .int .i64 r2, .int .i64 r3, .int .i64 r4, .int .i64 r5, .int .i64 r6, .int .i64 r7, .int .i64 r8, .int .i64 r9, .int .i64 r10, .int .i64 r11, .int .i64 r12, .int .i64 r13, .int .i64 r14, .int .i64 r15] 38)) w2.heap.size 38 [.int .i64 r0, .int .i64 r1, .int .i64 r2, .int .i64 r3, .int .i64 r4, .int .i64 r5, .int .i64 r6, .int .i64 r7, .int .i64 r8, .int .i64 r9, .int .i64 r10, .int .i64 r11, .int .i64 r12, .int .i64 r13, .int .i64 r14, .int .i64 r15])
   (hQ : ∀ v' w3, w3.ownsRow w.heap.size 38 16 v' (N + 1) (xs ++ [.int .i64 r0, .int .i64 r1, .int .i64 r2, .int .i64 r3, .int .i64 r4, .int .i64 r5, .int .i64 r6, .int .i64 r7, .int .i64 r8, .int .i64 r9, .int .i64 r10, .int .i64 r11, .int .i64 r12, .int .i64 r13, .int .i64 r14, .int .i64 r15]) → ((w2.alloc (.cells #[.int .i64 r0, .int .i64 r1, .int .i64 r2, .int .i64 r3, .int .i64 r4, .int .i64 r5, .int .i64 r6, .int .i64 r7, .int .i64 r8, .int .i64 r9, .int .i64 r10, .int .i64 r11, .int .i64 r12, .int .i64 r13, .int .i64 r14, .int .i64 r15] 38)).alloc (.cells #[.int .i64 r0, .int .i64 r1, .int .i64 r2, .int .i64 r3, .int .i64 r4, .int .i64 r5, .int .i64 r6, .int .i64 r7, .int .i64 r8, .int .i64 r9, .int .i64 r10, .int .i64 r11, .int .i64 r12, .int .i64 r13, .int .i64 r14, .int .i64 r15] 38)).grownBy w3 u11.ownBlock → Q .normal ⟨#[u0, u1, u2, u3, u4, u5, u6, u7, u8, u9, u10, v', u12, u13, u14, .pointer (some ⟨w2.heap.size, 0, none⟩), u16, u17, u18, u19, u20, u21, u22, u23, u24, u25, u26, u27, u28, u29, u30, u31, u32, u33, u34, u35, u36, u37, u38, u39, u40, u41, u42, u43, u44, u45, u46, u47, u48, u49, u50, u51, u52, u53, u54, u55, u56, u57, u58, u59, u60, u61, u62, u63, u64, u65, u66, u67, u68, u69, u70, u71, u11, .agg #[.int .i64 r0, .int .i64 r1, .int .i64 r2, .int .i64 r3, .int .i64 r4, .int .i64 r5, .int .i64 r6, .int .i64 r7, .int .i64 r8, .int .i64 r9, .int .i64 r10, .int .i64 r11, .int .i64 r12, .int .i64 r13, .int .i64 r14, .int .i64 r15], .slice (some ⟨w2.heap.size + 1, 0, none⟩) 1 1, v', u76, u77, u78], []⟩ w3) :
   wpList Try.prog ops Q [⟨some 73, .load 38 (.tmp 15), t1, s1, e1, none⟩, ⟨some 74, .buildSlice 40 1 #[(0, .tmp 73)], t2, s2, e2, none⟩, ⟨some 75, .call { callee := .builtin .append, args := #[.tmp 72, .tmp 74], argTypes := #[40, 40] }, t3, s3, e3, none⟩, ⟨some 11, .assign (.tmp 75), t4, s4, e4, none⟩] ⟨#[u0, u1, u2, u3, u4, u5, u6, u7, u8, u9, u10, u11, u12, u13, u14, .pointer (some ⟨w2.heap.size, 0, none⟩), u16, u17, u18, u19, u20, u21, u22, u23, u24, u25, u26, u27, u28, u29, u30, u31, u32, u33, u34, u35, u36, u37, u38, u39, u40, u41, u42, u43, u44, u45, u46, u47, u48, u49, u50, u51, u52, u53, u54, u55, u56, u57, u58, u59, u60, u61, u62, u63, u64, u65, u66, u67, u68, u69, u70, u71, u11, u73, u74, u75, u76, u77, u78], []⟩ (w2.alloc (.cells #[.int .i64 r0, .int .i64 r1, .int .i64 r2, .int .i64 r3, .int .i64 r4, .int .i64 r5, .int .i64 r6, .int .i64 r7, .int .i64 r8, .int .i64 r9, .int .i64 r10, .int .i64 r11, .int .i64 r12, .int .i64 r13, .int .i64 r14, .int .i64 r15] 38)) := by
  have HQ := Lib.hid hQ
  clear hQ
  go_wp2_with (first | (refine load_anim rfl _ rfl w2.heap.size rfl _ _ HBA ?_) | (at_builtin; refine wpList_append_own _ rfl _ _ 40 rfl w.heap.size 38 i0 _ 16 128 Try.underlying40 hi0 hz0 hz1 hz2 rfl (by decide) _ N xs rfl ((HON3.alloc _).alloc _) ⟨w2.heap.size + 1, 0, none⟩ 1 1 [.int .i64 r0, .int .i64 r1, .int .i64 r2, .int .i64 r3, .int .i64 r4, .int .i64 r5, .int .i64 r6, .int .i64 r7, .int .i64 r8, .int .i64 r9, .int .i64 r10, .int .i64 r11, .int .i64 r12, .int .i64 r13, .int .i64 r14, .int .i64 r15] rfl rfl (World.news_of_block (cs := #[.int .i64 r0, .int .i64 r1, .int .i64 r2, .int .i64 r3, .int .i64 r4, .int .i64 r5, .int .i64 r6, .int .i64 r7, .int .i64 r8, .int .i64 r9, .int .i64 r10, .int .i64 r11, .int .i64 r12, .int .i64 r13, .int .i64 r14, .int .i64 r15]) (t := 38) (fr := (0, 0)) (heap_alloc_at (by simp))) (by simp [Value.oneCell']) (by unfold maxLen; omega) (by omega) (by simp; omega) ?_; intro v' w3 hown3 hgrow3 _))
  exact HQ.out v' w3 hown3 hgrow3

theorem onTo_succ {l : List Anim} {now : Int} {k : Nat} (h : k < l.length) : (l.take (k + 1)).filterMap (fun a => a.next now) = (l.take k).filterMap (fun a => a.next now) ++ (match (ga l k).next now with | none => [] | some r => [r]) := by
  rw [take_ga h, List.filterMap_append]
  congr 1
  cases hx : (ga l k).next now <;> simp [hx]
theorem outTo_succ {l : List Anim} {now : Int} {k : Nat} (h : k < l.length) : (l.take (k + 1)).map (motionR now) = (l.take k).map (motionR now) ++ [motionR now (ga l k)] := by
  rw [take_ga h, List.map_append]; rfl

set_option maxHeartbeats 8000000 in
set_option maxRecDepth 100000 in
theorem advance_in (v : Value) (l : List Anim) (now : Int) (w : World) (hv : IsAnims w v l) (hl : l.length ≤ 64) :
    Calls Try.prog 30 #[v, .int .i64 now] w (Advanced l now w) := by
  obtain ⟨i0, hi0, hz0, hz1, hz2⟩ := info_parts info_anim
  obtain ⟨m0, mi0, mz0, mz1, mz2⟩ := info_parts info_motion
  obtain ⟨a, cap, rfl, h1, h2, h3⟩ := hv.open_
  obtain ⟨n, hn⟩ : ∃ n, l.length = n := ⟨_, rfl⟩
  rw [hn] at h1 h3 hl ⊢
  have H3 := Lib.hid h3
  have HN := Lib.hid hn
  have hl' : (n : Int) ≤ 64 := by omega
  have HL0 : Hid (lateTo l now 0 = !btw now 0 1099511627776) := by show _ = _; simp [lateTo]
  clear h3 hn h2 hv
  go_enter Try.func30, Try.ntmps30
  go_wp2_with (go_at_call 39; refine (between_any _ _ _ _).mono ?_; rintro e w' ⟨rfl, rfl⟩)
  go_loopw [7, 25] (fun t i wr => ∃ k : Nat, k ≤ n ∧ i = .int .i64 k ∧ t = .bool (lateTo l now k) ∧ Hid (validTo l k) ∧ Below w.heap.size w wr) (fun _ i _ => n - (intOf i).toNat)
  case atStart => exact ⟨0, Nat.zero_le _, rfl, by rw [HL0.out], fun i hi => absurd hi (Nat.not_lt_zero _), Below.refl _ _⟩
  case round =>
    obtain ⟨k, hk, rfl, rfl, HV, hbl⟩ := hrel
    have HB := Lib.hid hbl
    by_cases hkn : k < n
    · skip
      obtain ⟨b, off, rfl, hlt, hcell⟩ := H3.out (by omega)
      have hoff := (hcell k hkn).kept hbl hlt
      obtain ⟨g, hg⟩ : ∃ g, ga l k = g := ⟨_, rfl⟩
      have HG := Lib.hid hg
      have HLs := Lib.hid (lateTo_succ (l := l) (now := now) (k := k) (by rw [HN.out]; exact hkn))
      rw [hg] at hoff HLs
      obtain ⟨q0, q1, q2, q3, q4, q5, q6, q7, q8, q9, q10, q11, q12, q13, q14, q15⟩ := g
      obtain ⟨c0, c1, c2, c3, c4, c5, c6, c7, c8, c9, c10, c11, c12, c13, c14, c15⟩ := hoff
      simp only at c0 c1 c2 c3 c4 c5 c6 c7 c8 c9 c10 c11 c12 c13 c14 c15
      clear hcell hbl hg
      by_cases he : (⟨q0, q1, q2, q3, q4, q5, q6, q7, q8, q9, q10, q11, q12, q13, q14, q15⟩ : Anim).err = 0
      · have HE := Lib.hid he
        have HVs : Hid (validTo l (k + 1)) := by
          intro i hi
          by_cases ci : i = k
          · subst ci; rw [HG.out]; exact HE.out
          · exact HV.out i (by omega)
        clear he
        have hB2 : ∀ w2 o, Below (wr.alloc o).heap.size (wr.alloc o) w2 → Below w.heap.size w w2 := fun w2 o hb => (HB.out.alloc HB.out.size _).trans (hb.mono (by have := HB.out.size; simp; omega))
        have HB2 := Lib.hid hB2
        have hbx := fun (w2 : World) (hb : Below (wr.alloc (.cells #[.int .i64 q0, .int .i64 q1, .int .i64 q2, .int .i64 q3, .int .i64 q4, .int .i64 q5, .int .i64 q6, .int .i64 q7, .int .i64 q8, .int .i64 q9, .int .i64 q10, .int .i64 q11, .int .i64 q12, .int .i64 q13, .int .i64 q14, .int .i64 q15] 38)).heap.size (wr.alloc (.cells #[.int .i64 q0, .int .i64 q1, .int .i64 q2, .int .i64 q3, .int .i64 q4, .int .i64 q5, .int .i64 q6, .int .i64 q7, .int .i64 q8, .int .i64 q9, .int .i64 q10, .int .i64 q11, .int .i64 q12, .int .i64 q13, .int .i64 q14, .int .i64 q15] 38)) w2) => (animAt_new wr q0 q1 q2 q3 q4 q5 q6 q7 q8 q9 q10 q11 q12 q13 q14 q15).kept hb (by simp)
        have HBX := Lib.hid hbx
        clear hB2 hbx
        cases hL : lateTo l now k with
        | true =>
          have HS : Hid (lateTo l now (k + 1) = true) := by show _ = _; rw [HLs.out, hL]; rfl
          clear hL
          as_aux_lemma =>
          go_wp2_with fail
          refine (Validate_any _ _ _ _ _ _ _ _ _ _ _ _ _ _ _ _ _).mono ?_
          rw [HE.out]
          rintro e w2 ⟨rfl, hb⟩
          have HBn := Lib.hid (HB2.out _ _ hb)
          clear hb
          go_wp2
          go_roundw
          case rel => exact ⟨k + 1, by omega, by go_num, by rw [HS.out], HVs, HBn.out⟩
          case measure => simp [intOf]; omega
        | false =>
          by_cases hk2 : q2 = 2
          · subst hk2
            by_cases hq : now < q15
            · have HS : Hid (lateTo l now (k + 1) = true) := by show _ = _; rw [HLs.out, hL]; simp [Anim.late, hq]
              clear hL
              as_aux_lemma =>
              go_wp2_with fail
              refine (Validate_any _ _ _ _ _ _ _ _ _ _ _ _ _ _ _ _ _).mono ?_
              rw [HE.out]
              rintro e w2 ⟨rfl, hb⟩
              obtain ⟨d0, d1, d2, d3, d4, d5, d6, d7, d8, d9, d10, d11, d12, d13, d14, d15⟩ := HBX.out _ hb
              have HBn := Lib.hid (HB2.out _ _ hb)
              clear hb
              go_wp2
              go_roundw
              case rel => exact ⟨k + 1, by omega, by go_num, by rw [HS.out], HVs, HBn.out⟩
              case measure => simp [intOf]; omega
            · have HS : Hid (lateTo l now (k + 1) = false) := by show _ = _; rw [HLs.out, hL]; simp [Anim.late]; omega
              clear hL
              as_aux_lemma =>
              go_wp2_with fail
              refine (Validate_any _ _ _ _ _ _ _ _ _ _ _ _ _ _ _ _ _).mono ?_
              rw [HE.out]
              rintro e w2 ⟨rfl, hb⟩
              obtain ⟨d0, d1, d2, d3, d4, d5, d6, d7, d8, d9, d10, d11, d12, d13, d14, d15⟩ := HBX.out _ hb
              have HBn := Lib.hid (HB2.out _ _ hb)
              clear hb
              go_wp2
              go_roundw
              case rel => exact ⟨k + 1, by omega, by go_num, by rw [HS.out]; simp; omega, HVs, HBn.out⟩
              case measure => simp [intOf]; omega
          · have HS : Hid (lateTo l now (k + 1) = false) := by show _ = _; rw [HLs.out, hL]; simp [Anim.late, hk2]
            have e2 : (q2 == 2) = false := by simpa using hk2
            clear hL hk2
            as_aux_lemma =>
            go_wp2_with fail
            refine (Validate_any _ _ _ _ _ _ _ _ _ _ _ _ _ _ _ _ _).mono ?_
            rw [HE.out]
            rintro e w2 ⟨rfl, hb⟩
            obtain ⟨d0, d1, d2, d3, d4, d5, d6, d7, d8, d9, d10, d11, d12, d13, d14, d15⟩ := HBX.out _ hb
            have HBn := Lib.hid (HB2.out _ _ hb)
            clear hb
            go_wp2
            go_roundw
            case rel => exact ⟨k + 1, by omega, by go_num, by rw [HS.out], HVs, HBn.out⟩
            case measure => simp [intOf]; omega
      · obtain ⟨E, hE⟩ : ∃ E, (⟨q0, q1, q2, q3, q4, q5, q6, q7, q8, q9, q10, q11, q12, q13, q14, q15⟩ : Anim).err = E := ⟨_, rfl⟩
        have HE := Lib.hid hE
        rw [hE] at he
        have HR : Hid (advErr l now = E) := by
          have e1 : firstErr l = E := by rw [firstErr_stop HV.out (by rw [HN.out]; exact hkn) (by rw [HG.out, HE.out]; exact he), HG.out, HE.out]
          show _ = _
          rw [advErr, if_neg (by rw [HN.out]; omega), e1, if_pos he]
        have HEn := Lib.hid he
        have e1 : (E == 0) = false := by simpa using he
        have e2 : (E != 0) = true := by simpa using he
        clear he hE
        as_aux_lemma =>
        go_wp2_with fail
        refine (Validate_any _ _ _ _ _ _ _ _ _ _ _ _ _ _ _ _ _).mono ?_
        rw [HE.out]
        rintro e w2 ⟨rfl, hb⟩
        have HBn : Hid (Below w.heap.size w w2) := (HB.out.alloc HB.out.size _).trans (hb.mono (by have := HB.out.size; simp; omega))
        clear hb
        go_wp2
        go_ret3
        exact Advanced.no HR.out HEn.out HBn.out
    · obtain rfl : k = n := by omega
      have hfe : firstErr l = 0 := firstErr_none (by rw [HN.out]; exact HV.out)
      have hll : lateTo l now k = lateL l now := by rw [← HN.out]; exact lateTo_all l now
      clear hbl
      cases hL : lateTo l now k with
      | true =>
        have HR : Hid (advErr l now = 1) := by show _ = _; rw [advErr, if_neg (by rw [HN.out]; omega), if_neg (by rw [hfe]; omega), ← hll, hL]; rfl
        clear hfe hll hL
        go_wp2
        go_ret3
        exact Advanced.no HR.out (by omega) HB.out
      | false =>
        have HR : Hid (advErr l now = 0) := by show _ = _; rw [advErr, if_neg (by rw [HN.out]; omega), if_neg (by rw [hfe]; omega), ← hll, hL]; rfl
        have hbt : btw now 0 1099511627776 = true := by
          rw [hll, lateL] at hL
          simp only [Bool.or_eq_false_iff] at hL
          simpa using hL.1
        have HBT := Lib.hid hbt
        clear hfe hll hL hbt
        obtain ⟨wo, rfl⟩ : ∃ wo : World, wo = wr := ⟨_, rfl⟩
        go_wp2_with fail
        go_loopw [11, 12, 50] (fun on out i wr => ∃ j : Nat, j ≤ k ∧ i = .int .i64 j ∧ wr.ownsRow w.heap.size 38 16 on ((l.take j).filterMap fun a => a.next now).length (recCells (((l.take j).filterMap fun a => a.next now).map recA)) ∧ wr.ownsRow w.heap.size 53 3 out j (recCells ((l.take j).map (motionR now))) ∧ Below w.heap.size w wr) (fun _ _ i _ => k - (intOf i).toNat)
        case atStart => exact ⟨0, Nat.zero_le _, rfl, World.ownsRow_nil _ _ _ _, World.ownsRow_nil _ _ _ _, HB.out⟩
        case round =>
          obtain ⟨j, hj, rfl, hon, hout, hbl⟩ := hrel
          have HON := Lib.hid hon
          have HOUT := Lib.hid hout
          have HB2 := Lib.hid hbl
          by_cases hjk : j < k
          · as_aux_lemma =>
            obtain ⟨b, off, rfl, hlt, hcell⟩ := H3.out (by omega)
            have hoff := (hcell j hjk).kept hbl hlt
            obtain ⟨g, hg⟩ : ∃ g, ga l j = g := ⟨_, rfl⟩
            have HG := Lib.hid hg
            have he : g.err = 0 := by rw [← hg]; exact HV.out j hjk
            have HOS := Lib.hid (onTo_succ (l := l) (now := now) (k := j) (by rw [HN.out]; exact hjk))
            have HTS := Lib.hid (outTo_succ (l := l) (now := now) (k := j) (by rw [HN.out]; exact hjk))
            rw [hg] at hoff HOS HTS
            obtain ⟨q0, q1, q2, q3, q4, q5, q6, q7, q8, q9, q10, q11, q12, q13, q14, q15⟩ := g
            obtain ⟨c0, c1, c2, c3, c4, c5, c6, c7, c8, c9, c10, c11, c12, c13, c14, c15⟩ := hoff
            simp only at c0 c1 c2 c3 c4 c5 c6 c7 c8 c9 c10 c11 c12 c13 c14 c15
            have HE := Lib.hid he
            clear hcell hbl hg hon hout he
            have hne : u12.ownBlock ≠ some wr.heap.size := fun e => by have := (HOUT.out.lt _ e).2; omega
            have HNe := Lib.hid hne
            have HOO := Lib.hid (ownsRow_ne HON.out HOUT.out (by decide))
            clear hne
            go_wp2_with fail
            go_region_held3 (fun w' => w'.cell? ⟨wr.heap.size, 0, none⟩ = some (.int .i64 q0) ∧ w'.cell? ⟨wr.heap.size, 1, none⟩ = some (.int .i64 q1) ∧ w'.cell? ⟨wr.heap.size, 2, none⟩ = some (.int .i64 q2) ∧ w'.cell? ⟨wr.heap.size, 3, none⟩ = some (.int .i64 q3) ∧ w'.cell? ⟨wr.heap.size, 4, none⟩ = some (.int .i64 q4) ∧ w'.cell? ⟨wr.heap.size, 5, none⟩ = some (.int .i64 q5) ∧ w'.cell? ⟨wr.heap.size, 6, none⟩ = some (.int .i64 q6) ∧ w'.cell? ⟨wr.heap.size, 7, none⟩ = some (.int .i64 q7) ∧ w'.cell? ⟨wr.heap.size, 8, none⟩ = some (.int .i64 q8) ∧ w'.cell? ⟨wr.heap.size, 9, none⟩ = some (.int .i64 q9) ∧ w'.cell? ⟨wr.heap.size, 10, none⟩ = some (.int .i64 q10) ∧ w'.cell? ⟨wr.heap.size, 11, none⟩ = some (.int .i64 q11) ∧ w'.cell? ⟨wr.heap.size, 12, none⟩ = some (.int .i64 q12) ∧ w'.cell? ⟨wr.heap.size, 13, none⟩ = some (.int .i64 q13) ∧ w'.cell? ⟨wr.heap.size, 14, none⟩ = some (.int .i64 q14) ∧ w'.cell? ⟨wr.heap.size, 15, none⟩ = some (.int .i64 q15) ∧ Below w.heap.size w w' ∧ wr.heap.size < w'.heap.size ∧ w'.ownsRow w.heap.size 38 16 u11 ((l.take j).filterMap fun a => a.next now).length (recCells (((l.take j).filterMap fun a => a.next now).map recA))) (first | (refine ⟨by go_simp, by go_simp, by go_simp, by go_simp, by go_simp, by go_simp, by go_simp, by go_simp, by go_simp, by go_simp, by go_simp, by go_simp, by go_simp, by go_simp, by go_simp, by go_simp, (HB2.out.alloc HB2.out.size _).drew, by simp, (HON.out.alloc _).drew⟩) | (go_split_ands; exact ⟨(hgrow.cell (by assumption) (Ne.symm HNe.out)), (hgrow.cell (by assumption) (Ne.symm HNe.out)), (hgrow.cell (by assumption) (Ne.symm HNe.out)), (hgrow.cell (by assumption) (Ne.symm HNe.out)), (hgrow.cell (by assumption) (Ne.symm HNe.out)), (hgrow.cell (by assumption) (Ne.symm HNe.out)), (hgrow.cell (by assumption) (Ne.symm HNe.out)), (hgrow.cell (by assumption) (Ne.symm HNe.out)), (hgrow.cell (by assumption) (Ne.symm HNe.out)), (hgrow.cell (by assumption) (Ne.symm HNe.out)), (hgrow.cell (by assumption) (Ne.symm HNe.out)), (hgrow.cell (by assumption) (Ne.symm HNe.out)), (hgrow.cell (by assumption) (Ne.symm HNe.out)), (hgrow.cell (by assumption) (Ne.symm HNe.out)), (hgrow.cell (by assumption) (Ne.symm HNe.out)), (hgrow.cell (by assumption) (Ne.symm HNe.out)), Below.grown (by assumption) hgrow (Below.size (by assumption)) (fun q hq => (HOUT.out.lt q hq).1), Nat.lt_of_lt_of_le (by assumption) hgrow.size, World.ownsRow.kept (by assumption) hgrow HOO.out⟩) | (go_split_ands; exact ⟨(World.cell?_alloc_lt _ _ ⟨wr.heap.size, 0, none⟩ (by assumption)).trans (by assumption), (World.cell?_alloc_lt _ _ ⟨wr.heap.size, 1, none⟩ (by assumption)).trans (by assumption), (World.cell?_alloc_lt _ _ ⟨wr.heap.size, 2, none⟩ (by assumption)).trans (by assumption), (World.cell?_alloc_lt _ _ ⟨wr.heap.size, 3, none⟩ (by assumption)).trans (by assumption), (World.cell?_alloc_lt _ _ ⟨wr.heap.size, 4, none⟩ (by assumption)).trans (by assumption), (World.cell?_alloc_lt _ _ ⟨wr.heap.size, 5, none⟩ (by assumption)).trans (by assumption), (World.cell?_alloc_lt _ _ ⟨wr.heap.size, 6, none⟩ (by assumption)).trans (by assumption), (World.cell?_alloc_lt _ _ ⟨wr.heap.size, 7, none⟩ (by assumption)).trans (by assumption), (World.cell?_alloc_lt _ _ ⟨wr.heap.size, 8, none⟩ (by assumption)).trans (by assumption), (World.cell?_alloc_lt _ _ ⟨wr.heap.size, 9, none⟩ (by assumption)).trans (by assumption), (World.cell?_alloc_lt _ _ ⟨wr.heap.size, 10, none⟩ (by assumption)).trans (by assumption), (World.cell?_alloc_lt _ _ ⟨wr.heap.size, 11, none⟩ (by assumption)).trans (by assumption), (World.cell?_alloc_lt _ _ ⟨wr.heap.size, 12, none⟩ (by assumption)).trans (by assumption), (World.cell?_alloc_lt _ _ ⟨wr.heap.size, 13, none⟩ (by assumption)).trans (by assumption), (World.cell?_alloc_lt _ _ ⟨wr.heap.size, 14, none⟩ (by assumption)).trans (by assumption), (World.cell?_alloc_lt _ _ ⟨wr.heap.size, 15, none⟩ (by assumption)).trans (by assumption), Below.alloc (by assumption) (Below.size (by assumption)) _, by simp; omega, World.ownsRow.alloc (by assumption) _⟩) | (go_split_ands; exact ⟨(hb'.cell (p := ⟨wr.heap.size, 0, none⟩) (by assumption)).trans (by assumption), (hb'.cell (p := ⟨wr.heap.size, 1, none⟩) (by assumption)).trans (by assumption), (hb'.cell (p := ⟨wr.heap.size, 2, none⟩) (by assumption)).trans (by assumption), (hb'.cell (p := ⟨wr.heap.size, 3, none⟩) (by assumption)).trans (by assumption), (hb'.cell (p := ⟨wr.heap.size, 4, none⟩) (by assumption)).trans (by assumption), (hb'.cell (p := ⟨wr.heap.size, 5, none⟩) (by assumption)).trans (by assumption), (hb'.cell (p := ⟨wr.heap.size, 6, none⟩) (by assumption)).trans (by assumption), (hb'.cell (p := ⟨wr.heap.size, 7, none⟩) (by assumption)).trans (by assumption), (hb'.cell (p := ⟨wr.heap.size, 8, none⟩) (by assumption)).trans (by assumption), (hb'.cell (p := ⟨wr.heap.size, 9, none⟩) (by assumption)).trans (by assumption), (hb'.cell (p := ⟨wr.heap.size, 10, none⟩) (by assumption)).trans (by assumption), (hb'.cell (p := ⟨wr.heap.size, 11, none⟩) (by assumption)).trans (by assumption), (hb'.cell (p := ⟨wr.heap.size, 12, none⟩) (by assumption)).trans (by assumption), (hb'.cell (p := ⟨wr.heap.size, 13, none⟩) (by assumption)).trans (by assumption), (hb'.cell (p := ⟨wr.heap.size, 14, none⟩) (by assumption)).trans (by assumption), (hb'.cell (p := ⟨wr.heap.size, 15, none⟩) (by assumption)).trans (by assumption), Below.trans (by assumption) (hb'.mono (Below.size (by assumption))), Nat.lt_of_lt_of_le (by assumption) hb'.size, ownsRow_below (by assumption) hb'⟩)) (first | (go_at_call 24; refine (Value_any _ _ _ _ _ _ _ _ _ _ _ _ _ _ _ _ _ _).mono ?_; rintro e w' ⟨rfl, hb'⟩) | (refine step_append_lies _ (by rfl) _ _ _ (by rfl) w.heap.size 53 m0 _ 3 24 Try.underlying45 mi0 mz0 mz1 mz2 rfl (by omega) _ j (recCells ((l.take j).map (motionR now))) (by rfl) ((ownsRow_below ((HOUT.out.alloc _).drew) hb').alloc _) ⟨w'.heap.size, 0, none⟩ 1 1 [.int .i64 q0, .int .i64 q1, .int .i64 ((⟨q0, q1, q2, q3, q4, q5, q6, q7, q8, q9, q10, q11, q12, q13, q14, q15⟩ : Anim).value now)] (by rfl) (by rfl) (World.news_of_block (cs := #[.int .i64 q0, .int .i64 q1, .int .i64 ((⟨q0, q1, q2, q3, q4, q5, q6, q7, q8, q9, q10, q11, q12, q13, q14, q15⟩ : Anim).value now)]) (t := 53) (fr := (0, 0)) (heap_alloc_new w' _)) (by simp [Value.oneCell']) (by omega) (by unfold maxLen; omega) (by omega) (by have h1 := hb'.size; have h2 := HB2.out.size; simp at h1 ⊢; omega) (w'.heap.size + 1) (by simp) ?_; intro gg cap' w1 hown1 hgrow hat hlt1))
            go_split_ands
            rename_i s0 s1 s2 s3 s4 s5 s6 s7 s8 s9 s10 s11 s12 s13 s14 s15 s16 s17 s18
            have hB1 : Below w.heap.size w w1 := s16
            have hon1 : w1.ownsRow w.heap.size 38 16 u11 ((l.take j).filterMap fun a => a.next now).length (recCells (((l.take j).filterMap fun a => a.next now).map recA)) := s18
            have hout1 : w1.ownsRow w.heap.size 53 3 (.slice (some ⟨gg, 0, none⟩) (j + 1) cap') (j + 1) (recCells ((l.take (j + 1)).map (motionR now))) := by
              rw [HTS.out, recCells_append]; exact hown1
            have HB3 := Lib.hid hB1
            have HON1 := Lib.hid hon1
            have HOUT1 := Lib.hid hout1
            clear hown1 hgrow hat hlt1 hB1 hon1 hout1 s16 s17 s18
            as_aux_lemma =>
            go_wp2_with fail
            refine (next_flat _ _ _ _ _ _ _ _ _ _ _ _ _ _ _ _ _ _ HE.out HBT.out).mono ?_
            rintro e w2 ⟨r0, r1, r2, r3, r4, r5, r6, r7, r8, r9, r10, r11, r12, r13, r14, r15, g, rfl, hnx, hb2⟩
            have HB4 := Lib.hid (HB3.out.trans (hb2.mono HB3.out.size))
            have HON2 := Lib.hid (ownsRow_below HON1.out hb2)
            have HOUT2 := Lib.hid (ownsRow_below HOUT1.out hb2)
            clear s0 s1 s2 s3 s4 s5 s6 s7 s8 s9 s10 s11 s12 s13 s14 s15 c0 c1 c2 c3 c4 c5 c6 c7 c8 c9 c10 c11 c12 c13 c14 c15
            cases g with
            | false =>
              as_aux_lemma =>
              have HX : Hid ((l.take (j + 1)).filterMap (fun a => a.next now) = (l.take j).filterMap (fun a => a.next now)) := by
                have hx2 := HOS.out
                rw [hnx] at hx2
                show _ = _
                simpa using hx2
              clear hb2 hnx
              go_wp2
              go_roundw
              case rel => exact ⟨j + 1, by omega, by go_num, by rw [HX.out]; exact HON2.out.alloc _, HOUT2.out.alloc _, HB4.out.alloc HB4.out.size _⟩
              case measure => simp [intOf]; omega
            | true =>
              as_aux_lemma =>
              have HX : Hid ((l.take (j + 1)).filterMap (fun a => a.next now) = (l.take j).filterMap (fun a => a.next now) ++ [⟨r0, r1, r2, r3, r4, r5, r6, r7, r8, r9, r10, r11, r12, r13, r14, r15⟩]) := by
                have hx2 := HOS.out
                rw [hnx] at hx2
                show _ = _
                simpa using hx2
              have hlen : ((l.take j).filterMap (fun a => a.next now)).length ≤ 64 := by
                have h1 := List.length_filterMap_le (fun a : Anim => a.next now) (l.take j)
                have h2 : (l.take j).length ≤ j := List.length_take_le _ _
                omega
              obtain ⟨N, hN⟩ : ∃ N, ((l.take j).filterMap (fun a => a.next now)).length = N := ⟨_, rfl⟩
              rw [hN] at hlen
              have HNn := Lib.hid hN
              have HON3 : Hid (w2.ownsRow w.heap.size 38 16 u11 N (recCells (((l.take j).filterMap fun a => a.next now).map recA))) := by have := HON2.out; rwa [hN] at this
              clear hb2 hnx hN
              have HBA : Hid (AnimBlk (w2.alloc (.cells #[.int .i64 r0, .int .i64 r1, .int .i64 r2, .int .i64 r3, .int .i64 r4, .int .i64 r5, .int .i64 r6, .int .i64 r7, .int .i64 r8, .int .i64 r9, .int .i64 r10, .int .i64 r11, .int .i64 r12, .int .i64 r13, .int .i64 r14, .int .i64 r15] 38)) w2.heap.size 38 [.int .i64 r0, .int .i64 r1, .int .i64 r2, .int .i64 r3, .int .i64 r4, .int .i64 r5, .int .i64 r6, .int .i64 r7, .int .i64 r8, .int .i64 r9, .int .i64 r10, .int .i64 r11, .int .i64 r12, .int .i64 r13, .int .i64 r14, .int .i64 r15]) := animBlk_new w2 [.int .i64 r0, .int .i64 r1, .int .i64 r2, .int .i64 r3, .int .i64 r4, .int .i64 r5, .int .i64 r6, .int .i64 r7, .int .i64 r8, .int .i64 r9, .int .i64 r10, .int .i64 r11, .int .i64 r12, .int .i64 r13, .int .i64 r14, .int .i64 r15] _ rfl
              go_wp2_with (refine adv_append (w := w) hlen HB4.out.size (recCells (((l.take j).filterMap fun a => a.next now).map recA)) hi0 hz0 hz1 hz2 HON3.out HBA.out ?_; intro v' w3 hown3 hgrow3; have HOWN := Lib.hid hown3; have HGROW := Lib.hid hgrow3; clear hown3 hgrow3)
              have HON4 : Hid (w3.ownsRow w.heap.size 38 16 v' ((l.take (j + 1)).filterMap fun a => a.next now).length (recCells (((l.take (j + 1)).filterMap fun a => a.next now).map recA))) := by
                show World.ownsRow _ _ _ _ _ _ _
                rw [HX.out, List.length_append, HNn.out, List.map_append, recCells_append]; exact HOWN.out
              have HOUT4 : Hid (w3.ownsRow w.heap.size 53 3 (.slice (some ⟨gg, 0, none⟩) (j + 1) cap') (j + 1) (recCells ((l.take (j + 1)).map (motionR now)))) :=
                ((HOUT2.out.alloc _).alloc _).kept HGROW.out (ownsRow_ne HOUT2.out HON3.out (by decide))
              have HB5 : Hid (Below w.heap.size w w3) := ((HB4.out.alloc HB4.out.size _).alloc (by have := HB4.out.size; simp; omega) _).grown HGROW.out (by have := HB4.out.size; simp; omega) (fun q hq => (HON3.out.lt q hq).1)
              go_roundw
              case rel => exact ⟨j + 1, by omega, by go_num, HON4.out, HOUT4.out, HB5.out⟩
              case measure => simp [intOf]; omega
          · obtain rfl : j = k := by omega
            have e0 : l.take j = l := by rw [← HN.out]; exact List.take_length
            have hAn : IsAnims wr u11 (advOn l now) := by
              rw [advOn, if_pos HR.out]
              rw [e0] at hon
              exact ownsRow_isRecs hon (by simp) (recA_wide _)
            have hMo : IsRecs 3 wr u12 (advOut l now) := by
              rw [advOut, if_pos HR.out]
              rw [e0] at hout
              exact ownsRow_isRecs hout (by simp; exact HN.out.symm) (motion_wide _ _)
            have HAn := Lib.hid hAn
            have HMo := Lib.hid hMo
            clear hon hout hbl hAn hMo e0
            go_wp2
            go_ret3
            exact ⟨_, _, by rw [HR.out]; rfl, HAn.out, HMo.out, HB2.out⟩

theorem advance_any (v : Value) (l : List Anim) (now : Int) (w : World) (hv : IsAnims w v l) :
    Calls Try.prog 30 #[v, .int .i64 now] w (Advanced l now w) := by
  by_cases hl : l.length ≤ 64
  · exact advance_in v l now w hv hl
  · obtain ⟨a, cap, rfl, h1, h2, _⟩ := hv.open_
    exact advance_long a _ cap l now w rfl (by omega) (by omega)
end Go.Proofs.Ytfcffmjmohkpoaa
