/- Advance of the reference: it leaves what the program's leaves (printed by wip/gen_radv.py). -/
import Derived.Test.YtfcffmjmohkpoaaAdvance
import Derived.Test.YtfcffmjmohkpoaaValidR
import Derived.Test.YtfcffmjmohkpoaaValueR
import Derived.Test.YtfcffmjmohkpoaaTail
import Derived.Test.YtfcffmjmohkpoaaSrc
namespace Go.Proofs.Ytfcffmjmohkpoaa
open Go.RowKit Go.Joins
set_option linter.unusedVariables false
set_option linter.unusedSimpArgs false
theorem row_blk_ne {w : World} {base B : Nat} {e t : TypeId} {s n : Nat} {v : Value} {xs : List Value} {cs : Array Value} (h : w.ownsRow base e s v n xs) (hb : w.heap[B]? = some (.cells cs t (0, 0))) (hne : e ≠ t) : v.ownBlock ≠ some B := by
  rcases h.2 with ⟨rfl, _⟩ | ⟨g, cap, cur, rfl, _, hg, _⟩
  · intro h0; cases h0
  · intro h0
    have h1 : g = B := by simpa [Value.ownBlock] using h0
    subst h1
    rw [hb] at hg
    injection hg with h2
    injection h2 with _ h3
    exact hne h3.symm

set_option maxHeartbeats 1000000 in
set_option maxRecDepth 100000 in
theorem radv_append87 {ops : Array Oper} {Q : Exit → Act → World → Prop} {t1 t2 t3 t4 : TypeId} {s1 s2 s3 s4 : String} {e1 e2 e3 e4 : Array Edge} {r0 r1 r2 r3 r4 r5 r6 r7 r8 r9 r10 r11 r12 r13 r14 r15 : Int} {u0 u1 u2 u3 u4 u5 u6 u7 u8 u9 u10 u11 u12 u14 u15 u16 u17 u18 u19 u20 u21 u22 u23 u24 u25 u26 u27 u28 u29 u30 u31 u32 u33 u34 u35 u36 u37 u38 u39 u40 u41 u42 u43 u44 u45 u46 u47 u48 u49 u50 u51 u52 u53 u54 u55 u56 u57 u58 u59 u60 u61 u62 u63 u64 u65 u66 u67 u68 u69 u70 u71 u72 u73 u74 u75 u76 u77 u78 u79 u80 u81 u82 u83 u84 u85 u87 u88 u89 u90 u91 u92 u93 u94 u95 u96 u97 u98 u99 u100 u101 u102 u103 u104 u105 u106 u107 u108 u109 u110 u111 u112 u113 u114 u115 u116 u117 u118 u119 u120 u121 u122 u123 : Value} {w w2 : World} {N A0 : Nat} (hNN : N ≤ 64) (HB : w.heap.size ≤ w2.heap.size) (xs : List Value) {i0 : TypeInfo} (hi0 : Try.prog.info? 38 = some i0) (hz0 : i0.zero = some (.agg #[.int .i64 0, .int .i64 0, .int .i64 0, .int .i64 0, .int .i64 0, .int .i64 0, .int .i64 0, .int .i64 0, .int .i64 0, .int .i64 0, .int .i64 0, .int .i64 0, .int .i64 0, .int .i64 0, .int .i64 0, .int .i64 0])) (hz1 : i0.size = 16) (hz2 : i0.bytes = 128)
   (HON3 : w2.ownsRow w.heap.size 38 16 u10 N xs) (HBA : AnimBlk w2 A0 38 [.int .i64 r0, .int .i64 r1, .int .i64 r2, .int .i64 r3, .int .i64 r4, .int .i64 r5, .int .i64 r6, .int .i64 r7, .int .i64 r8, .int .i64 r9, .int .i64 r10, .int .i64 r11, .int .i64 r12, .int .i64 r13, .int .i64 r14, .int .i64 r15])
   (hQ : ∀ v' w3, w3.ownsRow w.heap.size 38 16 v' (N + 1) (xs ++ [.int .i64 r0, .int .i64 r1, .int .i64 r2, .int .i64 r3, .int .i64 r4, .int .i64 r5, .int .i64 r6, .int .i64 r7, .int .i64 r8, .int .i64 r9, .int .i64 r10, .int .i64 r11, .int .i64 r12, .int .i64 r13, .int .i64 r14, .int .i64 r15]) → (w2.alloc (.cells #[.int .i64 r0, .int .i64 r1, .int .i64 r2, .int .i64 r3, .int .i64 r4, .int .i64 r5, .int .i64 r6, .int .i64 r7, .int .i64 r8, .int .i64 r9, .int .i64 r10, .int .i64 r11, .int .i64 r12, .int .i64 r13, .int .i64 r14, .int .i64 r15] 38)).grownBy w3 u10.ownBlock → Q .normal ⟨#[u0, u1, u2, u3, u4, u5, u6, u7, u8, u9, v', u11, u12, .pointer (some ⟨A0, 0, none⟩), u14, u15, u16, u17, u18, u19, u20, u21, u22, u23, u24, u25, u26, u27, u28, u29, u30, u31, u32, u33, u34, u35, u36, u37, u38, u39, u40, u41, u42, u43, u44, u45, u46, u47, u48, u49, u50, u51, u52, u53, u54, u55, u56, u57, u58, u59, u60, u61, u62, u63, u64, u65, u66, u67, u68, u69, u70, u71, u72, u73, u74, u75, u76, u77, u78, u79, u80, u81, u82, u83, u84, u85, u10, .agg #[.int .i64 r0, .int .i64 r1, .int .i64 r2, .int .i64 r3, .int .i64 r4, .int .i64 r5, .int .i64 r6, .int .i64 r7, .int .i64 r8, .int .i64 r9, .int .i64 r10, .int .i64 r11, .int .i64 r12, .int .i64 r13, .int .i64 r14, .int .i64 r15], .slice (some ⟨w2.heap.size, 0, none⟩) 1 1, v', u90, u91, u92, u93, u94, u95, u96, u97, u98, u99, u100, u101, u102, u103, u104, u105, u106, u107, u108, u109, u110, u111, u112, u113, u114, u115, u116, u117, u118, u119, u120, u121, u122, u123], []⟩ w3) :
   wpList Try.prog ops Q [⟨some 87, .load 38 (.tmp 13), t1, s1, e1, none⟩, ⟨some 88, .buildSlice 40 1 #[(0, .tmp 87)], t2, s2, e2, none⟩, ⟨some 89, .call { callee := .builtin .append, args := #[.tmp 86, .tmp 88], argTypes := #[40, 40] }, t3, s3, e3, none⟩, ⟨some 10, .assign (.tmp 89), t4, s4, e4, none⟩] ⟨#[u0, u1, u2, u3, u4, u5, u6, u7, u8, u9, u10, u11, u12, .pointer (some ⟨A0, 0, none⟩), u14, u15, u16, u17, u18, u19, u20, u21, u22, u23, u24, u25, u26, u27, u28, u29, u30, u31, u32, u33, u34, u35, u36, u37, u38, u39, u40, u41, u42, u43, u44, u45, u46, u47, u48, u49, u50, u51, u52, u53, u54, u55, u56, u57, u58, u59, u60, u61, u62, u63, u64, u65, u66, u67, u68, u69, u70, u71, u72, u73, u74, u75, u76, u77, u78, u79, u80, u81, u82, u83, u84, u85, u10, u87, u88, u89, u90, u91, u92, u93, u94, u95, u96, u97, u98, u99, u100, u101, u102, u103, u104, u105, u106, u107, u108, u109, u110, u111, u112, u113, u114, u115, u116, u117, u118, u119, u120, u121, u122, u123], []⟩ w2 := by
  have HQ := Lib.hid hQ
  clear hQ
  go_wp2_with (first | (refine load_anim rfl _ rfl A0 rfl _ _ HBA ?_) | (at_builtin; refine wpList_append_own _ rfl _ _ 40 rfl w.heap.size 38 i0 _ 16 128 Try.underlying40 hi0 hz0 hz1 hz2 rfl (by decide) _ N xs rfl (HON3.alloc _) ⟨w2.heap.size, 0, none⟩ 1 1 [.int .i64 r0, .int .i64 r1, .int .i64 r2, .int .i64 r3, .int .i64 r4, .int .i64 r5, .int .i64 r6, .int .i64 r7, .int .i64 r8, .int .i64 r9, .int .i64 r10, .int .i64 r11, .int .i64 r12, .int .i64 r13, .int .i64 r14, .int .i64 r15] rfl rfl (World.news_of_block (cs := #[.int .i64 r0, .int .i64 r1, .int .i64 r2, .int .i64 r3, .int .i64 r4, .int .i64 r5, .int .i64 r6, .int .i64 r7, .int .i64 r8, .int .i64 r9, .int .i64 r10, .int .i64 r11, .int .i64 r12, .int .i64 r13, .int .i64 r14, .int .i64 r15]) (t := 38) (fr := (0, 0)) (heap_alloc_at rfl)) (by simp [Value.oneCell']) (by unfold maxLen; omega) (by omega) (by simp; omega) ?_; intro v' w3 hown3 hgrow3 _))
  exact HQ.out v' w3 hown3 hgrow3

set_option maxHeartbeats 1000000 in
set_option maxRecDepth 100000 in
theorem radv_append119 {ops : Array Oper} {Q : Exit → Act → World → Prop} {t1 t2 t3 t4 : TypeId} {s1 s2 s3 s4 : String} {e1 e2 e3 e4 : Array Edge} {r0 r1 r2 r3 r4 r5 r6 r7 r8 r9 r10 r11 r12 r13 r14 r15 : Int} {u0 u1 u2 u3 u4 u5 u6 u7 u8 u9 u10 u11 u12 u14 u15 u16 u17 u18 u19 u20 u21 u22 u23 u24 u25 u26 u27 u28 u29 u30 u31 u32 u33 u34 u35 u36 u37 u38 u39 u40 u41 u42 u43 u44 u45 u46 u47 u48 u49 u50 u51 u52 u53 u54 u55 u56 u57 u58 u59 u60 u61 u62 u63 u64 u65 u66 u67 u68 u69 u70 u71 u72 u73 u74 u75 u76 u77 u78 u79 u80 u81 u82 u83 u84 u85 u86 u87 u88 u89 u90 u91 u92 u93 u94 u95 u96 u97 u98 u99 u100 u101 u102 u103 u104 u105 u106 u107 u108 u109 u110 u111 u112 u113 u114 u115 u116 u117 u119 u120 u121 u122 u123 : Value} {w w2 : World} {N A0 : Nat} (hNN : N ≤ 64) (HB : w.heap.size ≤ w2.heap.size) (xs : List Value) {i0 : TypeInfo} (hi0 : Try.prog.info? 38 = some i0) (hz0 : i0.zero = some (.agg #[.int .i64 0, .int .i64 0, .int .i64 0, .int .i64 0, .int .i64 0, .int .i64 0, .int .i64 0, .int .i64 0, .int .i64 0, .int .i64 0, .int .i64 0, .int .i64 0, .int .i64 0, .int .i64 0, .int .i64 0, .int .i64 0])) (hz1 : i0.size = 16) (hz2 : i0.bytes = 128)
   (HON3 : w2.ownsRow w.heap.size 38 16 u10 N xs) (HBA : AnimBlk w2 A0 38 [.int .i64 r0, .int .i64 r1, .int .i64 r2, .int .i64 r3, .int .i64 r4, .int .i64 r5, .int .i64 r6, .int .i64 r7, .int .i64 r8, .int .i64 r9, .int .i64 r10, .int .i64 r11, .int .i64 r12, .int .i64 r13, .int .i64 r14, .int .i64 r15])
   (hQ : ∀ v' w3, w3.ownsRow w.heap.size 38 16 v' (N + 1) (xs ++ [.int .i64 r0, .int .i64 r1, .int .i64 r2, .int .i64 r3, .int .i64 r4, .int .i64 r5, .int .i64 r6, .int .i64 r7, .int .i64 r8, .int .i64 r9, .int .i64 r10, .int .i64 r11, .int .i64 r12, .int .i64 r13, .int .i64 r14, .int .i64 r15]) → (w2.alloc (.cells #[.int .i64 r0, .int .i64 r1, .int .i64 r2, .int .i64 r3, .int .i64 r4, .int .i64 r5, .int .i64 r6, .int .i64 r7, .int .i64 r8, .int .i64 r9, .int .i64 r10, .int .i64 r11, .int .i64 r12, .int .i64 r13, .int .i64 r14, .int .i64 r15] 38)).grownBy w3 u10.ownBlock → Q .normal ⟨#[u0, u1, u2, u3, u4, u5, u6, u7, u8, u9, v', u11, u12, .pointer (some ⟨A0, 0, none⟩), u14, u15, u16, u17, u18, u19, u20, u21, u22, u23, u24, u25, u26, u27, u28, u29, u30, u31, u32, u33, u34, u35, u36, u37, u38, u39, u40, u41, u42, u43, u44, u45, u46, u47, u48, u49, u50, u51, u52, u53, u54, u55, u56, u57, u58, u59, u60, u61, u62, u63, u64, u65, u66, u67, u68, u69, u70, u71, u72, u73, u74, u75, u76, u77, u78, u79, u80, u81, u82, u83, u84, u85, u86, u87, u88, u89, u90, u91, u92, u93, u94, u95, u96, u97, u98, u99, u100, u101, u102, u103, u104, u105, u106, u107, u108, u109, u110, u111, u112, u113, u114, u115, u116, u117, u10, .agg #[.int .i64 r0, .int .i64 r1, .int .i64 r2, .int .i64 r3, .int .i64 r4, .int .i64 r5, .int .i64 r6, .int .i64 r7, .int .i64 r8, .int .i64 r9, .int .i64 r10, .int .i64 r11, .int .i64 r12, .int .i64 r13, .int .i64 r14, .int .i64 r15], .slice (some ⟨w2.heap.size, 0, none⟩) 1 1, v', u122, u123], []⟩ w3) :
   wpList Try.prog ops Q [⟨some 119, .load 38 (.tmp 13), t1, s1, e1, none⟩, ⟨some 120, .buildSlice 40 1 #[(0, .tmp 119)], t2, s2, e2, none⟩, ⟨some 121, .call { callee := .builtin .append, args := #[.tmp 118, .tmp 120], argTypes := #[40, 40] }, t3, s3, e3, none⟩, ⟨some 10, .assign (.tmp 121), t4, s4, e4, none⟩] ⟨#[u0, u1, u2, u3, u4, u5, u6, u7, u8, u9, u10, u11, u12, .pointer (some ⟨A0, 0, none⟩), u14, u15, u16, u17, u18, u19, u20, u21, u22, u23, u24, u25, u26, u27, u28, u29, u30, u31, u32, u33, u34, u35, u36, u37, u38, u39, u40, u41, u42, u43, u44, u45, u46, u47, u48, u49, u50, u51, u52, u53, u54, u55, u56, u57, u58, u59, u60, u61, u62, u63, u64, u65, u66, u67, u68, u69, u70, u71, u72, u73, u74, u75, u76, u77, u78, u79, u80, u81, u82, u83, u84, u85, u86, u87, u88, u89, u90, u91, u92, u93, u94, u95, u96, u97, u98, u99, u100, u101, u102, u103, u104, u105, u106, u107, u108, u109, u110, u111, u112, u113, u114, u115, u116, u117, u10, u119, u120, u121, u122, u123], []⟩ w2 := by
  have HQ := Lib.hid hQ
  clear hQ
  go_wp2_with (first | (refine load_anim rfl _ rfl A0 rfl _ _ HBA ?_) | (at_builtin; refine wpList_append_own _ rfl _ _ 40 rfl w.heap.size 38 i0 _ 16 128 Try.underlying40 hi0 hz0 hz1 hz2 rfl (by decide) _ N xs rfl (HON3.alloc _) ⟨w2.heap.size, 0, none⟩ 1 1 [.int .i64 r0, .int .i64 r1, .int .i64 r2, .int .i64 r3, .int .i64 r4, .int .i64 r5, .int .i64 r6, .int .i64 r7, .int .i64 r8, .int .i64 r9, .int .i64 r10, .int .i64 r11, .int .i64 r12, .int .i64 r13, .int .i64 r14, .int .i64 r15] rfl rfl (World.news_of_block (cs := #[.int .i64 r0, .int .i64 r1, .int .i64 r2, .int .i64 r3, .int .i64 r4, .int .i64 r5, .int .i64 r6, .int .i64 r7, .int .i64 r8, .int .i64 r9, .int .i64 r10, .int .i64 r11, .int .i64 r12, .int .i64 r13, .int .i64 r14, .int .i64 r15]) (t := 38) (fr := (0, 0)) (heap_alloc_at rfl)) (by simp [Value.oneCell']) (by unfold maxLen; omega) (by omega) (by simp; omega) ?_; intro v' w3 hown3 hgrow3 _))
  exact HQ.out v' w3 hown3 hgrow3

set_option maxHeartbeats 1000000 in
set_option maxRecDepth 100000 in
theorem radvance_long (a : Option Addr) (n cap : Nat) (l : List Anim) (now : Int) (w : World) (HN : Hid (l.length = n)) (hn : 64 < n) (hm : n ≤ maxLen) :
    Calls Try.prog 35 #[.slice a n cap, .int .i64 now] w (Advanced l now w) := by
  unfold maxLen at hm
  have hn' : (64 : Int) < (n : Int) := by omega
  have HE : Hid (advErr l now = 2) := by show _ = _; rw [advErr, if_pos (by rw [HN.out]; exact hn)]
  go_enter Try.func35, Try.ntmps35
  go_wp2
  go_ret3
  exact Advanced.no HE.out (by omega) (Below.refl _ _)

set_option maxHeartbeats 16000000 in
set_option maxRecDepth 100000 in
theorem radvance_in (v : Value) (l : List Anim) (now : Int) (w : World) (hv : IsAnims w v l) (hl : l.length ≤ 64) :
    Calls Try.prog 35 #[v, .int .i64 now] w (Advanced l now w) := by
  obtain ⟨i0, hi0, hz0, hz1, hz2⟩ := info_parts info_anim
  obtain ⟨m0, mi0, mz0, mz1, mz2⟩ := info_parts info_motion
  obtain ⟨a, cap, rfl, h1, h2, h3⟩ := hv.open_
  obtain ⟨n, hn⟩ : ∃ n, l.length = n := ⟨_, rfl⟩
  rw [hn] at h1 h3 hl ⊢
  have H3 := Lib.hid h3
  have HN := Lib.hid hn
  have hl' : (n : Int) ≤ 64 := by omega
  have HL0 : Hid (lateTo l now 0 = !btw now 0 1099511627776) := by show _ = _; simp [lateTo]
  clear h3 hn h2 hv
  go_enter Try.func35, Try.ntmps35
  go_wp2_with (go_at_call 45; refine (rin_any _ _ _ _).mono ?_; rintro e w' ⟨rfl, rfl⟩)
  go_loopw [7, 8] (fun t i wr => ∃ k : Nat, k ≤ n ∧ i = .int .i64 k ∧ t = .bool (lateTo l now k) ∧ Hid (validTo l k) ∧ Below w.heap.size w wr) (fun _ i _ => n - (intOf i).toNat)
  case atStart => exact ⟨0, Nat.zero_le _, rfl, by rw [HL0.out], fun i hi => absurd hi (Nat.not_lt_zero _), Below.refl _ _⟩
  case round =>
    obtain ⟨k, hk, rfl, rfl, HV, hbl⟩ := hrel
    have HB := Lib.hid hbl
    by_cases hkn : k < n
    ·
      as_aux_lemma =>
        obtain ⟨b, off, rfl, hlt, hcell⟩ := H3.out (by omega)
        have HLT := Lib.hid hlt
        have hoff := (hcell k hkn).kept hbl hlt
        have hkn' : (k : Int) < (n : Int) := by omega
        have hk0 : (0 : Int) ≤ (k : Int) := by omega
        obtain ⟨g, hg⟩ : ∃ g, ga l k = g := ⟨_, rfl⟩
        have HG := Lib.hid hg
        have HLs := Lib.hid (lateTo_succ (l := l) (now := now) (k := k) (by rw [HN.out]; exact hkn))
        rw [hg] at hoff HLs
        obtain ⟨q0, q1, q2, q3, q4, q5, q6, q7, q8, q9, q10, q11, q12, q13, q14, q15⟩ := g
        have HOF := Lib.hid hoff
        obtain ⟨c0, c1, c2, c3, c4, c5, c6, c7, c8, c9, c10, c11, c12, c13, c14, c15⟩ := hoff
        simp only at c0 c1 c2 c3 c4 c5 c6 c7 c8 c9 c10 c11 c12 c13 c14 c15
        clear hcell hbl hg hlt
        obtain ⟨E, hE⟩ : ∃ E, (⟨q0, q1, q2, q3, q4, q5, q6, q7, q8, q9, q10, q11, q12, q13, q14, q15⟩ : Anim).err = E := ⟨_, rfl⟩
        have HE := Lib.hid hE
        go_wp2_with fail
        refine (rValidate_any _ _ _ _ _ _ _ _ _ _ _ _ _ _ _ _ _).mono ?_
        rw [HE.out]
        rintro e w2 ⟨rfl, hb⟩
        have HBn : Hid (Below w.heap.size w w2) := HB.out.trans (hb.mono HB.out.size)
        have hof2 := HOF.out.kept hb (Nat.lt_of_lt_of_le HLT.out HB.out.size)
        obtain ⟨d0, d1, d2, d3, d4, d5, d6, d7, d8, d9, d10, d11, d12, d13, d14, d15⟩ := hof2
        simp only at d2 d15
        clear hb d0 d1 d3 d4 d5 d6 d7 d8 d9 d10 d11 d12 d13 d14 c0 c1 c2 c3 c4 c5 c6 c7 c8 c9 c10 c11 c12 c13 c14 c15
        by_cases he : E = 0
        · have HVs : Hid (validTo l (k + 1)) := by
            intro i hi
            by_cases ci : i = k
            · subst ci; rw [HG.out, HE.out]; exact he
            · exact HV.out i (by omega)
          have e1 : (E != 0) = false := by simpa using he
          clear he hE
          cases hL : lateTo l now k with
          | true =>
            have HS : Hid (lateTo l now (k + 1) = true) := by show _ = _; rw [HLs.out, hL]; rfl
            clear hL
            go_wp2
            go_roundw
            case rel => exact ⟨k + 1, by omega, by go_num, by rw [HS.out], HVs, HBn.out⟩
            case measure => simp [intOf]; omega
          | false =>
            by_cases hk2 : q2 = 2
            · subst hk2
              by_cases hq : now < q15
              · have HS : Hid (lateTo l now (k + 1) = true) := by show _ = _; rw [HLs.out, hL]; simp [Anim.late, hq]
                have hq1 : decide (now < q15) = true := by simpa using hq
                clear hL
                go_wp2
                go_roundw
                case rel => exact ⟨k + 1, by omega, by go_num, by rw [HS.out], HVs, HBn.out⟩
                case measure => simp [intOf]; omega
              · have HS : Hid (lateTo l now (k + 1) = false) := by show _ = _; rw [HLs.out, hL]; simp [Anim.late]; omega
                have hq1 : decide (now < q15) = false := by simpa using hq
                clear hL
                go_wp2
                go_roundw
                case rel => exact ⟨k + 1, by omega, by go_num, by rw [HS.out], HVs, HBn.out⟩
                case measure => simp [intOf]; omega
            · have HS : Hid (lateTo l now (k + 1) = false) := by show _ = _; rw [HLs.out, hL]; simp [Anim.late, hk2]
              have e2 : (q2 == 2) = false := by simpa using hk2
              clear hL hk2
              go_wp2
              go_roundw
              case rel => exact ⟨k + 1, by omega, by go_num, by rw [HS.out], HVs, HBn.out⟩
              case measure => simp [intOf]; omega
        · have HR : Hid (advErr l now = E) := by
            have e1 : firstErr l = E := by rw [firstErr_stop HV.out (by rw [HN.out]; exact hkn) (by rw [HG.out, HE.out]; exact he), HG.out, HE.out]
            show _ = _
            rw [advErr, if_neg (by rw [HN.out]; omega), e1, if_pos he]
          have HEn := Lib.hid he
          have e2 : (E != 0) = true := by simpa using he
          clear he hE
          go_wp2
          go_ret3
          exact Advanced.no HR.out HEn.out HBn.out
    · obtain rfl : k = n := by omega
      have hfe : firstErr l = 0 := firstErr_none (by rw [HN.out]; exact HV.out)
      have hll : lateTo l now k = lateL l now := by rw [← HN.out]; exact lateTo_all l now
      clear hbl
      cases hL : lateTo l now k with
      | true =>
        have HR : Hid (advErr l now = 1) := by show _ = _; rw [advErr, if_neg (by rw [HN.out]; omega), if_neg (by rw [hfe]; omega), ← hll, hL]; rfl
        clear hfe hll hL
        go_wp2
        go_ret3
        exact Advanced.no HR.out (by omega) HB.out
      | false =>
        have HR : Hid (advErr l now = 0) := by show _ = _; rw [advErr, if_neg (by rw [HN.out]; omega), if_neg (by rw [hfe]; omega), ← hll, hL]; rfl
        have hbt : btw now 0 1099511627776 = true := by
          rw [hll, lateL] at hL
          simp only [Bool.or_eq_false_iff] at hL
          simpa using hL.1
        have HBT := Lib.hid hbt
        clear hfe hll hL hbt
        obtain ⟨wo, rfl⟩ : ∃ wo : World, wo = wr := ⟨_, rfl⟩
        go_wp2_with fail
        go_loopw [10, 11, 12] (fun on out i wr => ∃ j : Nat, j ≤ k ∧ i = .int .i64 j ∧ wr.ownsRow w.heap.size 38 16 on ((l.take j).filterMap fun a => a.next now).length (recCells (((l.take j).filterMap fun a => a.next now).map recA)) ∧ wr.ownsRow w.heap.size 53 3 out j (recCells ((l.take j).map (motionR now))) ∧ Below w.heap.size w wr) (fun _ _ i _ => k - (intOf i).toNat)
        case atStart => exact ⟨0, Nat.zero_le _, rfl, World.ownsRow_nil _ _ _ _, World.ownsRow_nil _ _ _ _, HB.out⟩
        case round =>
          obtain ⟨j, hj, rfl, hon, hout, hbl⟩ := hrel
          have HON := Lib.hid hon
          have HOUT := Lib.hid hout
          have HB2 := Lib.hid hbl
          by_cases hjk : j < k
          ·
            as_aux_lemma =>
              obtain ⟨b, off, rfl, hlt, hcell⟩ := H3.out (by omega)
              have hoff := (hcell j hjk).kept hbl hlt
              have hjk' : (j : Int) < (k : Int) := by omega
              have hj0 : (0 : Int) ≤ (j : Int) := by omega
              obtain ⟨g, hg⟩ : ∃ g, ga l j = g := ⟨_, rfl⟩
              have he : g.err = 0 := by rw [← hg]; exact HV.out j hjk
              have HOS := Lib.hid (onTo_succ (l := l) (now := now) (k := j) (by rw [HN.out]; exact hjk))
              have HTS := Lib.hid (outTo_succ (l := l) (now := now) (k := j) (by rw [HN.out]; exact hjk))
              rw [hg] at hoff HOS HTS
              obtain ⟨q0, q1, q2, q3, q4, q5, q6, q7, q8, q9, q10, q11, q12, q13, q14, q15⟩ := g
              obtain ⟨c0, c1, c2, c3, c4, c5, c6, c7, c8, c9, c10, c11, c12, c13, c14, c15⟩ := hoff
              simp only at c0 c1 c2 c3 c4 c5 c6 c7 c8 c9 c10 c11 c12 c13 c14 c15
              have HE := Lib.hid he
              have hnn := btw_iff.1 HBT.out
              obtain ⟨Vv, hVv⟩ : ∃ V, (⟨q0, q1, q2, q3, q4, q5, q6, q7, q8, q9, q10, q11, q12, q13, q14, q15⟩ : Anim).value now = V := ⟨_, rfl⟩
              have HVv := Lib.hid hVv
              have HMO : Hid (motionR now (⟨q0, q1, q2, q3, q4, q5, q6, q7, q8, q9, q10, q11, q12, q13, q14, q15⟩ : Anim) = [q0, q1, Vv]) := by show _ = _; unfold motionR; rw [hVv]
              rw [HMO.out] at HTS
              have hne : u11.ownBlock ≠ some wr.heap.size := fun e => by have := (HOUT.out.lt _ e).2; omega
              have hne0 : u10.ownBlock ≠ some wr.heap.size := fun e => by have := (HON.out.lt _ e).2; omega
              have hOO := ownsRow_ne HON.out HOUT.out (by decide)
              have HOO := Lib.hid hOO
              obtain ⟨B, hB⟩ : ∃ B, wr.heap.size = B := ⟨_, rfl⟩
              rw [hB] at hne hne0
              have HNe := Lib.hid hne
              have HNe0 := Lib.hid hne0
              have HBB := Lib.hid hB
              have HBlk : Hid (AnimBlk (wr.alloc (.cells #[.int .i64 q0, .int .i64 q1, .int .i64 q2, .int .i64 q3, .int .i64 q4, .int .i64 q5, .int .i64 q6, .int .i64 q7, .int .i64 q8, .int .i64 q9, .int .i64 q10, .int .i64 q11, .int .i64 q12, .int .i64 q13, .int .i64 q14, .int .i64 q15] 38)) B 38 [.int .i64 q0, .int .i64 q1, .int .i64 q2, .int .i64 q3, .int .i64 q4, .int .i64 q5, .int .i64 q6, .int .i64 q7, .int .i64 q8, .int .i64 q9, .int .i64 q10, .int .i64 q11, .int .i64 q12, .int .i64 q13, .int .i64 q14, .int .i64 q15]) := animBlk_at [.int .i64 q0, .int .i64 q1, .int .i64 q2, .int .i64 q3, .int .i64 q4, .int .i64 q5, .int .i64 q6, .int .i64 q7, .int .i64 q8, .int .i64 q9, .int .i64 q10, .int .i64 q11, .int .i64 q12, .int .i64 q13, .int .i64 q14, .int .i64 q15] _ rfl hB.symm
              clear hcell hbl hg hon hout he hne hne0 hVv hlt hOO
              go_upto_region 19 with fail
              have HA : Hid ((wr.alloc (.cells #[.int .i64 q0, .int .i64 q1, .int .i64 q2, .int .i64 q3, .int .i64 q4, .int .i64 q5, .int .i64 q6, .int .i64 q7, .int .i64 q8, .int .i64 q9, .int .i64 q10, .int .i64 q11, .int .i64 q12, .int .i64 q13, .int .i64 q14, .int .i64 q15] 38)).drew.heap.size = B + 1) := by show _ = _; simp; omega
              have HO0 : Hid ((wr.alloc (.cells #[.int .i64 q0, .int .i64 q1, .int .i64 q2, .int .i64 q3, .int .i64 q4, .int .i64 q5, .int .i64 q6, .int .i64 q7, .int .i64 q8, .int .i64 q9, .int .i64 q10, .int .i64 q11, .int .i64 q12, .int .i64 q13, .int .i64 q14, .int .i64 q15] 38)).drew.ownsRow w.heap.size 38 16 u10 ((l.take j).filterMap fun a => a.next now).length (recCells (((l.take j).filterMap fun a => a.next now).map recA))) := (HON.out.alloc _).drew
              have HT0 : Hid ((wr.alloc (.cells #[.int .i64 q0, .int .i64 q1, .int .i64 q2, .int .i64 q3, .int .i64 q4, .int .i64 q5, .int .i64 q6, .int .i64 q7, .int .i64 q8, .int .i64 q9, .int .i64 q10, .int .i64 q11, .int .i64 q12, .int .i64 q13, .int .i64 q14, .int .i64 q15] 38)).drew.ownsRow w.heap.size 53 3 u11 j (recCells ((l.take j).map (motionR now)))) := (HOUT.out.alloc _).drew
              have HD0 : Hid (AnimBlk (wr.alloc (.cells #[.int .i64 q0, .int .i64 q1, .int .i64 q2, .int .i64 q3, .int .i64 q4, .int .i64 q5, .int .i64 q6, .int .i64 q7, .int .i64 q8, .int .i64 q9, .int .i64 q10, .int .i64 q11, .int .i64 q12, .int .i64 q13, .int .i64 q14, .int .i64 q15] 38)).drew B 38 [.int .i64 q0, .int .i64 q1, .int .i64 q2, .int .i64 q3, .int .i64 q4, .int .i64 q5, .int .i64 q6, .int .i64 q7, .int .i64 q8, .int .i64 q9, .int .i64 q10, .int .i64 q11, .int .i64 q12, .int .i64 q13, .int .i64 q14, .int .i64 q15]) := HBlk.out.drew
              have HX0 : Hid (Below w.heap.size w (wr.alloc (.cells #[.int .i64 q0, .int .i64 q1, .int .i64 q2, .int .i64 q3, .int .i64 q4, .int .i64 q5, .int .i64 q6, .int .i64 q7, .int .i64 q8, .int .i64 q9, .int .i64 q10, .int .i64 q11, .int .i64 q12, .int .i64 q13, .int .i64 q14, .int .i64 q15] 38)).drew) := (HB2.out.alloc HB2.out.size _).drew
              clear hB c0 c1 c2 c3 c4 c5 c6 c7 c8 c9 c10 c11 c12 c13 c14 c15
              refine wp_region_T (S := (fun w' => w'.cell? ⟨B, 0, none⟩ = some (.int .i64 q0) ∧ w'.cell? ⟨B, 1, none⟩ = some (.int .i64 q1) ∧ w'.cell? ⟨B, 2, none⟩ = some (.int .i64 q2) ∧ w'.cell? ⟨B, 3, none⟩ = some (.int .i64 q3) ∧ w'.cell? ⟨B, 4, none⟩ = some (.int .i64 q4) ∧ w'.cell? ⟨B, 5, none⟩ = some (.int .i64 q5) ∧ w'.cell? ⟨B, 6, none⟩ = some (.int .i64 q6) ∧ w'.cell? ⟨B, 7, none⟩ = some (.int .i64 q7) ∧ w'.cell? ⟨B, 8, none⟩ = some (.int .i64 q8) ∧ w'.cell? ⟨B, 9, none⟩ = some (.int .i64 q9) ∧ w'.cell? ⟨B, 10, none⟩ = some (.int .i64 q10) ∧ w'.cell? ⟨B, 11, none⟩ = some (.int .i64 q11) ∧ w'.cell? ⟨B, 12, none⟩ = some (.int .i64 q12) ∧ w'.cell? ⟨B, 13, none⟩ = some (.int .i64 q13) ∧ w'.cell? ⟨B, 14, none⟩ = some (.int .i64 q14) ∧ w'.cell? ⟨B, 15, none⟩ = some (.int .i64 q15) ∧ Below w.heap.size w w')) 10 (by kernel_rfl) (⟨(HD0.out.cell 0).trans rfl, (HD0.out.cell 1).trans rfl, (HD0.out.cell 2).trans rfl, (HD0.out.cell 3).trans rfl, (HD0.out.cell 4).trans rfl, (HD0.out.cell 5).trans rfl, (HD0.out.cell 6).trans rfl, (HD0.out.cell 7).trans rfl, (HD0.out.cell 8).trans rfl, (HD0.out.cell 9).trans rfl, (HD0.out.cell 10).trans rfl, (HD0.out.cell 11).trans rfl, (HD0.out.cell 12).trans rfl, (HD0.out.cell 13).trans rfl, (HD0.out.cell 14).trans rfl, (HD0.out.cell 15).trans rfl, HX0.out⟩) (fun hHeld => ?_)
              obtain ⟨w0, hw0⟩ : ∃ w0, (wr.alloc (.cells #[.int .i64 q0, .int .i64 q1, .int .i64 q2, .int .i64 q3, .int .i64 q4, .int .i64 q5, .int .i64 q6, .int .i64 q7, .int .i64 q8, .int .i64 q9, .int .i64 q10, .int .i64 q11, .int .i64 q12, .int .i64 q13, .int .i64 q14, .int .i64 q15] 38)).drew = w0 := ⟨_, rfl⟩
              rw [hw0] at hHeld HA HO0 HT0 HD0 ⊢
              clear hw0 HX0 HBlk
              refine wpAnyT_take (i := 0) (v := ?_) rfl (by decide +kernel) (by decide +kernel) (by decide +kernel) (by decide +kernel) (by decide +kernel) (fun _ _ _ h => h) (Or.inl ⟨by rfl, ?_⟩) (by assumption) ?_
              rotate_left
              · intro w hSw; (try dsimp only at hSw); first | (go_simp; done) | (go_simp; with_reducible rfl)
              try simp only [Act.put, List.getElem_toArray, List.getElem_cons_succ, List.getElem_cons_zero, List.setIfInBounds_toArray, List.set_cons_zero, List.set_cons_succ]
              refine wpAnyT_take (i := 1) (v := ?_) rfl (by decide +kernel) (by decide +kernel) (by decide +kernel) (by decide +kernel) (by decide +kernel) (fun _ _ _ h => h) (Or.inl ⟨by rfl, ?_⟩) (by assumption) ?_
              rotate_left
              · intro w hSw; (try dsimp only at hSw); first | (go_simp; done) | (go_simp; with_reducible rfl)
              try simp only [Act.put, List.getElem_toArray, List.getElem_cons_succ, List.getElem_cons_zero, List.setIfInBounds_toArray, List.set_cons_zero, List.set_cons_succ]
              refine wpAnyT_take (i := 2) (v := ?_) rfl (by decide +kernel) (by decide +kernel) (by decide +kernel) (by decide +kernel) (by decide +kernel) (fun _ _ _ h => h) (Or.inl ⟨by rfl, ?_⟩) (by assumption) ?_
              rotate_left
              · intro w hSw; (try dsimp only at hSw); first | (go_simp; done) | (go_simp; with_reducible rfl)
              try simp only [Act.put, List.getElem_toArray, List.getElem_cons_succ, List.getElem_cons_zero, List.setIfInBounds_toArray, List.set_cons_zero, List.set_cons_succ]
              refine wpAnyT_take (i := 3) (v := ?_) rfl (by decide +kernel) (by decide +kernel) (by decide +kernel) (by decide +kernel) (by decide +kernel) (fun _ _ _ h => h) (Or.inl ⟨by rfl, ?_⟩) (by assumption) ?_
              rotate_left
              · intro w hSw; (try dsimp only at hSw); first | (go_simp; done) | (go_simp; with_reducible rfl)
              try simp only [Act.put, List.getElem_toArray, List.getElem_cons_succ, List.getElem_cons_zero, List.setIfInBounds_toArray, List.set_cons_zero, List.set_cons_succ]
              refine wpAnyT_take (i := 4) (v := ?_) rfl (by decide +kernel) (by decide +kernel) (by decide +kernel) (by decide +kernel) (by decide +kernel) (fun _ _ _ h => h) (Or.inl ⟨by rfl, ?_⟩) (by assumption) ?_
              rotate_left
              · intro w hSw; (try dsimp only at hSw); first | (go_simp; done) | (go_simp; with_reducible rfl)
              try simp only [Act.put, List.getElem_toArray, List.getElem_cons_succ, List.getElem_cons_zero, List.setIfInBounds_toArray, List.set_cons_zero, List.set_cons_succ]
              refine wpAnyT_take (i := 5) (v := ?_) rfl (by decide +kernel) (by decide +kernel) (by decide +kernel) (by decide +kernel) (by decide +kernel) (fun _ _ _ h => h) (Or.inl ⟨by rfl, ?_⟩) (by assumption) ?_
              rotate_left
              · intro w hSw; (try dsimp only at hSw); first | (go_simp; done) | (go_simp; with_reducible rfl)
              try simp only [Act.put, List.getElem_toArray, List.getElem_cons_succ, List.getElem_cons_zero, List.setIfInBounds_toArray, List.set_cons_zero, List.set_cons_succ]
              refine wpAnyT_take (i := 6) (v := ?_) rfl (by decide +kernel) (by decide +kernel) (by decide +kernel) (by decide +kernel) (by decide +kernel) (fun _ _ _ h => h) (Or.inl ⟨by rfl, ?_⟩) (by assumption) ?_
              rotate_left
              · intro w hSw; (try dsimp only at hSw); first | (go_simp; done) | (go_simp; with_reducible rfl)
              try simp only [Act.put, List.getElem_toArray, List.getElem_cons_succ, List.getElem_cons_zero, List.setIfInBounds_toArray, List.set_cons_zero, List.set_cons_succ]
              refine wpAnyT_one (i := 7) (by kernel_rfl) rfl (fun K hK => ?_)
              go_simp
              (refine (rValue_any _ _ _ _ _ _ _ _ _ _ _ _ _ _ _ _ _ _).mono ?_; rw [HVv.out]; rintro e w1 ⟨rfl, hb'⟩)
              refine hK.out _ _ ?_ (fun hHeld2 => ?_)
              · (try dsimp only); exact ⟨(hb'.cell (p := ⟨B, 0, none⟩) (World.block_lt_of_cell? _ _ hHeld.1)).trans hHeld.1, (hb'.cell (p := ⟨B, 1, none⟩) (World.block_lt_of_cell? _ _ hHeld.2.1)).trans hHeld.2.1, (hb'.cell (p := ⟨B, 2, none⟩) (World.block_lt_of_cell? _ _ hHeld.2.2.1)).trans hHeld.2.2.1, (hb'.cell (p := ⟨B, 3, none⟩) (World.block_lt_of_cell? _ _ hHeld.2.2.2.1)).trans hHeld.2.2.2.1, (hb'.cell (p := ⟨B, 4, none⟩) (World.block_lt_of_cell? _ _ hHeld.2.2.2.2.1)).trans hHeld.2.2.2.2.1, (hb'.cell (p := ⟨B, 5, none⟩) (World.block_lt_of_cell? _ _ hHeld.2.2.2.2.2.1)).trans hHeld.2.2.2.2.2.1, (hb'.cell (p := ⟨B, 6, none⟩) (World.block_lt_of_cell? _ _ hHeld.2.2.2.2.2.2.1)).trans hHeld.2.2.2.2.2.2.1, (hb'.cell (p := ⟨B, 7, none⟩) (World.block_lt_of_cell? _ _ hHeld.2.2.2.2.2.2.2.1)).trans hHeld.2.2.2.2.2.2.2.1, (hb'.cell (p := ⟨B, 8, none⟩) (World.block_lt_of_cell? _ _ hHeld.2.2.2.2.2.2.2.2.1)).trans hHeld.2.2.2.2.2.2.2.2.1, (hb'.cell (p := ⟨B, 9, none⟩) (World.block_lt_of_cell? _ _ hHeld.2.2.2.2.2.2.2.2.2.1)).trans hHeld.2.2.2.2.2.2.2.2.2.1, (hb'.cell (p := ⟨B, 10, none⟩) (World.block_lt_of_cell? _ _ hHeld.2.2.2.2.2.2.2.2.2.2.1)).trans hHeld.2.2.2.2.2.2.2.2.2.2.1, (hb'.cell (p := ⟨B, 11, none⟩) (World.block_lt_of_cell? _ _ hHeld.2.2.2.2.2.2.2.2.2.2.2.1)).trans hHeld.2.2.2.2.2.2.2.2.2.2.2.1, (hb'.cell (p := ⟨B, 12, none⟩) (World.block_lt_of_cell? _ _ hHeld.2.2.2.2.2.2.2.2.2.2.2.2.1)).trans hHeld.2.2.2.2.2.2.2.2.2.2.2.2.1, (hb'.cell (p := ⟨B, 13, none⟩) (World.block_lt_of_cell? _ _ hHeld.2.2.2.2.2.2.2.2.2.2.2.2.2.1)).trans hHeld.2.2.2.2.2.2.2.2.2.2.2.2.2.1, (hb'.cell (p := ⟨B, 14, none⟩) (World.block_lt_of_cell? _ _ hHeld.2.2.2.2.2.2.2.2.2.2.2.2.2.2.1)).trans hHeld.2.2.2.2.2.2.2.2.2.2.2.2.2.2.1, (hb'.cell (p := ⟨B, 15, none⟩) (World.block_lt_of_cell? _ _ hHeld.2.2.2.2.2.2.2.2.2.2.2.2.2.2.2.1)).trans hHeld.2.2.2.2.2.2.2.2.2.2.2.2.2.2.2.1, hHeld.2.2.2.2.2.2.2.2.2.2.2.2.2.2.2.2.trans (hb'.mono hHeld.2.2.2.2.2.2.2.2.2.2.2.2.2.2.2.2.size)⟩
              clear hK K hHeld
              have hHeld := hHeld2
              clear hHeld2
              try simp only [Act.put, List.getElem_toArray, List.getElem_cons_succ, List.getElem_cons_zero, List.setIfInBounds_toArray, List.set_cons_zero, List.set_cons_succ]
              have HO1 := Lib.hid (ownsRow_below HO0.out hb')
              have HT1 := Lib.hid (ownsRow_below HT0.out hb')
              have HD1 : Hid (AnimBlk w1 B 38 [.int .i64 q0, .int .i64 q1, .int .i64 q2, .int .i64 q3, .int .i64 q4, .int .i64 q5, .int .i64 q6, .int .i64 q7, .int .i64 q8, .int .i64 q9, .int .i64 q10, .int .i64 q11, .int .i64 q12, .int .i64 q13, .int .i64 q14, .int .i64 q15]) := HD0.out.kept hb' HD0.out.lt
              clear hb' HO0 HT0 HD0
              refine wpAnyT_take (i := 8) (v := ?_) rfl (by decide +kernel) (by decide +kernel) (by decide +kernel) (by decide +kernel) (by decide +kernel) (fun _ _ _ h => h) (Or.inl ⟨by rfl, ?_⟩) (by assumption) ?_
              rotate_left
              · intro w hSw; (try dsimp only at hSw); first | (go_simp; done) | (go_simp; with_reducible rfl)
              try simp only [Act.put, List.getElem_toArray, List.getElem_cons_succ, List.getElem_cons_zero, List.setIfInBounds_toArray, List.set_cons_zero, List.set_cons_succ]
              have HW1 := Lib.hid hHeld.2.2.2.2.2.2.2.2.2.2.2.2.2.2.2.2
              refine wpAnyT_one (i := 9) (by kernel_rfl) rfl (fun K hK => ?_)
              go_simp
              refine hK.out _ _ ?_ (fun hHeld2 => ?_)
              · (try dsimp only); exact ⟨(World.cell?_alloc_lt _ _ ⟨B, 0, none⟩ (World.block_lt_of_cell? _ _ hHeld.1)).trans hHeld.1, (World.cell?_alloc_lt _ _ ⟨B, 1, none⟩ (World.block_lt_of_cell? _ _ hHeld.2.1)).trans hHeld.2.1, (World.cell?_alloc_lt _ _ ⟨B, 2, none⟩ (World.block_lt_of_cell? _ _ hHeld.2.2.1)).trans hHeld.2.2.1, (World.cell?_alloc_lt _ _ ⟨B, 3, none⟩ (World.block_lt_of_cell? _ _ hHeld.2.2.2.1)).trans hHeld.2.2.2.1, (World.cell?_alloc_lt _ _ ⟨B, 4, none⟩ (World.block_lt_of_cell? _ _ hHeld.2.2.2.2.1)).trans hHeld.2.2.2.2.1, (World.cell?_alloc_lt _ _ ⟨B, 5, none⟩ (World.block_lt_of_cell? _ _ hHeld.2.2.2.2.2.1)).trans hHeld.2.2.2.2.2.1, (World.cell?_alloc_lt _ _ ⟨B, 6, none⟩ (World.block_lt_of_cell? _ _ hHeld.2.2.2.2.2.2.1)).trans hHeld.2.2.2.2.2.2.1, (World.cell?_alloc_lt _ _ ⟨B, 7, none⟩ (World.block_lt_of_cell? _ _ hHeld.2.2.2.2.2.2.2.1)).trans hHeld.2.2.2.2.2.2.2.1, (World.cell?_alloc_lt _ _ ⟨B, 8, none⟩ (World.block_lt_of_cell? _ _ hHeld.2.2.2.2.2.2.2.2.1)).trans hHeld.2.2.2.2.2.2.2.2.1, (World.cell?_alloc_lt _ _ ⟨B, 9, none⟩ (World.block_lt_of_cell? _ _ hHeld.2.2.2.2.2.2.2.2.2.1)).trans hHeld.2.2.2.2.2.2.2.2.2.1, (World.cell?_alloc_lt _ _ ⟨B, 10, none⟩ (World.block_lt_of_cell? _ _ hHeld.2.2.2.2.2.2.2.2.2.2.1)).trans hHeld.2.2.2.2.2.2.2.2.2.2.1, (World.cell?_alloc_lt _ _ ⟨B, 11, none⟩ (World.block_lt_of_cell? _ _ hHeld.2.2.2.2.2.2.2.2.2.2.2.1)).trans hHeld.2.2.2.2.2.2.2.2.2.2.2.1, (World.cell?_alloc_lt _ _ ⟨B, 12, none⟩ (World.block_lt_of_cell? _ _ hHeld.2.2.2.2.2.2.2.2.2.2.2.2.1)).trans hHeld.2.2.2.2.2.2.2.2.2.2.2.2.1, (World.cell?_alloc_lt _ _ ⟨B, 13, none⟩ (World.block_lt_of_cell? _ _ hHeld.2.2.2.2.2.2.2.2.2.2.2.2.2.1)).trans hHeld.2.2.2.2.2.2.2.2.2.2.2.2.2.1, (World.cell?_alloc_lt _ _ ⟨B, 14, none⟩ (World.block_lt_of_cell? _ _ hHeld.2.2.2.2.2.2.2.2.2.2.2.2.2.2.1)).trans hHeld.2.2.2.2.2.2.2.2.2.2.2.2.2.2.1, (World.cell?_alloc_lt _ _ ⟨B, 15, none⟩ (World.block_lt_of_cell? _ _ hHeld.2.2.2.2.2.2.2.2.2.2.2.2.2.2.2.1)).trans hHeld.2.2.2.2.2.2.2.2.2.2.2.2.2.2.2.1, hHeld.2.2.2.2.2.2.2.2.2.2.2.2.2.2.2.2.alloc hHeld.2.2.2.2.2.2.2.2.2.2.2.2.2.2.2.2.size _⟩
              clear hK K hHeld
              have hHeld := hHeld2
              clear hHeld2
              try simp only [Act.put, List.getElem_toArray, List.getElem_cons_succ, List.getElem_cons_zero, List.setIfInBounds_toArray, List.set_cons_zero, List.set_cons_succ]
              have HT2 := Lib.hid (HT1.out.alloc (.cells #[.int .i64 q0, .int .i64 q1, .int .i64 Vv] 53))
              have HO2 := Lib.hid (HO1.out.alloc (.cells #[.int .i64 q0, .int .i64 q1, .int .i64 Vv] 53))
              refine wpAnyT_one (i := 10) (by kernel_rfl) rfl (fun K hK => ?_)
              (refine step_append_lies _ (by rfl) _ _ _ (by rfl) w.heap.size 53 m0 _ 3 24 Try.underlying45 mi0 mz0 mz1 mz2 rfl (by omega) _ j (recCells ((l.take j).map (motionR now))) (by rfl) HT2.out ⟨w1.heap.size, 0, none⟩ 1 1 [.int .i64 q0, .int .i64 q1, .int .i64 Vv] (by rfl) (by rfl) (World.news_of_block (cs := #[.int .i64 q0, .int .i64 q1, .int .i64 Vv]) (t := 53) (fr := (0, 0)) (heap_alloc_new w1 _)) (by simp [Value.oneCell']) (by omega) (by unfold maxLen; omega) (by omega) (by have := HW1.out.size; simp; omega) (w1.heap.size + 1) (by simp) ?_; intro gg cap' w3 hown hgrow hat hlt1)
              refine hK.out _ _ ?_ (fun hHeld2 => ?_)
              · (try dsimp only); exact ⟨hgrow.cell hHeld.1 (Ne.symm HNe.out), hgrow.cell hHeld.2.1 (Ne.symm HNe.out), hgrow.cell hHeld.2.2.1 (Ne.symm HNe.out), hgrow.cell hHeld.2.2.2.1 (Ne.symm HNe.out), hgrow.cell hHeld.2.2.2.2.1 (Ne.symm HNe.out), hgrow.cell hHeld.2.2.2.2.2.1 (Ne.symm HNe.out), hgrow.cell hHeld.2.2.2.2.2.2.1 (Ne.symm HNe.out), hgrow.cell hHeld.2.2.2.2.2.2.2.1 (Ne.symm HNe.out), hgrow.cell hHeld.2.2.2.2.2.2.2.2.1 (Ne.symm HNe.out), hgrow.cell hHeld.2.2.2.2.2.2.2.2.2.1 (Ne.symm HNe.out), hgrow.cell hHeld.2.2.2.2.2.2.2.2.2.2.1 (Ne.symm HNe.out), hgrow.cell hHeld.2.2.2.2.2.2.2.2.2.2.2.1 (Ne.symm HNe.out), hgrow.cell hHeld.2.2.2.2.2.2.2.2.2.2.2.2.1 (Ne.symm HNe.out), hgrow.cell hHeld.2.2.2.2.2.2.2.2.2.2.2.2.2.1 (Ne.symm HNe.out), hgrow.cell hHeld.2.2.2.2.2.2.2.2.2.2.2.2.2.2.1 (Ne.symm HNe.out), hgrow.cell hHeld.2.2.2.2.2.2.2.2.2.2.2.2.2.2.2.1 (Ne.symm HNe.out), hHeld.2.2.2.2.2.2.2.2.2.2.2.2.2.2.2.2.grown hgrow hHeld.2.2.2.2.2.2.2.2.2.2.2.2.2.2.2.2.size (fun q hq => (HT2.out.lt q hq).1)⟩
              clear hK K hHeld
              have hHeld := hHeld2
              clear hHeld2
              try simp only [Act.put, List.getElem_toArray, List.getElem_cons_succ, List.getElem_cons_zero, List.setIfInBounds_toArray, List.set_cons_zero, List.set_cons_succ]
              have HO3 : Hid (w3.ownsRow w.heap.size 38 16 u10 ((l.take j).filterMap fun a => a.next now).length (recCells (((l.take j).filterMap fun a => a.next now).map recA))) := HO2.out.kept hgrow HOO.out
              have HT3 : Hid (w3.ownsRow w.heap.size 53 3 (.slice (some ⟨gg, 0, none⟩) (j + 1) cap') (j + 1) (recCells ((l.take (j + 1)).map (motionR now)))) := by
                show World.ownsRow _ _ _ _ _ _ _
                rw [HTS.out, recCells_append]; exact hown
              have HD3 : Hid (AnimBlk w3 B 38 [.int .i64 q0, .int .i64 q1, .int .i64 q2, .int .i64 q3, .int .i64 q4, .int .i64 q5, .int .i64 q6, .int .i64 q7, .int .i64 q8, .int .i64 q9, .int .i64 q10, .int .i64 q11, .int .i64 q12, .int .i64 q13, .int .i64 q14, .int .i64 q15]) := ⟨rfl, (hgrow.block B (HD1.out.alloc (.cells #[.int .i64 q0, .int .i64 q1, .int .i64 Vv] 53)).lt (by first | exact HNe.out | exact Ne.symm HNe.out)).trans (HD1.out.alloc _).2⟩
              clear hown hgrow hat hlt1 HO2 HT2 HO1 HT1 HW1 HD1
              have HH := Lib.hid hHeld
              refine wpAnyT_last (i := 11) (by kernel_rfl) (by kernel_rfl) rfl (by kernel_rfl) (fun K hK => ?_)
              go_simp
              refine hK.out _ _ ?_
              clear hK K
              try simp only [Act.put, List.getElem_toArray, List.getElem_cons_succ, List.getElem_cons_zero, List.setIfInBounds_toArray, List.set_cons_zero, List.set_cons_succ]
              clear hHeld
              have HX3 : Hid (Below w.heap.size w w3) := HH.out.2.2.2.2.2.2.2.2.2.2.2.2.2.2.2.2
              have x2 : w3.cell? ⟨B, 2, none⟩ = some (.int .i64 q2) := HH.out.2.2.1
              have x4 : w3.cell? ⟨B, 4, none⟩ = some (.int .i64 q4) := HH.out.2.2.2.2.1
              have x5 : w3.cell? ⟨B, 5, none⟩ = some (.int .i64 q5) := HH.out.2.2.2.2.2.1
              have x6 : w3.cell? ⟨B, 6, none⟩ = some (.int .i64 q6) := HH.out.2.2.2.2.2.2.1
              clear HH HA
              obtain ⟨hh, hk2⟩ := Anim.ok_cases HE.out
              obtain ⟨b0, b1, b2, b3, b4, b5, b6, b7, b8, b9⟩ := Anim.head_bd hh
              simp only at b0 b1 b2 b3 b4 b5 b6 b7 b8 b9
              have hw1 : IntKind.i64.wrap (now - q5) = now - q5 := IntWalk.i64_in _ (by omega)
              have hw4 : IntKind.i64.wrap (65536 * q4) = 65536 * q4 := IntWalk.i64_in _ (by omega)
              have hlen : ((l.take j).filterMap fun a => a.next now).length ≤ 64 := by
                have h1 := List.length_filterMap_le (fun a : Anim => a.next now) (l.take j)
                have h2 : (l.take j).length ≤ j := List.length_take_le _ _
                omega
              rcases hk2 with ⟨hk, hc⟩ | ⟨hk, hc⟩
              · simp only at hk
                subst hk
                have HNX : Hid ((⟨q0, q1, 1, q3, q4, q5, q6, q7, q8, q9, q10, q11, q12, q13, q14, q15⟩ : Anim).next now = if now - q5 < q6 then some (⟨q0, q1, 1, q3, q4, q5, q6, q7, q8, q9, q10, q11, q12, q13, q14, q15⟩ : Anim) else none) := by show _ = _; unfold Anim.next; rw [if_pos rfl]
                by_cases hlt : now - q5 < q6
                ·
                  as_aux_lemma =>
                    have HXX : Hid ((l.take (j + 1)).filterMap (fun a => a.next now) = (l.take j).filterMap (fun a => a.next now) ++ [(⟨q0, q1, 1, q3, q4, q5, q6, q7, q8, q9, q10, q11, q12, q13, q14, q15⟩ : Anim)]) := by
                      have hx2 := HOS.out
                      rw [HNX.out, if_pos hlt] at hx2
                      exact hx2
                    have hd : decide (now - q5 < q6) = true := by simpa using hlt
                    clear hh hc b0 b1 b2 b3 b4 b5 b6 b7 b8 b9 hnn hw4 HNX
                    obtain ⟨N, hN⟩ : ∃ N, ((l.take j).filterMap fun a => a.next now).length = N := ⟨_, rfl⟩
                    rw [hN] at hlen
                    have HNn := Lib.hid hN
                    have HO4 : Hid (w3.ownsRow w.heap.size 38 16 u10 N (recCells (((l.take j).filterMap fun a => a.next now).map recA))) := by have := HO3.out; rwa [hN] at this
                    clear hN
                    go_wp2_with (refine radv_append87 (w := w) hlen HX3.out.size (recCells (((l.take j).filterMap fun a => a.next now).map recA)) hi0 hz0 hz1 hz2 HO4.out HD3.out ?_; intro v' w7 hown3 hgrow3; have HOWN := Lib.hid hown3; have HGROW := Lib.hid hgrow3; clear hown3 hgrow3)
                    have HON4 : Hid (w7.ownsRow w.heap.size 38 16 v' ((l.take (j + 1)).filterMap fun a => a.next now).length (recCells (((l.take (j + 1)).filterMap fun a => a.next now).map recA))) := by
                      show World.ownsRow _ _ _ _ _ _ _
                      rw [HXX.out, List.length_append, HNn.out, List.map_append, recCells_append]; exact HOWN.out
                    have HOUT4 : Hid (w7.ownsRow w.heap.size 53 3 (.slice (some ⟨gg, 0, none⟩) (j + 1) cap') (j + 1) (recCells ((l.take (j + 1)).map (motionR now)))) := (HT3.out.alloc _).kept HGROW.out (ownsRow_ne HT3.out HO4.out (by decide))
                    have HB5 : Hid (Below w.heap.size w w7) := (HX3.out.alloc HX3.out.size _).grown HGROW.out (by have := HX3.out.size; simp; omega) (fun q hq => (HO4.out.lt q hq).1)
                    go_roundw
                    case rel => exact ⟨j + 1, by omega, by go_num, HON4.out, HOUT4.out, HB5.out⟩
                    case measure => simp [intOf]; omega
                ·
                  as_aux_lemma =>
                    have HXX : Hid ((l.take (j + 1)).filterMap (fun a => a.next now) = (l.take j).filterMap (fun a => a.next now)) := by
                      have hx2 := HOS.out
                      rw [HNX.out, if_neg hlt, List.append_nil] at hx2
                      exact hx2
                    have hd : decide (now - q5 < q6) = false := by simpa using hlt
                    clear hh hc b0 b1 b2 b3 b4 b5 b6 b7 b8 b9 hnn hw4 HNX hlen
                    go_wp2
                    go_roundw
                    case rel => exact ⟨j + 1, by omega, by go_num, by rw [HXX.out]; exact HO3.out, HT3.out, HX3.out⟩
                    case measure => simp [intOf]; omega
              · simp only at hk
                subst hk
                obtain ⟨d0, d1, d2, d3, d4, d5, d6, d7, d8, d9⟩ := Anim.spring_bd hc
                simp only at d0 d1 d2 d3 d4 d5 d6 d7 d8 d9
                obtain ⟨X, hX⟩ : ∃ X, (⟨q0, q1, 2, q3, q4, q5, q6, q7, q8, q9, q10, q11, q12, q13, q14, q15⟩ : Anim).state now = X := ⟨_, rfl⟩
                obtain ⟨X1, X2⟩ := X
                have HNX : Hid ((⟨q0, q1, 2, q3, q4, q5, q6, q7, q8, q9, q10, q11, q12, q13, q14, q15⟩ : Anim).next now = if X1 = 65536 * q4 ∧ X2 = 0 then none else some (⟨q0, q1, 2, q3, q4, q5, q6, q7, q8, q9, q10, q11, q12, X1, X2, now⟩ : Anim)) := by show _ = _; unfold Anim.next; rw [if_neg (show ¬ (2 : Int) = 1 by omega), hX]
                have hfar : 10000 ≤ now - q5 → X1 = 65536 * q4 ∧ X2 = 0 := fun h => by
                  unfold Anim.state at hX
                  simp only at hX
                  rw [if_pos h] at hX
                  injection hX with h1 h2
                  exact ⟨h1.symm, h2.symm⟩
                have HX12 := Lib.hid hX
                have e2 : ((2 : Int) == 1) = false := rfl
                clear x6
                go_wp2_with (first | (refine load_anim rfl _ rfl B rfl _ _ HD3.out ?_))
                refine (rstate_any _ _ _ _ _ _ _ _ _ _ _ _ _ _ _ _ _ _ b8 b9 hnn.1 hnn.2 b6 b7 (by omega) (by omega)).mono ?_
                rw [HX12.out]
                rintro e w5 ⟨rfl, hw5⟩
                have HO5 := Lib.hid (HO3.out.alloc (.cells #[.int .i64 q0, .int .i64 q1, .int .i64 2, .int .i64 q3, .int .i64 q4, .int .i64 q5, .int .i64 q6, .int .i64 q7, .int .i64 q8, .int .i64 q9, .int .i64 q10, .int .i64 q11, .int .i64 q12, .int .i64 q13, .int .i64 q14, .int .i64 q15] 38))
                have HT5 := Lib.hid (HT3.out.alloc (.cells #[.int .i64 q0, .int .i64 q1, .int .i64 2, .int .i64 q3, .int .i64 q4, .int .i64 q5, .int .i64 q6, .int .i64 q7, .int .i64 q8, .int .i64 q9, .int .i64 q10, .int .i64 q11, .int .i64 q12, .int .i64 q13, .int .i64 q14, .int .i64 q15] 38))
                have HD5 := Lib.hid (HD3.out.alloc (.cells #[.int .i64 q0, .int .i64 q1, .int .i64 2, .int .i64 q3, .int .i64 q4, .int .i64 q5, .int .i64 q6, .int .i64 q7, .int .i64 q8, .int .i64 q9, .int .i64 q10, .int .i64 q11, .int .i64 q12, .int .i64 q13, .int .i64 q14, .int .i64 q15] 38))
                have HX5 : Hid (Below w.heap.size w (w3.alloc (.cells #[.int .i64 q0, .int .i64 q1, .int .i64 2, .int .i64 q3, .int .i64 q4, .int .i64 q5, .int .i64 q6, .int .i64 q7, .int .i64 q8, .int .i64 q9, .int .i64 q10, .int .i64 q11, .int .i64 q12, .int .i64 q13, .int .i64 q14, .int .i64 q15] 38))) := HX3.out.alloc HX3.out.size _
                rw [hw5] at HO5 HT5 HD5 HX5
                clear hw5 x2 x4 x5 HO3 HT3 HD3 HX3 hX
                have x4 : w5.cell? ⟨B, 4, none⟩ = some (.int .i64 q4) := (HD5.out.cell 4).trans rfl
                have x5 : w5.cell? ⟨B, 5, none⟩ = some (.int .i64 q5) := (HD5.out.cell 5).trans rfl
                by_cases hend : X1 = 65536 * q4 ∧ X2 = 0
                ·
                  as_aux_lemma =>
                    have HXX : Hid ((l.take (j + 1)).filterMap (fun a => a.next now) = (l.take j).filterMap (fun a => a.next now)) := by
                      have hx2 := HOS.out
                      rw [HNX.out, if_pos hend, List.append_nil] at hx2
                      exact hx2
                    have hd1 : (X1 != 65536 * q4) = false := by simpa using hend.1
                    have hd2 : (X2 != 0) = false := by simpa using hend.2
                    clear hh hc b0 b1 b2 b3 b4 b5 b6 b7 b8 b9 hnn HNX hlen hend hfar d0 d1 d2 d3 d4 d5 d6 d7 d8 d9
                    by_cases ht : now - q5 < 10000
                    · have hd : decide (now - q5 < 10000) = true := by simpa using ht
                      go_wp2
                      go_roundw
                      case rel => exact ⟨j + 1, by omega, by go_num, by rw [HXX.out]; exact HO5.out, HT5.out, HX5.out⟩
                      case measure => simp [intOf]; omega
                    · have hd : decide (now - q5 < 10000) = false := by simpa using ht
                      go_wp2
                      go_roundw
                      case rel => exact ⟨j + 1, by omega, by go_num, by rw [HXX.out]; exact HO5.out, HT5.out, HX5.out⟩
                      case measure => simp [intOf]; omega
                ·
                  as_aux_lemma =>
                    have HXX : Hid ((l.take (j + 1)).filterMap (fun a => a.next now) = (l.take j).filterMap (fun a => a.next now) ++ [(⟨q0, q1, 2, q3, q4, q5, q6, q7, q8, q9, q10, q11, q12, X1, X2, now⟩ : Anim)]) := by
                      have hx2 := HOS.out
                      rw [HNX.out, if_neg hend] at hx2
                      exact hx2
                    have hd : decide (now - q5 < 10000) = true := by
                      have : now - q5 < 10000 := by
                        by_cases h : 10000 ≤ now - q5
                        · exact absurd (hfar h) hend
                        · omega
                      simpa using this
                    have hor : (X1 != 65536 * q4) = true ∨ ((X1 != 65536 * q4) = false ∧ (X2 != 0) = true) := by
                      by_cases h1 : X1 = 65536 * q4
                      · right
                        exact ⟨by simpa using h1, by simpa using fun h2 => hend ⟨h1, h2⟩⟩
                      · left; simpa using h1
                    clear hh hc b0 b1 b2 b3 b4 b5 b6 b7 b8 b9 hnn HNX hend hfar d0 d1 d2 d3 d4 d5 d6 d7 d8 d9
                    have x13 : w5.cell? ⟨B, 13, none⟩ = some (.int .i64 q13) := (HD5.out.cell 13).trans rfl
                    have x14 : w5.cell? ⟨B, 14, none⟩ = some (.int .i64 q14) := (HD5.out.cell 14).trans rfl
                    have x15 : w5.cell? ⟨B, 15, none⟩ = some (.int .i64 q15) := (HD5.out.cell 15).trans rfl
                    have y13 := HD5.out.free 13
                    have y14 := HD5.out.free 14
                    have y15 := HD5.out.free 15
                    have hblt := HD5.out.lt
                    have hbw : w.heap.size ≤ B := by rw [← HBB.out]; exact HB2.out.size
                    have HD6 : Hid (AnimBlk (((w5.setCell ⟨B, 13, none⟩ (.int .i64 X1)).setCell ⟨B, 14, none⟩ (.int .i64 X2)).setCell ⟨B, 15, none⟩ (.int .i64 now)) B 38 [.int .i64 q0, .int .i64 q1, .int .i64 2, .int .i64 q3, .int .i64 q4, .int .i64 q5, .int .i64 q6, .int .i64 q7, .int .i64 q8, .int .i64 q9, .int .i64 q10, .int .i64 q11, .int .i64 q12, .int .i64 X1, .int .i64 X2, .int .i64 now]) := ((HD5.out.set 13 _).set 14 _).set 15 _
                    have hg6 : w5.grownBy (((w5.setCell ⟨B, 13, none⟩ (.int .i64 X1)).setCell ⟨B, 14, none⟩ (.int .i64 X2)).setCell ⟨B, 15, none⟩ (.int .i64 now)) (some B) := grownBy_trans (grownBy_trans (grownBy_set w5 B 13 _) (grownBy_set _ B 14 _)) (grownBy_set _ B 15 _)
                    have HO6 := Lib.hid (HO5.out.kept hg6 (.inr HNe0.out))
                    have HT6 := Lib.hid (HT5.out.kept hg6 (.inr (row_blk_ne HT5.out HD5.out.2 (by decide))))
                    have HX6 : Hid (Below w.heap.size w (((w5.setCell ⟨B, 13, none⟩ (.int .i64 X1)).setCell ⟨B, 14, none⟩ (.int .i64 X2)).setCell ⟨B, 15, none⟩ (.int .i64 now))) := ((HX5.out.setCell hbw _).setCell hbw _).setCell hbw _
                    have HF : Hid (∀ G : Prop, (∃ w6, ((w5.setCell ⟨B, 13, none⟩ (.int .i64 X1)).setCell ⟨B, 14, none⟩ (.int .i64 X2)).setCell ⟨B, 15, none⟩ (.int .i64 now) = w6) → G → G) := fun _ _ h => h
                    rcases hor with hd1 | ⟨hd1, hd2⟩
                    all_goals
                      go_wp2_with (refine halt_dst 119 ?_; intro G HGo)
                      refine HGo.out ?_
                      clear HGo HF
                      obtain ⟨w6, hw6⟩ : ∃ w6, ((w5.setCell ⟨B, 13, none⟩ (.int .i64 X1)).setCell ⟨B, 14, none⟩ (.int .i64 X2)).setCell ⟨B, 15, none⟩ (.int .i64 now) = w6 := ⟨_, rfl⟩
                      rw [hw6] at HD6 HO6 HT6 HX6 ⊢
                      clear hw6 x13 x14 x15 y13 y14 y15 hblt hg6 HO5 HT5 HD5 HX5 x4 x5
                      obtain ⟨N, hN⟩ : ∃ N, ((l.take j).filterMap fun a => a.next now).length = N := ⟨_, rfl⟩
                      rw [hN] at hlen
                      have HNn := Lib.hid hN
                      have HO4 : Hid (w6.ownsRow w.heap.size 38 16 u10 N (recCells (((l.take j).filterMap fun a => a.next now).map recA))) := by have := HO6.out; rwa [hN] at this
                      clear hN
                      go_wp2_with (refine radv_append119 (w := w) hlen HX6.out.size (recCells (((l.take j).filterMap fun a => a.next now).map recA)) hi0 hz0 hz1 hz2 HO4.out HD6.out ?_; intro v' w7 hown3 hgrow3; have HOWN := Lib.hid hown3; have HGROW := Lib.hid hgrow3; clear hown3 hgrow3)
                      have HON4 : Hid (w7.ownsRow w.heap.size 38 16 v' ((l.take (j + 1)).filterMap fun a => a.next now).length (recCells (((l.take (j + 1)).filterMap fun a => a.next now).map recA))) := by
                        show World.ownsRow _ _ _ _ _ _ _
                        rw [HXX.out, List.length_append, HNn.out, List.map_append, recCells_append]; exact HOWN.out
                      have HOUT4 : Hid (w7.ownsRow w.heap.size 53 3 (.slice (some ⟨gg, 0, none⟩) (j + 1) cap') (j + 1) (recCells ((l.take (j + 1)).map (motionR now)))) := (HT6.out.alloc _).kept HGROW.out (ownsRow_ne HT6.out HO4.out (by decide))
                      have HB5 : Hid (Below w.heap.size w w7) := (HX6.out.alloc HX6.out.size _).grown HGROW.out (by have := HX6.out.size; simp; omega) (fun q hq => (HO4.out.lt q hq).1)
                      go_roundw
                      case rel => exact ⟨j + 1, by omega, by go_num, HON4.out, HOUT4.out, HB5.out⟩
                      case measure => simp [intOf]; omega
          · skip
            obtain rfl : j = k := by omega
            as_aux_lemma =>
              have e0 : l.take j = l := by rw [← HN.out]; exact List.take_length
              have hAn : IsAnims wr u10 (advOn l now) := by
                rw [advOn, if_pos HR.out]
                rw [e0] at hon
                exact ownsRow_isRecs hon (by simp) (recA_wide _)
              have hMo : IsRecs 3 wr u11 (advOut l now) := by
                rw [advOut, if_pos HR.out]
                rw [e0] at hout
                exact ownsRow_isRecs hout (by simp; exact HN.out.symm) (motion_wide _ _)
              have HAn := Lib.hid hAn
              have HMo := Lib.hid hMo
              clear hon hout hbl hAn hMo e0
              go_wp2
              go_ret3
              exact ⟨_, _, by rw [HR.out]; rfl, HAn.out, HMo.out, HB2.out⟩
theorem radvance_any (v : Value) (l : List Anim) (now : Int) (w : World) (hv : IsAnims w v l) :
    Calls Try.prog 35 #[v, .int .i64 now] w (Advanced l now w) := by
  by_cases hl : l.length ≤ 64
  · exact radvance_in v l now w hv hl
  · obtain ⟨a, cap, rfl, h1, h2, _⟩ := hv.open_
    exact radvance_long a _ cap l now w rfl (by omega) (by omega)
end Go.Proofs.Ytfcffmjmohkpoaa

