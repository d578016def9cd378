/- Set of the reference: it leaves what the program's leaves (printed by wip/gen_rset.py). -/
import Derived.Test.YtfcffmjmohkpoaaSetW
import Derived.Test.YtfcffmjmohkpoaaRSetPlain
import Derived.Test.YtfcffmjmohkpoaaValidR
import Derived.Test.YtfcffmjmohkpoaaValueR
import Derived.Test.YtfcffmjmohkpoaaSrc
import Derived.Deep.QuietTactic
import Derived.BigQuiet
import Derived.Deep.CutBlock
import Derived.Deep.CutRange
import Derived.Lib.SmallJoins
namespace Go.Proofs.Ytfcffmjmohkpoaa
open Go.RowKit
set_option linter.unusedVariables false
set_option linter.unusedSimpArgs false
def plI (n pl : Nat) : Int := if pl = n then -1 else (pl : Int)

set_option maxHeartbeats 2000000 in
set_option maxRecDepth 100000 in
theorem rcopy_list {ops : Array Oper} {Q : Exit → Act → World → Prop} {t2 t3 : TypeId} {s2 s3 : String} {e2 e3 : Array Edge} {u1 u2 u3 u4 u5 u6 u7 u8 u9 u10 u11 u12 u13 u14 u15 u16 u17 u18 u19 u20 u21 u22 u23 u24 u25 u26 u27 u28 u29 u30 u31 u32 u33 u34 u35 u36 u37 u38 u39 u40 u41 u42 u43 u44 u45 u46 u47 u48 u49 u50 u51 u52 u53 u54 u55 u56 u57 u58 u59 u60 u61 u62 u63 u64 u65 u66 u67 u68 u69 u70 u71 u72 u73 u74 u75 u76 u77 u78 u79 u80 u81 u82 u83 u84 u85 u86 u87 u88 u89 u90 u91 u92 u93 u94 u95 u96 u97 u98 u99 u100 u101 u102 u103 u104 u105 u106 u107 u108 u109 u110 u111 u112 u113 u114 u115 u116 u117 u118 u119 u120 u121 u122 u123 u124 u125 u126 u127 u128 u129 u130 u131 u132 u133 u134 u135 u136 u137 u139 u140 u141 u142 u143 u144 u145 u146 u147 u148 u149 u150 : Value} {a : Option Addr} {n cap : Nat} {w : World} {base : Nat} {l : List Anim} (hl : IsAnims w (.slice a n cap) l) (hn : n ≤ 64) (hbase : base ≤ w.heap.size)
   {i0 : TypeInfo} (hi0 : Try.prog.info? 38 = some i0) (hz0 : i0.zero = some (.agg #[.int .i64 0, .int .i64 0, .int .i64 0, .int .i64 0, .int .i64 0, .int .i64 0, .int .i64 0, .int .i64 0, .int .i64 0, .int .i64 0, .int .i64 0, .int .i64 0, .int .i64 0, .int .i64 0, .int .i64 0, .int .i64 0])) (hz1 : i0.size = 16) (hz2 : i0.bytes = 128)
   (hQ : ∀ v' w3, w3.ownsRow base 38 16 v' n (recCells (l.map recA)) → (∀ B, B ≤ w.heap.size → Below B w w3) → Q .normal ⟨#[.slice a n cap, u1, u2, u3, u4, u5, u6, u7, u8, u9, u10, u11, u12, v', u14, u15, u16, u17, u18, u19, u20, u21, u22, u23, u24, u25, u26, u27, u28, u29, u30, u31, u32, u33, u34, u35, u36, u37, u38, u39, u40, u41, u42, u43, u44, u45, u46, u47, u48, u49, u50, u51, u52, u53, u54, u55, u56, u57, u58, u59, u60, u61, u62, u63, u64, u65, u66, u67, u68, u69, u70, u71, u72, u73, u74, u75, u76, u77, u78, u79, u80, u81, u82, u83, u84, u85, u86, u87, u88, u89, u90, u91, u92, u93, u94, u95, u96, u97, u98, u99, u100, u101, u102, u103, u104, u105, u106, u107, u108, u109, u110, u111, u112, u113, u114, u115, u116, u117, u118, u119, u120, u121, u122, u123, u124, u125, u126, u127, u128, u129, u130, u131, u132, u133, u134, u135, u136, u137, .slice a n cap, v', u140, u141, u142, u143, u144, u145, u146, u147, u148, u149, u150], []⟩ w3) :
   wpList Try.prog ops Q [⟨some 139, .call { callee := .builtin .append, args := #[.const (.slice none 0 0), .tmp 138], argTypes := #[40, 40] }, t2, s2, e2, none⟩, ⟨some 13, .assign (.tmp 139), t3, s3, e3, none⟩] ⟨#[.slice a n cap, u1, u2, u3, u4, u5, u6, u7, u8, u9, u10, u11, u12, u13, u14, u15, u16, u17, u18, u19, u20, u21, u22, u23, u24, u25, u26, u27, u28, u29, u30, u31, u32, u33, u34, u35, u36, u37, u38, u39, u40, u41, u42, u43, u44, u45, u46, u47, u48, u49, u50, u51, u52, u53, u54, u55, u56, u57, u58, u59, u60, u61, u62, u63, u64, u65, u66, u67, u68, u69, u70, u71, u72, u73, u74, u75, u76, u77, u78, u79, u80, u81, u82, u83, u84, u85, u86, u87, u88, u89, u90, u91, u92, u93, u94, u95, u96, u97, u98, u99, u100, u101, u102, u103, u104, u105, u106, u107, u108, u109, u110, u111, u112, u113, u114, u115, u116, u117, u118, u119, u120, u121, u122, u123, u124, u125, u126, u127, u128, u129, u130, u131, u132, u133, u134, u135, u136, u137, .slice a n cap, u139, u140, u141, u142, u143, u144, u145, u146, u147, u148, u149, u150], []⟩ w := by
  have HQ := Lib.hid hQ
  have hle : n = l.length := by obtain ⟨a', cap', he, _⟩ := hl; injection he; simp_all
  have hll : (l.map recA).length = n := by rw [List.length_map]; exact hle.symm
  clear hQ
  by_cases h0 : n = 0
  · subst h0
    have hnil : l = [] := List.eq_nil_of_length_eq_zero hle.symm
    subst hnil
    clear hl hle hll
    cases a with
    | none =>
      go_wp2
      exact HQ.out _ _ (World.ownsRow_nil _ _ _ _) (fun B hB => Below.refl _ _)
    | some ad =>
      go_wp2
      exact HQ.out _ _ (World.ownsRow_nil _ _ _ _) (fun B hB => Below.refl _ _)
  · have hp : 0 < (l.map recA).length := by omega
    have hl2 : IsRecs 16 w (.slice a n cap) (l.map recA) := hl
    obtain ⟨b, off, rfl, hlt⟩ : ∃ b off, a = some ⟨b, off, none⟩ ∧ b < w.heap.size := by
      obtain ⟨a', cap', he, h1, h2, h3⟩ := hl2
      obtain ⟨b, off, ha, hlt, _⟩ := h3 hp
      have hab : a = a' := by injection he
      exact ⟨b, off, hab.trans ha, hlt⟩
    have HLL := Lib.hid hll
    clear hl hle hll
    go_wp2_with (at_builtin; go_loud (refine wpList_append_own _ rfl _ _ 40 rfl base 38 i0 _ 16 128 Try.underlying40 hi0 hz0 hz1 hz2 rfl (by decide) _ 0 [] rfl (World.ownsRow_nil _ _ _ _) ⟨b, off, none⟩ n cap (recCells (l.map recA)) rfl (by rw [recCells_len (recA_wide l), HLL.out]) (news_of_recs (by omega) (recA_wide l) hl2 hp) (recCells_one _) (by unfold maxLen; omega) (by omega) (by first | exact hbase | omega) ?_); intro v' w3 hown3 hgrow3 _)
    refine HQ.out v' w3 (by rw [Nat.zero_add] at hown3; exact hown3) (fun B hB => ?_)
    have hqq : ∀ q, (.slice none 0 0 : Value).ownBlock = some q → B ≤ q := fun q hq => by cases hq
    exact Below.grown (Below.refl _ _) hgrow3 hB hqq

set_option maxHeartbeats 2000000 in
set_option maxRecDepth 100000 in
theorem rgrow_list {ops : Array Oper} {Q : Exit → Act → World → Prop} {t1 t2 t3 t4 t5 : TypeId} {s1 s2 s3 s4 s5 : String} {e1 e2 e3 e4 e5 : Array Edge} {r0 r1 r2 r3 r4 r5 r6 r7 r8 r9 r10 r11 r12 r13 r14 r15 : Int} {u0 u1 u2 u3 u5 u6 u7 u8 u9 u10 u11 u12 u13 u14 u15 u16 u17 u18 u19 u20 u21 u22 u23 u24 u25 u26 u27 u28 u29 u30 u31 u32 u33 u34 u35 u36 u37 u38 u39 u40 u41 u42 u43 u44 u45 u46 u47 u48 u49 u50 u51 u52 u53 u54 u55 u56 u57 u58 u59 u60 u61 u62 u63 u64 u65 u66 u67 u68 u69 u70 u71 u72 u73 u74 u75 u76 u77 u78 u79 u80 u81 u82 u83 u84 u85 u86 u87 u88 u89 u90 u91 u92 u93 u94 u95 u96 u97 u98 u99 u100 u101 u102 u103 u104 u105 u106 u107 u108 u109 u110 u111 u112 u113 u114 u115 u116 u117 u118 u119 u120 u121 u122 u123 u124 u125 u126 u127 u128 u129 u130 u131 u132 u133 u134 u135 u136 u137 u138 u139 u140 u141 u142 u143 u144 u145 u146 u147 u148 u149 u150 : Value} {A0 N base : Nat} {w : World} (hNN : N ≤ 64) (hbase : base ≤ w.heap.size) (xs : List Value)
   {i0 : TypeInfo} (hi0 : Try.prog.info? 38 = some i0) (hz0 : i0.zero = some (.agg #[.int .i64 0, .int .i64 0, .int .i64 0, .int .i64 0, .int .i64 0, .int .i64 0, .int .i64 0, .int .i64 0, .int .i64 0, .int .i64 0, .int .i64 0, .int .i64 0, .int .i64 0, .int .i64 0, .int .i64 0, .int .i64 0])) (hz1 : i0.size = 16) (hz2 : i0.bytes = 128)
   (hown : w.ownsRow base 38 16 u142 N xs) (HBA : AnimBlk w A0 38 [.int .i64 r0, .int .i64 r1, .int .i64 r2, .int .i64 r3, .int .i64 r4, .int .i64 r5, .int .i64 r6, .int .i64 r7, .int .i64 r8, .int .i64 r9, .int .i64 r10, .int .i64 r11, .int .i64 r12, .int .i64 r13, .int .i64 r14, .int .i64 r15])
   (hQ : ∀ v' w3, w3.ownsRow base 38 16 v' (N + 1) (xs ++ [.int .i64 r0, .int .i64 r1, .int .i64 r2, .int .i64 r3, .int .i64 r4, .int .i64 r5, .int .i64 r6, .int .i64 r7, .int .i64 r8, .int .i64 r9, .int .i64 r10, .int .i64 r11, .int .i64 r12, .int .i64 r13, .int .i64 r14, .int .i64 r15]) → (∀ B, B ≤ base → Below B w w3) → Q .normal ⟨#[u0, u1, u2, u3, .pointer (some ⟨A0, 0, none⟩), u5, v', .int .i64 0, u8, u9, u10, u11, u12, u13, u14, u15, u16, u17, u18, u19, u20, u21, u22, u23, u24, u25, u26, u27, u28, u29, u30, u31, u32, u33, u34, u35, u36, u37, u38, u39, u40, u41, u42, u43, u44, u45, u46, u47, u48, u49, u50, u51, u52, u53, u54, u55, u56, u57, u58, u59, u60, u61, u62, u63, u64, u65, u66, u67, u68, u69, u70, u71, u72, u73, u74, u75, u76, u77, u78, u79, u80, u81, u82, u83, u84, u85, u86, u87, u88, u89, u90, u91, u92, u93, u94, u95, u96, u97, u98, u99, u100, u101, u102, u103, u104, u105, u106, u107, u108, u109, u110, u111, u112, u113, u114, u115, u116, u117, u118, u119, u120, u121, u122, u123, u124, u125, u126, u127, u128, u129, u130, u131, u132, u133, u134, u135, u136, u137, u138, u139, u140, u141, u142, .agg #[.int .i64 r0, .int .i64 r1, .int .i64 r2, .int .i64 r3, .int .i64 r4, .int .i64 r5, .int .i64 r6, .int .i64 r7, .int .i64 r8, .int .i64 r9, .int .i64 r10, .int .i64 r11, .int .i64 r12, .int .i64 r13, .int .i64 r14, .int .i64 r15], .slice (some ⟨w.heap.size, 0, none⟩) 1 1, v', u146, u147, u148, u149, u150], []⟩ w3) :
   wpList Try.prog ops Q [⟨some 143, .load 38 (.tmp 4), t1, s1, e1, none⟩, ⟨some 144, .buildSlice 40 1 #[(0, .tmp 143)], t2, s2, e2, none⟩, ⟨some 145, .call { callee := .builtin .append, args := #[.tmp 142, .tmp 144], argTypes := #[40, 40] }, t3, s3, e3, none⟩, ⟨some 6, .assign (.tmp 145), t4, s4, e4, none⟩, ⟨some 7, .assign (.const (.int .i64 0)), t5, s5, e5, none⟩] ⟨#[u0, u1, u2, u3, .pointer (some ⟨A0, 0, none⟩), u5, u6, u7, u8, u9, u10, u11, u12, u13, u14, u15, u16, u17, u18, u19, u20, u21, u22, u23, u24, u25, u26, u27, u28, u29, u30, u31, u32, u33, u34, u35, u36, u37, u38, u39, u40, u41, u42, u43, u44, u45, u46, u47, u48, u49, u50, u51, u52, u53, u54, u55, u56, u57, u58, u59, u60, u61, u62, u63, u64, u65, u66, u67, u68, u69, u70, u71, u72, u73, u74, u75, u76, u77, u78, u79, u80, u81, u82, u83, u84, u85, u86, u87, u88, u89, u90, u91, u92, u93, u94, u95, u96, u97, u98, u99, u100, u101, u102, u103, u104, u105, u106, u107, u108, u109, u110, u111, u112, u113, u114, u115, u116, u117, u118, u119, u120, u121, u122, u123, u124, u125, u126, u127, u128, u129, u130, u131, u132, u133, u134, u135, u136, u137, u138, u139, u140, u141, u142, u143, u144, u145, u146, u147, u148, u149, u150], []⟩ w := by
  have HQ := Lib.hid hQ
  clear hQ
  go_wp2_with (first | (refine load_anim rfl _ rfl A0 rfl _ _ HBA ?_) | (at_builtin; refine wpList_append_own _ rfl _ _ 40 rfl base 38 i0 _ 16 128 Try.underlying40 hi0 hz0 hz1 hz2 rfl (by decide) _ N xs rfl (hown.alloc _) ⟨w.heap.size, 0, none⟩ 1 1 [.int .i64 r0, .int .i64 r1, .int .i64 r2, .int .i64 r3, .int .i64 r4, .int .i64 r5, .int .i64 r6, .int .i64 r7, .int .i64 r8, .int .i64 r9, .int .i64 r10, .int .i64 r11, .int .i64 r12, .int .i64 r13, .int .i64 r14, .int .i64 r15] rfl rfl (World.news_of_block (cs := #[.int .i64 r0, .int .i64 r1, .int .i64 r2, .int .i64 r3, .int .i64 r4, .int .i64 r5, .int .i64 r6, .int .i64 r7, .int .i64 r8, .int .i64 r9, .int .i64 r10, .int .i64 r11, .int .i64 r12, .int .i64 r13, .int .i64 r14, .int .i64 r15]) (t := 38) (fr := (0, 0)) (heap_alloc_new _ _)) (by simp [Value.oneCell']) (by unfold maxLen; omega) (by omega) (by simp; omega) ?_; intro v' w3 hown3 hgrow3 _))
  refine HQ.out v' w3 hown3 (fun B hB => ?_)
  exact Below.grown ((Below.refl _ _).alloc (Nat.le_trans hB hbase) _) hgrow3 (by simp; omega) (fun q hq => Nat.le_trans hB (hown.lt q hq).1)

set_option maxHeartbeats 2000000 in
set_option maxRecDepth 100000 in
theorem rput_list {ops : Array Oper} {Q : Exit → Act → World → Prop} {t1 t2 t3 : TypeId} {s1 s2 s3 : String} {e1 e2 e3 : Array Edge} {r0 r1 r2 r3 r4 r5 r6 r7 r8 r9 r10 r11 r12 r13 r14 r15 : Int} {u0 u1 u2 u3 u5 u6 u7 u8 u9 u10 u11 u12 u13 u14 u15 u16 u17 u18 u19 u20 u21 u22 u23 u24 u25 u26 u27 u28 u29 u30 u31 u32 u33 u34 u35 u36 u37 u38 u39 u40 u41 u42 u43 u44 u45 u46 u47 u48 u49 u50 u51 u52 u53 u54 u55 u56 u57 u58 u59 u60 u61 u62 u63 u64 u65 u66 u67 u68 u69 u70 u71 u72 u73 u74 u75 u76 u77 u78 u79 u80 u81 u82 u83 u84 u85 u86 u87 u88 u89 u90 u91 u92 u93 u94 u95 u96 u97 u98 u99 u100 u101 u102 u103 u104 u105 u106 u107 u108 u109 u110 u111 u112 u113 u114 u115 u116 u117 u118 u119 u120 u121 u122 u123 u124 u125 u126 u127 u128 u129 u130 u131 u132 u133 u134 u135 u136 u137 u138 u139 u140 u141 u142 u143 u144 u145 u148 u149 u150 : Value} {A0 base g cap n pl : Nat} {w : World} {l : List Anim} (hn : n = l.length) (hpl : pl < n)
   (hown : w.ownsRow base 38 16 (.slice (some ⟨g, 0, none⟩) n cap) n (recCells (l.map recA))) (HBA : AnimBlk w A0 38 [.int .i64 r0, .int .i64 r1, .int .i64 r2, .int .i64 r3, .int .i64 r4, .int .i64 r5, .int .i64 r6, .int .i64 r7, .int .i64 r8, .int .i64 r9, .int .i64 r10, .int .i64 r11, .int .i64 r12, .int .i64 r13, .int .i64 r14, .int .i64 r15])
   (hQ : ∀ ad w3, IsAnims w3 (.slice (some ⟨g, 0, none⟩) n cap) (l.set pl ⟨r0, r1, r2, r3, r4, r5, r6, r7, r8, r9, r10, r11, r12, r13, r14, r15⟩) → (∀ B, B ≤ base → Below B w w3) → Q .normal ⟨#[u0, u1, u2, u3, .pointer (some ⟨A0, 0, none⟩), u5, u6, u7, u8, u9, u10, u11, u12, u13, u14, u15, u16, u17, u18, u19, u20, u21, u22, u23, u24, u25, u26, u27, u28, u29, u30, u31, u32, u33, u34, u35, u36, u37, u38, u39, u40, u41, u42, u43, u44, u45, u46, u47, u48, u49, u50, u51, u52, u53, u54, u55, u56, u57, u58, u59, u60, u61, u62, u63, u64, u65, u66, u67, u68, u69, u70, u71, u72, u73, u74, u75, u76, u77, u78, u79, u80, u81, u82, u83, u84, u85, u86, u87, u88, u89, u90, u91, u92, u93, u94, u95, u96, u97, u98, u99, u100, u101, u102, u103, u104, u105, u106, u107, u108, u109, u110, u111, u112, u113, u114, u115, u116, u117, u118, u119, u120, u121, u122, u123, u124, u125, u126, u127, u128, u129, u130, u131, u132, u133, u134, u135, u136, u137, u138, u139, u140, u141, u142, u143, u144, u145, .slice (some ⟨g, 0, none⟩) n cap, .int .i64 (pl : Int), .agg #[.int .i64 r0, .int .i64 r1, .int .i64 r2, .int .i64 r3, .int .i64 r4, .int .i64 r5, .int .i64 r6, .int .i64 r7, .int .i64 r8, .int .i64 r9, .int .i64 r10, .int .i64 r11, .int .i64 r12, .int .i64 r13, .int .i64 r14, .int .i64 r15], ad, u150], []⟩ w3) :
   wpList Try.prog ops Q [⟨some 148, .load 38 (.tmp 4), t1, s1, e1, none⟩, ⟨some 149, .indexAddr 40 (.tmp 146) (.tmp 147), t2, s2, e2, none⟩, ⟨none, .store 38 (.tmp 149) (.tmp 148), t3, s3, e3, none⟩] ⟨#[u0, u1, u2, u3, .pointer (some ⟨A0, 0, none⟩), u5, u6, u7, u8, u9, u10, u11, u12, u13, u14, u15, u16, u17, u18, u19, u20, u21, u22, u23, u24, u25, u26, u27, u28, u29, u30, u31, u32, u33, u34, u35, u36, u37, u38, u39, u40, u41, u42, u43, u44, u45, u46, u47, u48, u49, u50, u51, u52, u53, u54, u55, u56, u57, u58, u59, u60, u61, u62, u63, u64, u65, u66, u67, u68, u69, u70, u71, u72, u73, u74, u75, u76, u77, u78, u79, u80, u81, u82, u83, u84, u85, u86, u87, u88, u89, u90, u91, u92, u93, u94, u95, u96, u97, u98, u99, u100, u101, u102, u103, u104, u105, u106, u107, u108, u109, u110, u111, u112, u113, u114, u115, u116, u117, u118, u119, u120, u121, u122, u123, u124, u125, u126, u127, u128, u129, u130, u131, u132, u133, u134, u135, u136, u137, u138, u139, u140, u141, u142, u143, u144, u145, .slice (some ⟨g, 0, none⟩) n cap, .int .i64 (pl : Int), u148, u149, u150], []⟩ w := by
  have HQ := Lib.hid hQ
  obtain ⟨hth, his⟩ := put_row hown hn hpl ⟨r0, r1, r2, r3, r4, r5, r6, r7, r8, r9, r10, r11, r12, r13, r14, r15⟩
  have HTH := Lib.hid hth
  have HIS := Lib.hid his
  have hbg : base ≤ g := (hown.lt g rfl).1
  clear hQ hth his hn hown
  go_wp2_with (first | (refine load_anim rfl _ rfl A0 rfl _ _ HBA ?_) | (refine wpList_store_mid rfl 38 _ _ rfl g (pl * 16) #[.int .i64 r0, .int .i64 r1, .int .i64 r2, .int .i64 r3, .int .i64 r4, .int .i64 r5, .int .i64 r6, .int .i64 r7, .int .i64 r8, .int .i64 r9, .int .i64 r10, .int .i64 r11, .int .i64 r12, .int .i64 r13, .int .i64 r14, .int .i64 r15] rfl rfl HTH.out anim_row.2 (by simp [Value.oneCell']) ?_))
  exact HQ.out _ _ HIS.out (fun B hB => below_fillL (Nat.le_trans hB hbg) _ _ _ (Below.refl _ _))

set_option maxHeartbeats 16000000 in
set_option maxRecDepth 100000 in
theorem rset_in (v : Value) (l : List Anim) (q0 q1 q2 q3 q4 q5 q6 q7 q8 q9 q10 q11 q12 q13 q14 q15 now : Int) (w : World) (hv : IsAnims w v l) (hl : l.length ≤ 64) (hbt : btw now 0 1099511627776 = true) :
    Calls Try.prog 36 #[v, .agg #[.int .i64 q0, .int .i64 q1, .int .i64 q2, .int .i64 q3, .int .i64 q4, .int .i64 q5, .int .i64 q6, .int .i64 q7, .int .i64 q8, .int .i64 q9, .int .i64 q10, .int .i64 q11, .int .i64 q12, .int .i64 q13, .int .i64 q14, .int .i64 q15], .int .i64 now] w (Setted l (⟨q0, q1, q2, q3, q4, q5, q6, q7, q8, q9, q10, q11, q12, q13, q14, q15⟩ : Anim) now w) := by
  obtain ⟨i0, hi0, hz0, hz1, hz2⟩ := info_parts info_anim2
  obtain ⟨a, cap, rfl, h1, h2, h3⟩ := hv.open_
  obtain ⟨n, hn⟩ : ∃ n, l.length = n := ⟨_, rfl⟩
  rw [hn] at hv h1 h3 hl ⊢
  have HV0 := Lib.hid hv
  have H3 := Lib.hid h3
  have HN := Lib.hid hn
  have hl' : (n : Int) ≤ 64 := by omega
  have HP0 : Hid (PlaceTo l (⟨q0, q1, q2, q3, q4, q5, q6, q7, q8, q9, q10, q11, q12, q13, q14, q15⟩ : Anim) 0 n) := by have := PlaceTo.start l (⟨q0, q1, q2, q3, q4, q5, q6, q7, q8, q9, q10, q11, q12, q13, q14, q15⟩ : Anim); rwa [hn] at this
  clear h3 hn h2 hv
  go_enter Try.func36, Try.ntmps36
  go_wp2_with (go_at_call 45; refine (rin_any _ _ _ _).mono ?_; rintro e w' ⟨rfl, rfl⟩)
  obtain ⟨B, hB⟩ : ∃ B, w.heap.size = B := ⟨_, rfl⟩
  have HBE := Lib.hid hB
  have HBW : Hid (w.heap.size ≤ B) := by show _ ≤ _; omega
  rw [hB]
  clear hB
  go_loopw [8, 9] (fun p i wr => ∃ k pl : Nat, k ≤ n ∧ i = .int .i64 k ∧ p = .int .i64 (plI n pl) ∧ Hid (PlaceTo l (⟨q0, q1, q2, q3, q4, q5, q6, q7, q8, q9, q10, q11, q12, q13, q14, q15⟩ : Anim) k pl) ∧ Hid (validTo l k) ∧ Below (w.alloc (.cells #[.int .i64 q0, .int .i64 q1, .int .i64 q2, .int .i64 q3, .int .i64 q4, .int .i64 q5, .int .i64 q6, .int .i64 q7, .int .i64 q8, .int .i64 q9, .int .i64 q10, .int .i64 q11, .int .i64 q12, .int .i64 q13, .int .i64 q14, .int .i64 q15] 38)).heap.size (w.alloc (.cells #[.int .i64 q0, .int .i64 q1, .int .i64 q2, .int .i64 q3, .int .i64 q4, .int .i64 q5, .int .i64 q6, .int .i64 q7, .int .i64 q8, .int .i64 q9, .int .i64 q10, .int .i64 q11, .int .i64 q12, .int .i64 q13, .int .i64 q14, .int .i64 q15] 38)) wr) (fun _ i _ => n - (intOf i).toNat)
  case atStart => exact ⟨0, n, Nat.zero_le _, rfl, by simp [plI], HP0, fun i hi => absurd hi (Nat.not_lt_zero _), Below.refl _ _⟩
  case round =>
    obtain ⟨k, pl, hk, rfl, rfl, HP, HV, hbl⟩ := hrel
    have hbw : Below w.heap.size w wr := ((Below.refl _ _).alloc (Nat.le_refl _) _).trans (hbl.mono (by simp))
    have HBl := Lib.hid hbl
    have HB := Lib.hid hbw
    have HA0 : Hid (AnimBlk wr B 38 [.int .i64 q0, .int .i64 q1, .int .i64 q2, .int .i64 q3, .int .i64 q4, .int .i64 q5, .int .i64 q6, .int .i64 q7, .int .i64 q8, .int .i64 q9, .int .i64 q10, .int .i64 q11, .int .i64 q12, .int .i64 q13, .int .i64 q14, .int .i64 q15]) := by
      have h := (animBlk_new w [.int .i64 q0, .int .i64 q1, .int .i64 q2, .int .i64 q3, .int .i64 q4, .int .i64 q5, .int .i64 q6, .int .i64 q7, .int .i64 q8, .int .i64 q9, .int .i64 q10, .int .i64 q11, .int .i64 q12, .int .i64 q13, .int .i64 q14, .int .i64 q15] 38 rfl).kept hbl (by simp)
      rw [HBE.out] at h
      exact h
    by_cases hkn : k < n
    ·
      as_aux_lemma =>
        obtain ⟨b, off, rfl, hlt, hcell⟩ := H3.out (by omega)
        have HLT := Lib.hid hlt
        have hkn' : (k : Int) < (n : Int) := by omega
        have hk0 : (0 : Int) ≤ (k : Int) := by omega
        obtain ⟨g, hg⟩ : ∃ g, ga l k = g := ⟨_, rfl⟩
        have HG := Lib.hid hg
        have HOF := Lib.hid (hcell k hkn)
        have HS := Lib.hid (HP.out.skip (by rw [HN.out]; exact hkn))
        have HHr : Hid (pl = n → sameKey (ga l k) (⟨q0, q1, q2, q3, q4, q5, q6, q7, q8, q9, q10, q11, q12, q13, q14, q15⟩ : Anim) = true → PlaceTo l (⟨q0, q1, q2, q3, q4, q5, q6, q7, q8, q9, q10, q11, q12, q13, q14, q15⟩ : Anim) (k + 1) k) := fun e1 e2 => by
          have hp := HP.out
          rw [e1, ← HN.out] at hp
          exact hp.here (by rw [HN.out]; exact hkn) e2
        rw [hg] at HOF
        obtain ⟨g0, g1, g2, g3, g4, g5, g6, g7, g8, g9, g10, g11, g12, g13, g14, g15⟩ := g
        have hof := HOF.out.kept hbw hlt
        obtain ⟨c0, c1, c2, c3, c4, c5, c6, c7, c8, c9, c10, c11, c12, c13, c14, c15⟩ := hof
        simp only at c0 c1 c2 c3 c4 c5 c6 c7 c8 c9 c10 c11 c12 c13 c14 c15
        obtain ⟨E, hE⟩ : ∃ E, (⟨g0, g1, g2, g3, g4, g5, g6, g7, g8, g9, g10, g11, g12, g13, g14, g15⟩ : Anim).err = E := ⟨_, rfl⟩
        have HE := Lib.hid hE
        obtain ⟨P, hP⟩ : ∃ P, plI n pl = P := ⟨_, rfl⟩
        have HPI := Lib.hid hP
        rw [hP]
        clear hcell hg hE hbl hbw hlt hP
        go_wp2_with fail
        refine (rValidate_any _ _ _ _ _ _ _ _ _ _ _ _ _ _ _ _ _).mono ?_
        rw [HE.out]
        rintro e w2 ⟨rfl, hb⟩
        have HBn : Hid (Below (w.alloc (.cells #[.int .i64 q0, .int .i64 q1, .int .i64 q2, .int .i64 q3, .int .i64 q4, .int .i64 q5, .int .i64 q6, .int .i64 q7, .int .i64 q8, .int .i64 q9, .int .i64 q10, .int .i64 q11, .int .i64 q12, .int .i64 q13, .int .i64 q14, .int .i64 q15] 38)).heap.size (w.alloc (.cells #[.int .i64 q0, .int .i64 q1, .int .i64 q2, .int .i64 q3, .int .i64 q4, .int .i64 q5, .int .i64 q6, .int .i64 q7, .int .i64 q8, .int .i64 q9, .int .i64 q10, .int .i64 q11, .int .i64 q12, .int .i64 q13, .int .i64 q14, .int .i64 q15] 38)) w2) := HBl.out.trans (hb.mono HBl.out.size)
        have HBw2 : Hid (Below w.heap.size w w2) := HB.out.trans (hb.mono HB.out.size)
        have d0 : w2.cell? ⟨b, off + k * 16, none⟩ = some (.int .i64 g0) := (hb.cell (p := ⟨b, off + k * 16, none⟩) (Nat.lt_of_lt_of_le HLT.out HB.out.size)).trans c0
        have d1 : w2.cell? ⟨b, off + k * 16 + 1, none⟩ = some (.int .i64 g1) := (hb.cell (p := ⟨b, off + k * 16 + 1, none⟩) (Nat.lt_of_lt_of_le HLT.out HB.out.size)).trans c1
        have HA2 : Hid (AnimBlk w2 B 38 [.int .i64 q0, .int .i64 q1, .int .i64 q2, .int .i64 q3, .int .i64 q4, .int .i64 q5, .int .i64 q6, .int .i64 q7, .int .i64 q8, .int .i64 q9, .int .i64 q10, .int .i64 q11, .int .i64 q12, .int .i64 q13, .int .i64 q14, .int .i64 q15]) := HA0.out.kept hb HA0.out.lt
        have a0 : w2.cell? ⟨B, 0, none⟩ = some (.int .i64 q0) := (HA2.out.cell 0).trans rfl
        have a1 : w2.cell? ⟨B, 1, none⟩ = some (.int .i64 q1) := (HA2.out.cell 1).trans rfl
        clear hb c0 c1 c2 c3 c4 c5 c6 c7 c8 c9 c10 c11 c12 c13 c14 c15
        by_cases he : E = 0
        · have HVs : Hid (validTo l (k + 1)) := by
            intro i hi
            by_cases ci : i = k
            · subst ci; rw [HG.out, HE.out]; exact he
            · exact HV.out i (by omega)
          have e1 : (E != 0) = false := by simpa using he
          clear he
          by_cases hpl : pl = n
          · have hPv : P = -1 := by rw [← HPI.out]; simp [plI, hpl]
            have hP1 : decide (P < 0) = true := by simp; omega
            have hP2 : P < 0 := by omega
            by_cases k0 : g0 = q0
            · have f0 : (g0 == q0) = true := by simpa using k0
              by_cases k1 : g1 = q1
              · have HK : Hid (PlaceTo l (⟨q0, q1, q2, q3, q4, q5, q6, q7, q8, q9, q10, q11, q12, q13, q14, q15⟩ : Anim) (k + 1) k) := HHr.out hpl (by rw [HG.out]; simp [sameKey, k0, k1])
                have HPN : Hid (plI n k = (k : Int)) := by show _ = _; simp [plI]; omega
                have f1 : (g1 == q1) = true := by simpa using k1
                clear k0 k1 hPv
                go_wp2_with fail
                go_quiet (fail)
                go_wp2
                go_roundw
                case rel => exact ⟨k + 1, k, by omega, by go_num, by rw [HPN.out], HK, HVs, HBn.out.trans (Joins.below_draws _ _ _)⟩
                case measure => simp [intOf]; omega
              · have HK : Hid (PlaceTo l (⟨q0, q1, q2, q3, q4, q5, q6, q7, q8, q9, q10, q11, q12, q13, q14, q15⟩ : Anim) (k + 1) pl) := HS.out (fun _ => by rw [HG.out]; simp [sameKey, k1])
                have f1 : (g1 == q1) = false := by simpa using k1
                clear k0 k1 hPv
                go_wp2_with fail
                go_quiet (fail)
                go_wp2
                go_roundw
                case rel => exact ⟨k + 1, pl, by omega, by go_num, by rw [HPI.out], HK, HVs, HBn.out.trans (Joins.below_draws _ _ _)⟩
                case measure => simp [intOf]; omega
            · have HK : Hid (PlaceTo l (⟨q0, q1, q2, q3, q4, q5, q6, q7, q8, q9, q10, q11, q12, q13, q14, q15⟩ : Anim) (k + 1) pl) := HS.out (fun _ => by rw [HG.out]; simp [sameKey, k0])
              have f0 : (g0 == q0) = false := by simpa using k0
              clear k0 hPv
              go_wp2_with fail
              go_quiet (fail)
              go_wp2
              go_roundw
              case rel => exact ⟨k + 1, pl, by omega, by go_num, by rw [HPI.out], HK, HVs, HBn.out.trans (Joins.below_draws _ _ _)⟩
              case measure => simp [intOf]; omega
          · have hPv : P = (pl : Int) := by rw [← HPI.out]; simp [plI, hpl]
            have hP1 : decide (P < 0) = false := by simp; omega
            have hP2 : ¬ P < 0 := by omega
            have HK : Hid (PlaceTo l (⟨q0, q1, q2, q3, q4, q5, q6, q7, q8, q9, q10, q11, q12, q13, q14, q15⟩ : Anim) (k + 1) pl) := HS.out (fun e => absurd (e.trans HN.out) hpl)
            clear hPv
            go_wp2_with fail
            go_quiet (fail)
            go_wp2
            go_roundw
            case rel => exact ⟨k + 1, pl, by omega, by go_num, by rw [HPI.out], HK, HVs, HBn.out.trans (Joins.below_draws _ _ _)⟩
            case measure => simp [intOf]; omega
        · have HR : Hid (setErr l (⟨q0, q1, q2, q3, q4, q5, q6, q7, q8, q9, q10, q11, q12, q13, q14, q15⟩ : Anim) now = E) := by
            have e1 : firstErr l = E := by rw [firstErr_stop HV.out (by rw [HN.out]; exact hkn) (by rw [HG.out, HE.out]; exact he), HG.out, HE.out]
            show _ = _
            rw [setErr, if_neg (by rw [HN.out]; omega), if_neg (by rw [hbt]; decide), e1, if_pos he]
          have HEn := Lib.hid he
          have e2 : (E != 0) = true := by simpa using he
          clear he
          go_wp2
          go_ret2
          exact Setted.no HR.out HEn.out HBw2.out
    · obtain rfl : k = n := by omega
      have hfe : firstErr l = 0 := firstErr_none (by rw [HN.out]; exact HV.out)
      have hpl : place l (⟨q0, q1, q2, q3, q4, q5, q6, q7, q8, q9, q10, q11, q12, q13, q14, q15⟩ : Anim) = pl := by have hp := HP.out; rw [← HN.out] at hp; exact hp.place
      have HFE := Lib.hid hfe
      have HPL := Lib.hid hpl
      have hple : pl ≤ k := by have hp := HP.out; have h8 := HN.out; rcases hp with ⟨h, -⟩ | ⟨h, -⟩ <;> omega
      have a5 : wr.cell? ⟨B, 5, none⟩ = some (.int .i64 q5) := (HA0.out.cell 5).trans rfl
      have a15 : wr.cell? ⟨B, 15, none⟩ = some (.int .i64 q15) := (HA0.out.cell 15).trans rfl
      have z5 := HA0.out.free 5
      have z15 := HA0.out.free 15
      have hlt1 := HA0.out.lt
      obtain ⟨n, rfl⟩ : ∃ n, n = k := ⟨_, rfl⟩
      obtain ⟨P, hP⟩ : ∃ P, plI n pl = P := ⟨_, rfl⟩
      have HPI := Lib.hid hP
      rw [hP]
      clear hbl hbw hfe hpl hP
      go_upto_region 15 with fail
      obtain ⟨w1, hw1⟩ : ∃ w1, (wr.setCell ⟨B, 5, none⟩ (.int .i64 now)).setCell ⟨B, 15, none⟩ (.int .i64 now) = w1 := ⟨_, rfl⟩
      have HA1 : Hid (AnimBlk w1 B 38 [.int .i64 q0, .int .i64 q1, .int .i64 q2, .int .i64 q3, .int .i64 q4, .int .i64 now, .int .i64 q6, .int .i64 q7, .int .i64 q8, .int .i64 q9, .int .i64 q10, .int .i64 q11, .int .i64 q12, .int .i64 q13, .int .i64 q14, .int .i64 now]) := by rw [← hw1]; exact (HA0.out.set 5 _).set 15 _
      have HB1 : Hid (Below w.heap.size w w1) := by rw [← hw1]; exact (HB.out.setCell HBW.out _).setCell HBW.out _
      rw [hw1]
      clear hw1 a5 a15 z5 z15 hlt1 HA0 HB HBl
      by_cases hpn : pl < n
      · skip
        have hPv : P = (pl : Int) := by rw [← HPI.out]; unfold plI; rw [if_neg (by omega)]
        subst hPv
        have hq : decide ((0 : Int) ≤ (pl : Int)) = true := by simp
        have hq2 : decide ((pl : Int) < 0) = false := by simp
        have e9 : (pl : Int) < (n : Int) := by omega
        have e0 : (0 : Int) ≤ (pl : Int) := by omega
        have e8 : ¬ (pl : Int) < 0 := by omega
        obtain ⟨b, off, rfl, hlt, hcell⟩ := H3.out (by omega)
        have HLT := Lib.hid hlt
        have hbB : ¬ b = B := by have := HBE.out; omega
        have hBb : ¬ B = b := by have := HBE.out; omega
        have HOF := Lib.hid (hcell pl hpn)
        obtain ⟨g, hg⟩ : ∃ g, ga l pl = g := ⟨_, rfl⟩
        have hge : g.err = 0 := by rw [← hg]; exact HV.out pl hpn
        have HG := Lib.hid hg
        rw [hg] at HOF
        obtain ⟨g0, g1, g2, g3, g4, g5, g6, g7, g8, g9, g10, g11, g12, g13, g14, g15⟩ := g
        have HGE := Lib.hid hge
        have hvbd := value_bd now hge
        obtain ⟨Vv, hVv⟩ : ∃ V, (⟨g0, g1, g2, g3, g4, g5, g6, g7, g8, g9, g10, g11, g12, g13, g14, g15⟩ : Anim).value now = V := ⟨_, rfl⟩
        rw [hVv] at hvbd
        have HVv := Lib.hid hVv
        obtain ⟨XX, hXX⟩ : ∃ X, (⟨g0, g1, g2, g3, g4, g5, g6, g7, g8, g9, g10, g11, g12, g13, g14, g15⟩ : Anim).state now = X := ⟨_, rfl⟩
        obtain ⟨X1, X2⟩ := XX
        have HX12 := Lib.hid hXX
        have HNW : Hid (g2 = 2 → 0 ≤ g15 ∧ g15 ≤ 1099511627776) := fun h => by
          obtain ⟨hh, hk⟩ := Anim.ok_cases HGE.out
          obtain ⟨b0, b1, b2, b3, b4, b5, b6, b7, b8, b9⟩ := Anim.head_bd hh
          simp only at b0 b1 b2 b3 b4 b5 b6 b7 b8 b9
          rcases hk with ⟨hk, hc⟩ | ⟨hk, hc⟩
          · simp only at hk; omega
          · obtain ⟨d0, d1, d2, d3, d4, d5, d6, d7, d8, d9⟩ := Anim.spring_bd hc
            simp only at d0 d1 d2 d3 d4 d5 d6 d7 d8 d9
            omega
        clear hcell hg hge hVv hXX hlt
        by_cases hg2 : g2 = 2
        · have HG2 := Lib.hid hg2
          have eg : (g2 == 2) = true := by simpa using hg2
          have en : (g2 != 2) = false := by simpa using hg2
          clear hg2
          go_upto_if 62 with fail
          go_cut [] (fun wx => AnimBlk wx B 38 [.int .i64 q0, .int .i64 q1, .int .i64 q2, .int .i64 Vv, .int .i64 q4, .int .i64 now, .int .i64 q6, .int .i64 q7, .int .i64 q8, .int .i64 q9, .int .i64 q10, .int .i64 q11, .int .i64 q12, .int .i64 X1, .int .i64 X2, .int .i64 now] ∧ Below w.heap.size w wx)
          case first =>
            as_aux_lemma =>
              have hof := HOF.out.kept HB1.out HLT.out
              obtain ⟨c0, c1, c2, c3, c4, c5, c6, c7, c8, c9, c10, c11, c12, c13, c14, c15⟩ := hof
              simp only at c0 c1 c2 c3 c4 c5 c6 c7 c8 c9 c10 c11 c12 c13 c14 c15
              go_wp2_with fail
              refine (rValue_any _ _ _ _ _ _ _ _ _ _ _ _ _ _ _ _ _ _).mono ?_
              rw [HVv.out]
              rintro e w2 ⟨rfl, hb⟩
              have HA2 : Hid (AnimBlk w2 B 38 [.int .i64 q0, .int .i64 q1, .int .i64 q2, .int .i64 q3, .int .i64 q4, .int .i64 now, .int .i64 q6, .int .i64 q7, .int .i64 q8, .int .i64 q9, .int .i64 q10, .int .i64 q11, .int .i64 q12, .int .i64 q13, .int .i64 q14, .int .i64 now]) := HA1.out.kept hb HA1.out.lt
              have HB2 : Hid (Below w.heap.size w w2) := HB1.out.trans (hb.mono HB1.out.size)
              clear hb c0 c1 c2 c3 c4 c5 c6 c7 c8 c9 c10 c11 c12 c13 c14 c15
              have hof := HOF.out.kept HB2.out HLT.out
              obtain ⟨c0, c1, c2, c3, c4, c5, c6, c7, c8, c9, c10, c11, c12, c13, c14, c15⟩ := hof
              simp only at c0 c1 c2 c3 c4 c5 c6 c7 c8 c9 c10 c11 c12 c13 c14 c15
              have z3 : w2.cell? ⟨B, 3, none⟩ = some (.int .i64 q3) := (HA2.out.cell 3).trans rfl
              have z13 : w2.cell? ⟨B, 13, none⟩ = some (.int .i64 q13) := (HA2.out.cell 13).trans rfl
              have z14 : w2.cell? ⟨B, 14, none⟩ = some (.int .i64 q14) := (HA2.out.cell 14).trans rfl
              have y3 := HA2.out.free 3
              have y13 := HA2.out.free 13
              have y14 := HA2.out.free 14
              have hblt := HA2.out.lt
              have hw3 : IntKind.i64.wrap (65536 * Vv) = 65536 * Vv := IntWalk.i64_in _ (by omega)
              go_upto_if 80 with fail
              obtain ⟨w3, hw3e⟩ : ∃ w3, ((w2.setCell ⟨B, 3, none⟩ (.int .i64 Vv)).setCell ⟨B, 13, none⟩ (.int .i64 (65536 * Vv))).setCell ⟨B, 14, none⟩ (.int .i64 0) = w3 := ⟨_, rfl⟩
              have HA3 : Hid (AnimBlk w3 B 38 [.int .i64 q0, .int .i64 q1, .int .i64 q2, .int .i64 Vv, .int .i64 q4, .int .i64 now, .int .i64 q6, .int .i64 q7, .int .i64 q8, .int .i64 q9, .int .i64 q10, .int .i64 q11, .int .i64 q12, .int .i64 (65536 * Vv), .int .i64 0, .int .i64 now]) := by rw [← hw3e]; exact ((HA2.out.set 3 _).set 13 _).set 14 _
              have HB3 : Hid (Below w.heap.size w w3) := by rw [← hw3e]; exact ((HB2.out.setCell HBW.out _).setCell HBW.out _).setCell HBW.out _
              rw [hw3e]
              clear hw3e HA2 HB2 c0 c1 c2 c3 c4 c5 c6 c7 c8 c9 c10 c11 c12 c13 c14 c15 z3 z13 z14 y3 y13 y14 hblt hw3
              have hof := HOF.out.kept HB3.out HLT.out
              obtain ⟨c0, c1, c2, c3, c4, c5, c6, c7, c8, c9, c10, c11, c12, c13, c14, c15⟩ := hof
              simp only at c0 c1 c2 c3 c4 c5 c6 c7 c8 c9 c10 c11 c12 c13 c14 c15
              obtain ⟨hh, -⟩ := Anim.ok_cases HGE.out
              obtain ⟨b0, b1, b2, b3, b4, b5, b6, b7, b8, b9⟩ := Anim.head_bd hh
              simp only at b0 b1 b2 b3 b4 b5 b6 b7 b8 b9
              have hnn := btw_iff.1 hbt
              have hnw := HNW.out HG2.out
              have HBD : Hid (0 ≤ g5 ∧ g5 ≤ 1099511627776 ∧ 0 ≤ now ∧ now ≤ 1099511627776 ∧ -1048576 ≤ g4 ∧ g4 ≤ 1048576 ∧ 0 ≤ g15 ∧ g15 ≤ 1099511627776) := ⟨b8, b9, hnn.1, hnn.2, b6, b7, hnw.1, hnw.2⟩
              clear hh b0 b1 b2 b3 b4 b5 b6 b7 b8 b9 hnn hnw
              go_wp2_with fail
              obtain ⟨b8, b9, hn1, hn2, b6, b7, hw1, hw2⟩ := HBD.out
              refine (rstate_any _ _ _ _ _ _ _ _ _ _ _ _ _ _ _ _ _ _ b8 b9 hn1 hn2 b6 b7 hw1 hw2).mono ?_
              rw [HX12.out]
              rintro e w4 ⟨rfl, hw4⟩
              clear c0 c1 c2 c3 c4 c5 c6 c7 c8 c9 c10 c11 c12 c13 c14 c15 b8 b9 hn1 hn2 b6 b7 hw1 hw2
              have HA4 := Lib.hid (HA3.out.alloc (.cells #[.int .i64 g0, .int .i64 g1, .int .i64 g2, .int .i64 g3, .int .i64 g4, .int .i64 g5, .int .i64 g6, .int .i64 g7, .int .i64 g8, .int .i64 g9, .int .i64 g10, .int .i64 g11, .int .i64 g12, .int .i64 g13, .int .i64 g14, .int .i64 g15] 38))
              have HB4 : Hid (Below w.heap.size w (w3.alloc (.cells #[.int .i64 g0, .int .i64 g1, .int .i64 g2, .int .i64 g3, .int .i64 g4, .int .i64 g5, .int .i64 g6, .int .i64 g7, .int .i64 g8, .int .i64 g9, .int .i64 g10, .int .i64 g11, .int .i64 g12, .int .i64 g13, .int .i64 g14, .int .i64 g15] 38))) := HB3.out.alloc HB3.out.size _
              rw [hw4] at HA4 HB4
              clear hw4 HA3 HB3
              have z13 : w4.cell? ⟨B, 13, none⟩ = some (.int .i64 (65536 * Vv)) := (HA4.out.cell 13).trans rfl
              have z14 : w4.cell? ⟨B, 14, none⟩ = some (.int .i64 0) := (HA4.out.cell 14).trans rfl
              have y13 := HA4.out.free 13
              have y14 := HA4.out.free 14
              have hblt := HA4.out.lt
              go_wp2
              go_meet
              exact ⟨(HA4.out.set 13 _).set 14 _, (HB4.out.setCell HBW.out _).setCell HBW.out _⟩
          case rest =>
            obtain ⟨hA, hB⟩ := hcut
            obtain ⟨w1, rfl⟩ : ∃ x : World, x = wc := ⟨_, rfl⟩
            have HA1 := Lib.hid hA
            have HB1 := Lib.hid hB
            clear hA hB
            have z2 : w1.cell? ⟨B, 2, none⟩ = some (.int .i64 q2) := (HA1.out.cell 2).trans rfl
            have c2 : w1.cell? ⟨b, off + pl * 16 + 2, none⟩ = some (.int .i64 g2) := (HOF.out.kept HB1.out HLT.out).2.2.1
            by_cases hk22 : q2 = 2
            · have eq1 : (q2 != 2) = false := by simpa using hk22
              have HK22 := Lib.hid hk22
              clear hk22
              have HAGX : Hid (Agreed ((⟨q0, q1, q2, Vv, q4, now, q6, q7, q8, q9, q10, q11, q12, X1, X2, now⟩ : Anim)).still (settled l (⟨q0, q1, q2, q3, q4, q5, q6, q7, q8, q9, q10, q11, q12, q13, q14, q15⟩ : Anim) now)) := by
                show Agreed _ _
                unfold settled
                simp only
                rw [if_pos (by rw [HPL.out, HN.out]; exact hpn), HPL.out, HG.out]
                unfold Anim.after
                simp only
                rw [if_pos ⟨HG2.out, HK22.out⟩, HVv.out, HX12.out]
                exact Agreed.refl _
              go_upto_if 106 with fail
              go_cut [] (fun wx => wx = w1)
              case first =>
                as_aux_lemma =>
                  go_wp2
                  go_meet
                  rfl
              case rest =>
                rw [hcut]
                clear hcut z2 c2
                have z2 : w1.cell? ⟨B, 2, none⟩ = some (.int .i64 q2) := (HA1.out.cell 2).trans rfl
                go_upto_if 123 with fail
                by_cases hk1 : q2 = 1
                · exact absurd (HK22.out.symm.trans hk1) (by decide)
                · have HAG : Hid (Agreed (⟨q0, q1, q2, Vv, q4, now, q6, q7, q8, q9, q10, q11, q12, X1, X2, now⟩ : Anim) (settled l (⟨q0, q1, q2, q3, q4, q5, q6, q7, q8, q9, q10, q11, q12, q13, q14, q15⟩ : Anim) now)) := by
                    have h := HAGX.out
                    unfold Anim.still at h
                    rw [if_neg hk1] at h
                    exact h
                  have e1 : (q2 == 1) = false := by simpa using hk1
                  clear hk1
                  go_cut [] (fun wx => wx = w1)
                  case first =>
                    go_wp2
                    go_meet
                    rfl
                  case rest =>
                    obtain ⟨wt, rfl⟩ : ∃ x : World, x = wc := ⟨_, rfl⟩
                    subst hcut
                    have HAs := HA1
                    have HBs := HB1
                    clear HA1 HB1 z2 e1
                    as_aux_lemma =>
                      obtain ⟨E, hE⟩ : ∃ E, (⟨q0, q1, q2, Vv, q4, now, q6, q7, q8, q9, q10, q11, q12, X1, X2, now⟩ : Anim).err = E := ⟨_, rfl⟩
                      have HE := Lib.hid hE
                      clear hE
                      have HVs : Hid (IsAnims wt _ l) := HV0.out.of_below (HBs.out)
                      go_wp2_with (first | (refine load_anim rfl _ rfl B rfl _ _ HAs.out ?_))
                      refine (rValidate_any _ _ _ _ _ _ _ _ _ _ _ _ _ _ _ _ _).mono ?_
                      rw [HE.out]
                      rintro e w4 ⟨rfl, hb⟩
                      have HA4 : Hid (AnimBlk w4 B 38 [.int .i64 q0, .int .i64 q1, .int .i64 q2, .int .i64 Vv, .int .i64 q4, .int .i64 now, .int .i64 q6, .int .i64 q7, .int .i64 q8, .int .i64 q9, .int .i64 q10, .int .i64 q11, .int .i64 q12, .int .i64 X1, .int .i64 X2, .int .i64 now]) := HAs.out.kept hb HAs.out.lt
                      have HB4 : Hid (Below w.heap.size w w4) := HBs.out.trans (hb.mono HBs.out.size)
                      have HV4 : Hid (IsAnims w4 _ l) := HVs.out.of_below hb
                      clear hb HAs HBs HVs
                      by_cases he : E = 0
                      · have e2 : (E != 0) = false := by simpa using he
                        have HSE : Hid ((settled l (⟨q0, q1, q2, q3, q4, q5, q6, q7, q8, q9, q10, q11, q12, q13, q14, q15⟩ : Anim) now).err = 0) := by show _ = _; rw [← HAG.out.1, HE.out]; exact he
                        have HSt : Hid (settled l (⟨q0, q1, q2, q3, q4, q5, q6, q7, q8, q9, q10, q11, q12, q13, q14, q15⟩ : Anim) now = (⟨q0, q1, q2, Vv, q4, now, q6, q7, q8, q9, q10, q11, q12, X1, X2, now⟩ : Anim)) := (HAG.out.2 HSE.out).symm
                        have hP0 : decide ((pl : Int) < 0) = false := by simp
                        have HR : Hid (setErr l (⟨q0, q1, q2, q3, q4, q5, q6, q7, q8, q9, q10, q11, q12, q13, q14, q15⟩ : Anim) now = 0) := by show _ = _; rw [setErr, if_neg (by rw [HN.out]; omega), if_neg (by rw [hbt]; decide), if_neg (by rw [HFE.out]; decide), if_neg (by rw [HSE.out]; decide), if_neg (by rw [HPL.out]; omega)]
                        have e4 : (pl : Int) < (n : Int) := by omega
                        go_wp2_with (first | (refine rcopy_list (base := w.heap.size) HV4.out (by omega) HB4.out.size hi0 hz0 hz1 hz2 ?_; intro v5 w5 hown5 hb5; have HO5 := Lib.hid hown5; have HBB5 := Lib.hid hb5; clear hown5 hb5) | (refine halt_dst 148 ?_; intro G HGo))
                        have HA5 : Hid (AnimBlk w5 B 38 [.int .i64 q0, .int .i64 q1, .int .i64 q2, .int .i64 Vv, .int .i64 q4, .int .i64 now, .int .i64 q6, .int .i64 q7, .int .i64 q8, .int .i64 q9, .int .i64 q10, .int .i64 q11, .int .i64 q12, .int .i64 X1, .int .i64 X2, .int .i64 now]) := HA4.out.kept (HBB5.out _ (Nat.le_refl _)) HA4.out.lt
                        have HB5 : Hid (Below w.heap.size w w5) := HB4.out.trans (HBB5.out _ HB4.out.size)
                        refine HGo.out ?_
                        clear HGo
                        obtain ⟨gq, capq, rfl⟩ := Joins.ownsRow_form HO5.out (by omega)
                        refine rput_list (base := w.heap.size) (l := l) HN.out.symm hpn HO5.out HA5.out ?_
                        intro ad w6 his6 hb6
                        have HAn : Hid (IsAnims w6 (.slice (some ⟨gq, 0, none⟩) n capq) (setOn l (⟨q0, q1, q2, q3, q4, q5, q6, q7, q8, q9, q10, q11, q12, q13, q14, q15⟩ : Anim) now)) := by
                          show IsAnims _ _ _
                          rw [setOn, if_pos HR.out, if_pos (by rw [HPL.out, HN.out]; exact hpn), HSt.out, HPL.out]
                          exact his6
                        have HB6 : Hid (Below w.heap.size w w6) := HB5.out.trans (hb6 _ (Nat.le_refl _))
                        clear his6 hb6
                        go_wp2
                        go_ret2
                        exact ⟨_, by rw [HR.out]; rfl, HAn.out, HB6.out⟩
                      · have e2 : (E != 0) = true := by simpa using he
                        have HSE : Hid ((settled l (⟨q0, q1, q2, q3, q4, q5, q6, q7, q8, q9, q10, q11, q12, q13, q14, q15⟩ : Anim) now).err = E) := by show _ = _; rw [← HAG.out.1]; exact HE.out
                        have HR : Hid (setErr l (⟨q0, q1, q2, q3, q4, q5, q6, q7, q8, q9, q10, q11, q12, q13, q14, q15⟩ : Anim) now = E) := by show _ = _; rw [setErr, if_neg (by rw [HN.out]; omega), if_neg (by rw [hbt]; decide), if_neg (by rw [HFE.out]; decide), if_pos (by rw [HSE.out]; exact he)]; exact HSE.out
                        have HEn := Lib.hid he
                        clear he
                        go_wp2
                        go_ret2
                        exact Setted.no HR.out HEn.out HB4.out
            · have eq1 : (q2 != 2) = true := by simpa using hk22
              have HK22 := Lib.hid hk22
              clear hk22
              obtain ⟨X, hX⟩ : ∃ X, safeX Vv = X := ⟨_, rfl⟩
              have HAGX : Hid (Agreed ((⟨q0, q1, q2, Vv, q4, now, q6, q7, q8, q9, q10, q11, q12, X, 0, now⟩ : Anim)).still (settled l (⟨q0, q1, q2, q3, q4, q5, q6, q7, q8, q9, q10, q11, q12, q13, q14, q15⟩ : Anim) now)) := by
                show Agreed _ _
                unfold settled
                simp only
                rw [if_pos (by rw [HPL.out, HN.out]; exact hpn), HPL.out, HG.out]
                unfold Anim.after
                simp only
                rw [if_neg (fun h => HK22.out h.2), HVv.out]
                exact agreed_still rfl rfl (fun h => by rw [← hX]; simp only [safeX]; rw [if_pos h])
              go_upto_if 106 with fail
              go_cut [] (fun wx => AnimBlk wx B 38 [.int .i64 q0, .int .i64 q1, .int .i64 q2, .int .i64 Vv, .int .i64 q4, .int .i64 now, .int .i64 q6, .int .i64 q7, .int .i64 q8, .int .i64 q9, .int .i64 q10, .int .i64 q11, .int .i64 q12, .int .i64 X, .int .i64 0, .int .i64 now] ∧ Below w.heap.size w wx)
              case first =>
                as_aux_lemma =>
                  have z3 : w1.cell? ⟨B, 3, none⟩ = some (.int .i64 Vv) := (HA1.out.cell 3).trans rfl
                  have z13 : w1.cell? ⟨B, 13, none⟩ = some (.int .i64 X1) := (HA1.out.cell 13).trans rfl
                  have z14 : w1.cell? ⟨B, 14, none⟩ = some (.int .i64 X2) := (HA1.out.cell 14).trans rfl
                  have y13 := HA1.out.free 13
                  have y14 := HA1.out.free 14
                  have hblt := HA1.out.lt
                  by_cases hv : valueB Vv = true
                  · have hvb : btw Vv (-1048576) 1048576 = true := hv
                    have hw3 : IntKind.i64.wrap (65536 * Vv) = X := by rw [← hX]; unfold safeX; rw [if_pos hv]; exact IntWalk.i64_in _ (by omega)
                    clear hX
                    go_wp2_with (go_at_call 45; refine (rin_any _ _ _ _).mono ?_; rw [hvb]; rintro e w' ⟨rfl, rfl⟩)
                    go_meet
                    first | exact ⟨((HA1.out.set 13 _).set 14 _).set 13 _, ((HB1.out.setCell HBW.out _).setCell HBW.out _).setCell HBW.out _⟩ | trace_state
                  · have hvb : btw Vv (-1048576) 1048576 = false := by simpa [valueB] using hv
                    have hX0 : X = 0 := by rw [← hX]; unfold safeX; rw [if_neg hv]
                    subst hX0
                    clear hX
                    go_wp2_with (go_at_call 45; refine (rin_any _ _ _ _).mono ?_; rw [hvb]; rintro e w' ⟨rfl, rfl⟩)
                    go_meet
                    first | exact ⟨(HA1.out.set 13 _).set 14 _, (HB1.out.setCell HBW.out _).setCell HBW.out _⟩ | trace_state
              case rest =>
                obtain ⟨hA, hB⟩ := hcut
                obtain ⟨w1, rfl⟩ : ∃ x : World, x = wc := ⟨_, rfl⟩
                have HA1 := Lib.hid hA
                have HB1 := Lib.hid hB
                clear hA hB z2 c2
                have z2 : w1.cell? ⟨B, 2, none⟩ = some (.int .i64 q2) := (HA1.out.cell 2).trans rfl
                go_upto_if 123 with fail
                by_cases hk1 : q2 = 1
                · have HAG : Hid (Agreed (⟨q0, q1, q2, Vv, q4, now, q6, q7, q8, q9, q10, q11, q12, 0, 0, now⟩ : Anim) (settled l (⟨q0, q1, q2, q3, q4, q5, q6, q7, q8, q9, q10, q11, q12, q13, q14, q15⟩ : Anim) now)) := by
                    have h := HAGX.out
                    unfold Anim.still at h
                    rw [if_pos hk1] at h
                    exact h
                  have e1 : (q2 == 1) = true := by simpa using hk1
                  clear hk1
                  go_cut [] (fun wx => AnimBlk wx B 38 [.int .i64 q0, .int .i64 q1, .int .i64 q2, .int .i64 Vv, .int .i64 q4, .int .i64 now, .int .i64 q6, .int .i64 q7, .int .i64 q8, .int .i64 q9, .int .i64 q10, .int .i64 q11, .int .i64 q12, .int .i64 0, .int .i64 0, .int .i64 now] ∧ Below w.heap.size w wx)
                  case first =>
                    have z13 : w1.cell? ⟨B, 13, none⟩ = some (.int .i64 X) := (HA1.out.cell 13).trans rfl
                    have z14 : w1.cell? ⟨B, 14, none⟩ = some (.int .i64 0) := (HA1.out.cell 14).trans rfl
                    have y13 := HA1.out.free 13
                    have y14 := HA1.out.free 14
                    have hblt := HA1.out.lt
                    go_wp2
                    go_meet
                    exact ⟨(HA1.out.set 13 _).set 14 _, (HB1.out.setCell HBW.out _).setCell HBW.out _⟩
                  case rest =>
                    obtain ⟨hA, hB⟩ := hcut
                    obtain ⟨wt, rfl⟩ : ∃ x : World, x = wc := ⟨_, rfl⟩
                    have HAs := Lib.hid hA
                    have HBs := Lib.hid hB
                    clear hA hB HA1 HB1 z2 e1
                    as_aux_lemma =>
                      obtain ⟨E, hE⟩ : ∃ E, (⟨q0, q1, q2, Vv, q4, now, q6, q7, q8, q9, q10, q11, q12, 0, 0, now⟩ : Anim).err = E := ⟨_, rfl⟩
                      have HE := Lib.hid hE
                      clear hE
                      have HVs : Hid (IsAnims wt _ l) := HV0.out.of_below (HBs.out)
                      go_wp2_with (first | (refine load_anim rfl _ rfl B rfl _ _ HAs.out ?_))
                      refine (rValidate_any _ _ _ _ _ _ _ _ _ _ _ _ _ _ _ _ _).mono ?_
                      rw [HE.out]
                      rintro e w4 ⟨rfl, hb⟩
                      have HA4 : Hid (AnimBlk w4 B 38 [.int .i64 q0, .int .i64 q1, .int .i64 q2, .int .i64 Vv, .int .i64 q4, .int .i64 now, .int .i64 q6, .int .i64 q7, .int .i64 q8, .int .i64 q9, .int .i64 q10, .int .i64 q11, .int .i64 q12, .int .i64 0, .int .i64 0, .int .i64 now]) := HAs.out.kept hb HAs.out.lt
                      have HB4 : Hid (Below w.heap.size w w4) := HBs.out.trans (hb.mono HBs.out.size)
                      have HV4 : Hid (IsAnims w4 _ l) := HVs.out.of_below hb
                      clear hb HAs HBs HVs
                      by_cases he : E = 0
                      · have e2 : (E != 0) = false := by simpa using he
                        have HSE : Hid ((settled l (⟨q0, q1, q2, q3, q4, q5, q6, q7, q8, q9, q10, q11, q12, q13, q14, q15⟩ : Anim) now).err = 0) := by show _ = _; rw [← HAG.out.1, HE.out]; exact he
                        have HSt : Hid (settled l (⟨q0, q1, q2, q3, q4, q5, q6, q7, q8, q9, q10, q11, q12, q13, q14, q15⟩ : Anim) now = (⟨q0, q1, q2, Vv, q4, now, q6, q7, q8, q9, q10, q11, q12, 0, 0, now⟩ : Anim)) := (HAG.out.2 HSE.out).symm
                        have hP0 : decide ((pl : Int) < 0) = false := by simp
                        have HR : Hid (setErr l (⟨q0, q1, q2, q3, q4, q5, q6, q7, q8, q9, q10, q11, q12, q13, q14, q15⟩ : Anim) now = 0) := by show _ = _; rw [setErr, if_neg (by rw [HN.out]; omega), if_neg (by rw [hbt]; decide), if_neg (by rw [HFE.out]; decide), if_neg (by rw [HSE.out]; decide), if_neg (by rw [HPL.out]; omega)]
                        have e4 : (pl : Int) < (n : Int) := by omega
                        go_wp2_with (first | (refine rcopy_list (base := w.heap.size) HV4.out (by omega) HB4.out.size hi0 hz0 hz1 hz2 ?_; intro v5 w5 hown5 hb5; have HO5 := Lib.hid hown5; have HBB5 := Lib.hid hb5; clear hown5 hb5) | (refine halt_dst 148 ?_; intro G HGo))
                        have HA5 : Hid (AnimBlk w5 B 38 [.int .i64 q0, .int .i64 q1, .int .i64 q2, .int .i64 Vv, .int .i64 q4, .int .i64 now, .int .i64 q6, .int .i64 q7, .int .i64 q8, .int .i64 q9, .int .i64 q10, .int .i64 q11, .int .i64 q12, .int .i64 0, .int .i64 0, .int .i64 now]) := HA4.out.kept (HBB5.out _ (Nat.le_refl _)) HA4.out.lt
                        have HB5 : Hid (Below w.heap.size w w5) := HB4.out.trans (HBB5.out _ HB4.out.size)
                        refine HGo.out ?_
                        clear HGo
                        obtain ⟨gq, capq, rfl⟩ := Joins.ownsRow_form HO5.out (by omega)
                        refine rput_list (base := w.heap.size) (l := l) HN.out.symm hpn HO5.out HA5.out ?_
                        intro ad w6 his6 hb6
                        have HAn : Hid (IsAnims w6 (.slice (some ⟨gq, 0, none⟩) n capq) (setOn l (⟨q0, q1, q2, q3, q4, q5, q6, q7, q8, q9, q10, q11, q12, q13, q14, q15⟩ : Anim) now)) := by
                          show IsAnims _ _ _
                          rw [setOn, if_pos HR.out, if_pos (by rw [HPL.out, HN.out]; exact hpn), HSt.out, HPL.out]
                          exact his6
                        have HB6 : Hid (Below w.heap.size w w6) := HB5.out.trans (hb6 _ (Nat.le_refl _))
                        clear his6 hb6
                        go_wp2
                        go_ret2
                        exact ⟨_, by rw [HR.out]; rfl, HAn.out, HB6.out⟩
                      · have e2 : (E != 0) = true := by simpa using he
                        have HSE : Hid ((settled l (⟨q0, q1, q2, q3, q4, q5, q6, q7, q8, q9, q10, q11, q12, q13, q14, q15⟩ : Anim) now).err = E) := by show _ = _; rw [← HAG.out.1]; exact HE.out
                        have HR : Hid (setErr l (⟨q0, q1, q2, q3, q4, q5, q6, q7, q8, q9, q10, q11, q12, q13, q14, q15⟩ : Anim) now = E) := by show _ = _; rw [setErr, if_neg (by rw [HN.out]; omega), if_neg (by rw [hbt]; decide), if_neg (by rw [HFE.out]; decide), if_pos (by rw [HSE.out]; exact he)]; exact HSE.out
                        have HEn := Lib.hid he
                        clear he
                        go_wp2
                        go_ret2
                        exact Setted.no HR.out HEn.out HB4.out
                · have HAG : Hid (Agreed (⟨q0, q1, q2, Vv, q4, now, q6, q7, q8, q9, q10, q11, q12, X, 0, now⟩ : Anim) (settled l (⟨q0, q1, q2, q3, q4, q5, q6, q7, q8, q9, q10, q11, q12, q13, q14, q15⟩ : Anim) now)) := by
                    have h := HAGX.out
                    unfold Anim.still at h
                    rw [if_neg hk1] at h
                    exact h
                  have e1 : (q2 == 1) = false := by simpa using hk1
                  clear hk1
                  go_cut [] (fun wx => wx = w1)
                  case first =>
                    go_wp2
                    go_meet
                    rfl
                  case rest =>
                    obtain ⟨wt, rfl⟩ : ∃ x : World, x = wc := ⟨_, rfl⟩
                    subst hcut
                    have HAs := HA1
                    have HBs := HB1
                    clear HA1 HB1 z2 e1
                    as_aux_lemma =>
                      obtain ⟨E, hE⟩ : ∃ E, (⟨q0, q1, q2, Vv, q4, now, q6, q7, q8, q9, q10, q11, q12, X, 0, now⟩ : Anim).err = E := ⟨_, rfl⟩
                      have HE := Lib.hid hE
                      clear hE
                      have HVs : Hid (IsAnims wt _ l) := HV0.out.of_below (HBs.out)
                      go_wp2_with (first | (refine load_anim rfl _ rfl B rfl _ _ HAs.out ?_))
                      refine (rValidate_any _ _ _ _ _ _ _ _ _ _ _ _ _ _ _ _ _).mono ?_
                      rw [HE.out]
                      rintro e w4 ⟨rfl, hb⟩
                      have HA4 : Hid (AnimBlk w4 B 38 [.int .i64 q0, .int .i64 q1, .int .i64 q2, .int .i64 Vv, .int .i64 q4, .int .i64 now, .int .i64 q6, .int .i64 q7, .int .i64 q8, .int .i64 q9, .int .i64 q10, .int .i64 q11, .int .i64 q12, .int .i64 X, .int .i64 0, .int .i64 now]) := HAs.out.kept hb HAs.out.lt
                      have HB4 : Hid (Below w.heap.size w w4) := HBs.out.trans (hb.mono HBs.out.size)
                      have HV4 : Hid (IsAnims w4 _ l) := HVs.out.of_below hb
                      clear hb HAs HBs HVs
                      by_cases he : E = 0
                      · have e2 : (E != 0) = false := by simpa using he
                        have HSE : Hid ((settled l (⟨q0, q1, q2, q3, q4, q5, q6, q7, q8, q9, q10, q11, q12, q13, q14, q15⟩ : Anim) now).err = 0) := by show _ = _; rw [← HAG.out.1, HE.out]; exact he
                        have HSt : Hid (settled l (⟨q0, q1, q2, q3, q4, q5, q6, q7, q8, q9, q10, q11, q12, q13, q14, q15⟩ : Anim) now = (⟨q0, q1, q2, Vv, q4, now, q6, q7, q8, q9, q10, q11, q12, X, 0, now⟩ : Anim)) := (HAG.out.2 HSE.out).symm
                        have hP0 : decide ((pl : Int) < 0) = false := by simp
                        have HR : Hid (setErr l (⟨q0, q1, q2, q3, q4, q5, q6, q7, q8, q9, q10, q11, q12, q13, q14, q15⟩ : Anim) now = 0) := by show _ = _; rw [setErr, if_neg (by rw [HN.out]; omega), if_neg (by rw [hbt]; decide), if_neg (by rw [HFE.out]; decide), if_neg (by rw [HSE.out]; decide), if_neg (by rw [HPL.out]; omega)]
                        have e4 : (pl : Int) < (n : Int) := by omega
                        go_wp2_with (first | (refine rcopy_list (base := w.heap.size) HV4.out (by omega) HB4.out.size hi0 hz0 hz1 hz2 ?_; intro v5 w5 hown5 hb5; have HO5 := Lib.hid hown5; have HBB5 := Lib.hid hb5; clear hown5 hb5) | (refine halt_dst 148 ?_; intro G HGo))
                        have HA5 : Hid (AnimBlk w5 B 38 [.int .i64 q0, .int .i64 q1, .int .i64 q2, .int .i64 Vv, .int .i64 q4, .int .i64 now, .int .i64 q6, .int .i64 q7, .int .i64 q8, .int .i64 q9, .int .i64 q10, .int .i64 q11, .int .i64 q12, .int .i64 X, .int .i64 0, .int .i64 now]) := HA4.out.kept (HBB5.out _ (Nat.le_refl _)) HA4.out.lt
                        have HB5 : Hid (Below w.heap.size w w5) := HB4.out.trans (HBB5.out _ HB4.out.size)
                        refine HGo.out ?_
                        clear HGo
                        obtain ⟨gq, capq, rfl⟩ := Joins.ownsRow_form HO5.out (by omega)
                        refine rput_list (base := w.heap.size) (l := l) HN.out.symm hpn HO5.out HA5.out ?_
                        intro ad w6 his6 hb6
                        have HAn : Hid (IsAnims w6 (.slice (some ⟨gq, 0, none⟩) n capq) (setOn l (⟨q0, q1, q2, q3, q4, q5, q6, q7, q8, q9, q10, q11, q12, q13, q14, q15⟩ : Anim) now)) := by
                          show IsAnims _ _ _
                          rw [setOn, if_pos HR.out, if_pos (by rw [HPL.out, HN.out]; exact hpn), HSt.out, HPL.out]
                          exact his6
                        have HB6 : Hid (Below w.heap.size w w6) := HB5.out.trans (hb6 _ (Nat.le_refl _))
                        clear his6 hb6
                        go_wp2
                        go_ret2
                        exact ⟨_, by rw [HR.out]; rfl, HAn.out, HB6.out⟩
                      · have e2 : (E != 0) = true := by simpa using he
                        have HSE : Hid ((settled l (⟨q0, q1, q2, q3, q4, q5, q6, q7, q8, q9, q10, q11, q12, q13, q14, q15⟩ : Anim) now).err = E) := by show _ = _; rw [← HAG.out.1]; exact HE.out
                        have HR : Hid (setErr l (⟨q0, q1, q2, q3, q4, q5, q6, q7, q8, q9, q10, q11, q12, q13, q14, q15⟩ : Anim) now = E) := by show _ = _; rw [setErr, if_neg (by rw [HN.out]; omega), if_neg (by rw [hbt]; decide), if_neg (by rw [HFE.out]; decide), if_pos (by rw [HSE.out]; exact he)]; exact HSE.out
                        have HEn := Lib.hid he
                        clear he
                        go_wp2
                        go_ret2
                        exact Setted.no HR.out HEn.out HB4.out
        · have HG2 := Lib.hid hg2
          have eg : (g2 == 2) = false := by simpa using hg2
          have en : (g2 != 2) = true := by simpa using hg2
          clear hg2
          go_upto_if 62 with fail
          go_cut [] (fun wx => AnimBlk wx B 38 [.int .i64 q0, .int .i64 q1, .int .i64 q2, .int .i64 Vv, .int .i64 q4, .int .i64 now, .int .i64 q6, .int .i64 q7, .int .i64 q8, .int .i64 q9, .int .i64 q10, .int .i64 q11, .int .i64 q12, .int .i64 (65536 * Vv), .int .i64 0, .int .i64 now] ∧ Below w.heap.size w wx)
          case first =>
            as_aux_lemma =>
              have hof := HOF.out.kept HB1.out HLT.out
              obtain ⟨c0, c1, c2, c3, c4, c5, c6, c7, c8, c9, c10, c11, c12, c13, c14, c15⟩ := hof
              simp only at c0 c1 c2 c3 c4 c5 c6 c7 c8 c9 c10 c11 c12 c13 c14 c15
              go_wp2_with fail
              refine (rValue_any _ _ _ _ _ _ _ _ _ _ _ _ _ _ _ _ _ _).mono ?_
              rw [HVv.out]
              rintro e w2 ⟨rfl, hb⟩
              have HA2 : Hid (AnimBlk w2 B 38 [.int .i64 q0, .int .i64 q1, .int .i64 q2, .int .i64 q3, .int .i64 q4, .int .i64 now, .int .i64 q6, .int .i64 q7, .int .i64 q8, .int .i64 q9, .int .i64 q10, .int .i64 q11, .int .i64 q12, .int .i64 q13, .int .i64 q14, .int .i64 now]) := HA1.out.kept hb HA1.out.lt
              have HB2 : Hid (Below w.heap.size w w2) := HB1.out.trans (hb.mono HB1.out.size)
              clear hb c0 c1 c2 c3 c4 c5 c6 c7 c8 c9 c10 c11 c12 c13 c14 c15
              have hof := HOF.out.kept HB2.out HLT.out
              obtain ⟨c0, c1, c2, c3, c4, c5, c6, c7, c8, c9, c10, c11, c12, c13, c14, c15⟩ := hof
              simp only at c0 c1 c2 c3 c4 c5 c6 c7 c8 c9 c10 c11 c12 c13 c14 c15
              have z3 : w2.cell? ⟨B, 3, none⟩ = some (.int .i64 q3) := (HA2.out.cell 3).trans rfl
              have z13 : w2.cell? ⟨B, 13, none⟩ = some (.int .i64 q13) := (HA2.out.cell 13).trans rfl
              have z14 : w2.cell? ⟨B, 14, none⟩ = some (.int .i64 q14) := (HA2.out.cell 14).trans rfl
              have y3 := HA2.out.free 3
              have y13 := HA2.out.free 13
              have y14 := HA2.out.free 14
              have hblt := HA2.out.lt
              have hw3 : IntKind.i64.wrap (65536 * Vv) = 65536 * Vv := IntWalk.i64_in _ (by omega)
              go_wp2
              go_meet
              first | exact ⟨((HA2.out.set 3 _).set 13 _).set 14 _, ((HB2.out.setCell HBW.out _).setCell HBW.out _).setCell HBW.out _⟩ | trace_state
          case rest =>
            obtain ⟨hA, hB⟩ := hcut
            obtain ⟨w1, rfl⟩ : ∃ x : World, x = wc := ⟨_, rfl⟩
            have HA1 := Lib.hid hA
            have HB1 := Lib.hid hB
            clear hA hB
            have z2 : w1.cell? ⟨B, 2, none⟩ = some (.int .i64 q2) := (HA1.out.cell 2).trans rfl
            have c2 : w1.cell? ⟨b, off + pl * 16 + 2, none⟩ = some (.int .i64 g2) := (HOF.out.kept HB1.out HLT.out).2.2.1
            obtain ⟨X, hX⟩ : ∃ X, safeX Vv = X := ⟨_, rfl⟩
            have HAGX : Hid (Agreed ((⟨q0, q1, q2, Vv, q4, now, q6, q7, q8, q9, q10, q11, q12, X, 0, now⟩ : Anim)).still (settled l (⟨q0, q1, q2, q3, q4, q5, q6, q7, q8, q9, q10, q11, q12, q13, q14, q15⟩ : Anim) now)) := by
              show Agreed _ _
              unfold settled
              simp only
              rw [if_pos (by rw [HPL.out, HN.out]; exact hpn), HPL.out, HG.out]
              unfold Anim.after
              simp only
              rw [if_neg (fun h => HG2.out h.1), HVv.out]
              exact agreed_still rfl rfl (fun h => by rw [← hX]; simp only [safeX]; rw [if_pos h])
            go_upto_region 20 with fail
            go_cut [106] (fun sv wx => sv = .bool true ∧ wx = w1)
            case first =>
              as_aux_lemma =>
                by_cases hk22 : q2 = 2
                · have eq1 : (q2 != 2) = false := by simpa using hk22
                  clear hk22
                  go_wp2
                  go_meet
                  exact ⟨rfl, rfl⟩
                · have eq1 : (q2 != 2) = true := by simpa using hk22
                  clear hk22
                  go_wp2
                  go_meet
                  exact ⟨rfl, rfl⟩
            case rest =>
              obtain ⟨rfl, hwc⟩ := hcut
              rw [hwc]
              clear hwc
              go_upto_if 106 with fail
              go_cut [] (fun wx => AnimBlk wx B 38 [.int .i64 q0, .int .i64 q1, .int .i64 q2, .int .i64 Vv, .int .i64 q4, .int .i64 now, .int .i64 q6, .int .i64 q7, .int .i64 q8, .int .i64 q9, .int .i64 q10, .int .i64 q11, .int .i64 q12, .int .i64 X, .int .i64 0, .int .i64 now] ∧ Below w.heap.size w wx)
              case first =>
                as_aux_lemma =>
                  have z3 : w1.cell? ⟨B, 3, none⟩ = some (.int .i64 Vv) := (HA1.out.cell 3).trans rfl
                  have z13 : w1.cell? ⟨B, 13, none⟩ = some (.int .i64 (65536 * Vv)) := (HA1.out.cell 13).trans rfl
                  have z14 : w1.cell? ⟨B, 14, none⟩ = some (.int .i64 0) := (HA1.out.cell 14).trans rfl
                  have y13 := HA1.out.free 13
                  have y14 := HA1.out.free 14
                  have hblt := HA1.out.lt
                  by_cases hv : valueB Vv = true
                  · have hvb : btw Vv (-1048576) 1048576 = true := hv
                    have hw3 : IntKind.i64.wrap (65536 * Vv) = X := by rw [← hX]; unfold safeX; rw [if_pos hv]; exact IntWalk.i64_in _ (by omega)
                    clear hX
                    go_wp2_with (go_at_call 45; refine (rin_any _ _ _ _).mono ?_; rw [hvb]; rintro e w' ⟨rfl, rfl⟩)
                    go_meet
                    first | exact ⟨((HA1.out.set 13 _).set 14 _).set 13 _, ((HB1.out.setCell HBW.out _).setCell HBW.out _).setCell HBW.out _⟩ | trace_state
                  · have hvb : btw Vv (-1048576) 1048576 = false := by simpa [valueB] using hv
                    have hX0 : X = 0 := by rw [← hX]; unfold safeX; rw [if_neg hv]
                    subst hX0
                    clear hX
                    go_wp2_with (go_at_call 45; refine (rin_any _ _ _ _).mono ?_; rw [hvb]; rintro e w' ⟨rfl, rfl⟩)
                    go_meet
                    first | exact ⟨(HA1.out.set 13 _).set 14 _, (HB1.out.setCell HBW.out _).setCell HBW.out _⟩ | trace_state
              case rest =>
                obtain ⟨hA, hB⟩ := hcut
                obtain ⟨w1, rfl⟩ : ∃ x : World, x = wc := ⟨_, rfl⟩
                have HA1 := Lib.hid hA
                have HB1 := Lib.hid hB
                clear hA hB z2 c2
                have z2 : w1.cell? ⟨B, 2, none⟩ = some (.int .i64 q2) := (HA1.out.cell 2).trans rfl
                go_upto_if 123 with fail
                by_cases hk1 : q2 = 1
                · have HAG : Hid (Agreed (⟨q0, q1, q2, Vv, q4, now, q6, q7, q8, q9, q10, q11, q12, 0, 0, now⟩ : Anim) (settled l (⟨q0, q1, q2, q3, q4, q5, q6, q7, q8, q9, q10, q11, q12, q13, q14, q15⟩ : Anim) now)) := by
                    have h := HAGX.out
                    unfold Anim.still at h
                    rw [if_pos hk1] at h
                    exact h
                  have e1 : (q2 == 1) = true := by simpa using hk1
                  clear hk1
                  go_cut [] (fun wx => AnimBlk wx B 38 [.int .i64 q0, .int .i64 q1, .int .i64 q2, .int .i64 Vv, .int .i64 q4, .int .i64 now, .int .i64 q6, .int .i64 q7, .int .i64 q8, .int .i64 q9, .int .i64 q10, .int .i64 q11, .int .i64 q12, .int .i64 0, .int .i64 0, .int .i64 now] ∧ Below w.heap.size w wx)
                  case first =>
                    have z13 : w1.cell? ⟨B, 13, none⟩ = some (.int .i64 X) := (HA1.out.cell 13).trans rfl
                    have z14 : w1.cell? ⟨B, 14, none⟩ = some (.int .i64 0) := (HA1.out.cell 14).trans rfl
                    have y13 := HA1.out.free 13
                    have y14 := HA1.out.free 14
                    have hblt := HA1.out.lt
                    go_wp2
                    go_meet
                    exact ⟨(HA1.out.set 13 _).set 14 _, (HB1.out.setCell HBW.out _).setCell HBW.out _⟩
                  case rest =>
                    obtain ⟨hA, hB⟩ := hcut
                    obtain ⟨wt, rfl⟩ : ∃ x : World, x = wc := ⟨_, rfl⟩
                    have HAs := Lib.hid hA
                    have HBs := Lib.hid hB
                    clear hA hB HA1 HB1 z2 e1
                    as_aux_lemma =>
                      obtain ⟨E, hE⟩ : ∃ E, (⟨q0, q1, q2, Vv, q4, now, q6, q7, q8, q9, q10, q11, q12, 0, 0, now⟩ : Anim).err = E := ⟨_, rfl⟩
                      have HE := Lib.hid hE
                      clear hE
                      have HVs : Hid (IsAnims wt _ l) := HV0.out.of_below (HBs.out)
                      go_wp2_with (first | (refine load_anim rfl _ rfl B rfl _ _ HAs.out ?_))
                      refine (rValidate_any _ _ _ _ _ _ _ _ _ _ _ _ _ _ _ _ _).mono ?_
                      rw [HE.out]
                      rintro e w4 ⟨rfl, hb⟩
                      have HA4 : Hid (AnimBlk w4 B 38 [.int .i64 q0, .int .i64 q1, .int .i64 q2, .int .i64 Vv, .int .i64 q4, .int .i64 now, .int .i64 q6, .int .i64 q7, .int .i64 q8, .int .i64 q9, .int .i64 q10, .int .i64 q11, .int .i64 q12, .int .i64 0, .int .i64 0, .int .i64 now]) := HAs.out.kept hb HAs.out.lt
                      have HB4 : Hid (Below w.heap.size w w4) := HBs.out.trans (hb.mono HBs.out.size)
                      have HV4 : Hid (IsAnims w4 _ l) := HVs.out.of_below hb
                      clear hb HAs HBs HVs
                      by_cases he : E = 0
                      · have e2 : (E != 0) = false := by simpa using he
                        have HSE : Hid ((settled l (⟨q0, q1, q2, q3, q4, q5, q6, q7, q8, q9, q10, q11, q12, q13, q14, q15⟩ : Anim) now).err = 0) := by show _ = _; rw [← HAG.out.1, HE.out]; exact he
                        have HSt : Hid (settled l (⟨q0, q1, q2, q3, q4, q5, q6, q7, q8, q9, q10, q11, q12, q13, q14, q15⟩ : Anim) now = (⟨q0, q1, q2, Vv, q4, now, q6, q7, q8, q9, q10, q11, q12, 0, 0, now⟩ : Anim)) := (HAG.out.2 HSE.out).symm
                        have hP0 : decide ((pl : Int) < 0) = false := by simp
                        have HR : Hid (setErr l (⟨q0, q1, q2, q3, q4, q5, q6, q7, q8, q9, q10, q11, q12, q13, q14, q15⟩ : Anim) now = 0) := by show _ = _; rw [setErr, if_neg (by rw [HN.out]; omega), if_neg (by rw [hbt]; decide), if_neg (by rw [HFE.out]; decide), if_neg (by rw [HSE.out]; decide), if_neg (by rw [HPL.out]; omega)]
                        have e4 : (pl : Int) < (n : Int) := by omega
                        go_wp2_with (first | (refine rcopy_list (base := w.heap.size) HV4.out (by omega) HB4.out.size hi0 hz0 hz1 hz2 ?_; intro v5 w5 hown5 hb5; have HO5 := Lib.hid hown5; have HBB5 := Lib.hid hb5; clear hown5 hb5) | (refine halt_dst 148 ?_; intro G HGo))
                        have HA5 : Hid (AnimBlk w5 B 38 [.int .i64 q0, .int .i64 q1, .int .i64 q2, .int .i64 Vv, .int .i64 q4, .int .i64 now, .int .i64 q6, .int .i64 q7, .int .i64 q8, .int .i64 q9, .int .i64 q10, .int .i64 q11, .int .i64 q12, .int .i64 0, .int .i64 0, .int .i64 now]) := HA4.out.kept (HBB5.out _ (Nat.le_refl _)) HA4.out.lt
                        have HB5 : Hid (Below w.heap.size w w5) := HB4.out.trans (HBB5.out _ HB4.out.size)
                        refine HGo.out ?_
                        clear HGo
                        obtain ⟨gq, capq, rfl⟩ := Joins.ownsRow_form HO5.out (by omega)
                        refine rput_list (base := w.heap.size) (l := l) HN.out.symm hpn HO5.out HA5.out ?_
                        intro ad w6 his6 hb6
                        have HAn : Hid (IsAnims w6 (.slice (some ⟨gq, 0, none⟩) n capq) (setOn l (⟨q0, q1, q2, q3, q4, q5, q6, q7, q8, q9, q10, q11, q12, q13, q14, q15⟩ : Anim) now)) := by
                          show IsAnims _ _ _
                          rw [setOn, if_pos HR.out, if_pos (by rw [HPL.out, HN.out]; exact hpn), HSt.out, HPL.out]
                          exact his6
                        have HB6 : Hid (Below w.heap.size w w6) := HB5.out.trans (hb6 _ (Nat.le_refl _))
                        clear his6 hb6
                        go_wp2
                        go_ret2
                        exact ⟨_, by rw [HR.out]; rfl, HAn.out, HB6.out⟩
                      · have e2 : (E != 0) = true := by simpa using he
                        have HSE : Hid ((settled l (⟨q0, q1, q2, q3, q4, q5, q6, q7, q8, q9, q10, q11, q12, q13, q14, q15⟩ : Anim) now).err = E) := by show _ = _; rw [← HAG.out.1]; exact HE.out
                        have HR : Hid (setErr l (⟨q0, q1, q2, q3, q4, q5, q6, q7, q8, q9, q10, q11, q12, q13, q14, q15⟩ : Anim) now = E) := by show _ = _; rw [setErr, if_neg (by rw [HN.out]; omega), if_neg (by rw [hbt]; decide), if_neg (by rw [HFE.out]; decide), if_pos (by rw [HSE.out]; exact he)]; exact HSE.out
                        have HEn := Lib.hid he
                        clear he
                        go_wp2
                        go_ret2
                        exact Setted.no HR.out HEn.out HB4.out
                · have HAG : Hid (Agreed (⟨q0, q1, q2, Vv, q4, now, q6, q7, q8, q9, q10, q11, q12, X, 0, now⟩ : Anim) (settled l (⟨q0, q1, q2, q3, q4, q5, q6, q7, q8, q9, q10, q11, q12, q13, q14, q15⟩ : Anim) now)) := by
                    have h := HAGX.out
                    unfold Anim.still at h
                    rw [if_neg hk1] at h
                    exact h
                  have e1 : (q2 == 1) = false := by simpa using hk1
                  clear hk1
                  go_cut [] (fun wx => wx = w1)
                  case first =>
                    go_wp2
                    go_meet
                    rfl
                  case rest =>
                    obtain ⟨wt, rfl⟩ : ∃ x : World, x = wc := ⟨_, rfl⟩
                    subst hcut
                    have HAs := HA1
                    have HBs := HB1
                    clear HA1 HB1 z2 e1
                    as_aux_lemma =>
                      obtain ⟨E, hE⟩ : ∃ E, (⟨q0, q1, q2, Vv, q4, now, q6, q7, q8, q9, q10, q11, q12, X, 0, now⟩ : Anim).err = E := ⟨_, rfl⟩
                      have HE := Lib.hid hE
                      clear hE
                      have HVs : Hid (IsAnims wt _ l) := HV0.out.of_below (HBs.out)
                      go_wp2_with (first | (refine load_anim rfl _ rfl B rfl _ _ HAs.out ?_))
                      refine (rValidate_any _ _ _ _ _ _ _ _ _ _ _ _ _ _ _ _ _).mono ?_
                      rw [HE.out]
                      rintro e w4 ⟨rfl, hb⟩
                      have HA4 : Hid (AnimBlk w4 B 38 [.int .i64 q0, .int .i64 q1, .int .i64 q2, .int .i64 Vv, .int .i64 q4, .int .i64 now, .int .i64 q6, .int .i64 q7, .int .i64 q8, .int .i64 q9, .int .i64 q10, .int .i64 q11, .int .i64 q12, .int .i64 X, .int .i64 0, .int .i64 now]) := HAs.out.kept hb HAs.out.lt
                      have HB4 : Hid (Below w.heap.size w w4) := HBs.out.trans (hb.mono HBs.out.size)
                      have HV4 : Hid (IsAnims w4 _ l) := HVs.out.of_below hb
                      clear hb HAs HBs HVs
                      by_cases he : E = 0
                      · have e2 : (E != 0) = false := by simpa using he
                        have HSE : Hid ((settled l (⟨q0, q1, q2, q3, q4, q5, q6, q7, q8, q9, q10, q11, q12, q13, q14, q15⟩ : Anim) now).err = 0) := by show _ = _; rw [← HAG.out.1, HE.out]; exact he
                        have HSt : Hid (settled l (⟨q0, q1, q2, q3, q4, q5, q6, q7, q8, q9, q10, q11, q12, q13, q14, q15⟩ : Anim) now = (⟨q0, q1, q2, Vv, q4, now, q6, q7, q8, q9, q10, q11, q12, X, 0, now⟩ : Anim)) := (HAG.out.2 HSE.out).symm
                        have hP0 : decide ((pl : Int) < 0) = false := by simp
                        have HR : Hid (setErr l (⟨q0, q1, q2, q3, q4, q5, q6, q7, q8, q9, q10, q11, q12, q13, q14, q15⟩ : Anim) now = 0) := by show _ = _; rw [setErr, if_neg (by rw [HN.out]; omega), if_neg (by rw [hbt]; decide), if_neg (by rw [HFE.out]; decide), if_neg (by rw [HSE.out]; decide), if_neg (by rw [HPL.out]; omega)]
                        have e4 : (pl : Int) < (n : Int) := by omega
                        go_wp2_with (first | (refine rcopy_list (base := w.heap.size) HV4.out (by omega) HB4.out.size hi0 hz0 hz1 hz2 ?_; intro v5 w5 hown5 hb5; have HO5 := Lib.hid hown5; have HBB5 := Lib.hid hb5; clear hown5 hb5) | (refine halt_dst 148 ?_; intro G HGo))
                        have HA5 : Hid (AnimBlk w5 B 38 [.int .i64 q0, .int .i64 q1, .int .i64 q2, .int .i64 Vv, .int .i64 q4, .int .i64 now, .int .i64 q6, .int .i64 q7, .int .i64 q8, .int .i64 q9, .int .i64 q10, .int .i64 q11, .int .i64 q12, .int .i64 X, .int .i64 0, .int .i64 now]) := HA4.out.kept (HBB5.out _ (Nat.le_refl _)) HA4.out.lt
                        have HB5 : Hid (Below w.heap.size w w5) := HB4.out.trans (HBB5.out _ HB4.out.size)
                        refine HGo.out ?_
                        clear HGo
                        obtain ⟨gq, capq, rfl⟩ := Joins.ownsRow_form HO5.out (by omega)
                        refine rput_list (base := w.heap.size) (l := l) HN.out.symm hpn HO5.out HA5.out ?_
                        intro ad w6 his6 hb6
                        have HAn : Hid (IsAnims w6 (.slice (some ⟨gq, 0, none⟩) n capq) (setOn l (⟨q0, q1, q2, q3, q4, q5, q6, q7, q8, q9, q10, q11, q12, q13, q14, q15⟩ : Anim) now)) := by
                          show IsAnims _ _ _
                          rw [setOn, if_pos HR.out, if_pos (by rw [HPL.out, HN.out]; exact hpn), HSt.out, HPL.out]
                          exact his6
                        have HB6 : Hid (Below w.heap.size w w6) := HB5.out.trans (hb6 _ (Nat.le_refl _))
                        clear his6 hb6
                        go_wp2
                        go_ret2
                        exact ⟨_, by rw [HR.out]; rfl, HAn.out, HB6.out⟩
                      · have e2 : (E != 0) = true := by simpa using he
                        have HSE : Hid ((settled l (⟨q0, q1, q2, q3, q4, q5, q6, q7, q8, q9, q10, q11, q12, q13, q14, q15⟩ : Anim) now).err = E) := by show _ = _; rw [← HAG.out.1]; exact HE.out
                        have HR : Hid (setErr l (⟨q0, q1, q2, q3, q4, q5, q6, q7, q8, q9, q10, q11, q12, q13, q14, q15⟩ : Anim) now = E) := by show _ = _; rw [setErr, if_neg (by rw [HN.out]; omega), if_neg (by rw [hbt]; decide), if_neg (by rw [HFE.out]; decide), if_pos (by rw [HSE.out]; exact he)]; exact HSE.out
                        have HEn := Lib.hid he
                        clear he
                        go_wp2
                        go_ret2
                        exact Setted.no HR.out HEn.out HB4.out
      · obtain rfl : pl = n := by omega
        have hPv : P = -1 := by rw [← HPI.out]; simp [plI]
        subst hPv
        obtain ⟨n, rfl⟩ : ∃ n, n = pl := ⟨_, rfl⟩
        obtain ⟨X, hX⟩ : ∃ X, safeX q3 = X := ⟨_, rfl⟩
        have HAGX : Hid (Agreed ((⟨q0, q1, q2, q3, q4, now, q6, q7, q8, q9, q10, q11, q12, X, q14, now⟩ : Anim)).still (settled l (⟨q0, q1, q2, q3, q4, q5, q6, q7, q8, q9, q10, q11, q12, q13, q14, q15⟩ : Anim) now)) := by
          show Agreed _ _
          unfold settled
          simp only
          rw [if_neg (by rw [HPL.out, HN.out]; omega)]
          exact agreed_still rfl rfl (fun h => by rw [← hX, ← safeX_w h])
        have hq : decide ((0 : Int) ≤ -1) = false := by decide
        have hq2 : decide ((-1 : Int) < 0) = true := by decide
        go_upto_if 106 with fail
        go_cut [] (fun wx => AnimBlk wx B 38 [.int .i64 q0, .int .i64 q1, .int .i64 q2, .int .i64 q3, .int .i64 q4, .int .i64 now, .int .i64 q6, .int .i64 q7, .int .i64 q8, .int .i64 q9, .int .i64 q10, .int .i64 q11, .int .i64 q12, .int .i64 X, .int .i64 q14, .int .i64 now] ∧ Below w.heap.size w wx)
        case first =>
          as_aux_lemma =>
            have z3 : w1.cell? ⟨B, 3, none⟩ = some (.int .i64 q3) := (HA1.out.cell 3).trans rfl
            have z13 : w1.cell? ⟨B, 13, none⟩ = some (.int .i64 q13) := (HA1.out.cell 13).trans rfl
            have z14 : w1.cell? ⟨B, 14, none⟩ = some (.int .i64 q14) := (HA1.out.cell 14).trans rfl
            have y13 := HA1.out.free 13
            have y14 := HA1.out.free 14
            have hblt := HA1.out.lt
            by_cases hv : valueB q3 = true
            · have hvb : btw q3 (-1048576) 1048576 = true := hv
              have hvr := btw_iff.1 hvb
              have hw3 : IntKind.i64.wrap (65536 * q3) = X := by rw [← hX]; unfold safeX; rw [if_pos hv]; exact IntWalk.i64_in _ (by omega)
              clear hX
              go_wp2_with (go_at_call 45; refine (rin_any _ _ _ _).mono ?_; rw [hvb]; rintro e w' ⟨rfl, rfl⟩)
              go_meet
              first | exact ⟨((HA1.out.set 13 _).set 14 _).set 13 _, ((HB1.out.setCell HBW.out _).setCell HBW.out _).setCell HBW.out _⟩ | trace_state
            · have hvb : btw q3 (-1048576) 1048576 = false := by simpa [valueB] using hv
              have hX0 : X = 0 := by rw [← hX]; unfold safeX; rw [if_neg hv]
              subst hX0
              clear hX
              go_wp2_with (go_at_call 45; refine (rin_any _ _ _ _).mono ?_; rw [hvb]; rintro e w' ⟨rfl, rfl⟩)
              go_meet
              first | exact ⟨(HA1.out.set 13 _).set 14 _, (HB1.out.setCell HBW.out _).setCell HBW.out _⟩ | trace_state
        case rest =>
          obtain ⟨hA, hB⟩ := hcut
          obtain ⟨w1, rfl⟩ : ∃ x : World, x = wc := ⟨_, rfl⟩
          have HA1 := Lib.hid hA
          have HB1 := Lib.hid hB
          clear hA hB
          have z2 : w1.cell? ⟨B, 2, none⟩ = some (.int .i64 q2) := (HA1.out.cell 2).trans rfl
          go_upto_if 123 with fail
          by_cases hk1 : q2 = 1
          · have HAG : Hid (Agreed (⟨q0, q1, q2, q3, q4, now, q6, q7, q8, q9, q10, q11, q12, 0, 0, now⟩ : Anim) (settled l (⟨q0, q1, q2, q3, q4, q5, q6, q7, q8, q9, q10, q11, q12, q13, q14, q15⟩ : Anim) now)) := by
              have h := HAGX.out
              unfold Anim.still at h
              rw [if_pos hk1] at h
              exact h
            have e1 : (q2 == 1) = true := by simpa using hk1
            clear hk1
            go_cut [] (fun wx => AnimBlk wx B 38 [.int .i64 q0, .int .i64 q1, .int .i64 q2, .int .i64 q3, .int .i64 q4, .int .i64 now, .int .i64 q6, .int .i64 q7, .int .i64 q8, .int .i64 q9, .int .i64 q10, .int .i64 q11, .int .i64 q12, .int .i64 0, .int .i64 0, .int .i64 now] ∧ Below w.heap.size w wx)
            case first =>
              have z13 : w1.cell? ⟨B, 13, none⟩ = some (.int .i64 X) := (HA1.out.cell 13).trans rfl
              have z14 : w1.cell? ⟨B, 14, none⟩ = some (.int .i64 q14) := (HA1.out.cell 14).trans rfl
              have y13 := HA1.out.free 13
              have y14 := HA1.out.free 14
              have hblt := HA1.out.lt
              go_wp2
              go_meet
              exact ⟨(HA1.out.set 13 _).set 14 _, (HB1.out.setCell HBW.out _).setCell HBW.out _⟩
            case rest =>
              obtain ⟨hA, hB⟩ := hcut
              obtain ⟨wt, rfl⟩ : ∃ x : World, x = wc := ⟨_, rfl⟩
              have HAs := Lib.hid hA
              have HBs := Lib.hid hB
              clear hA hB HA1 HB1 z2 e1
              as_aux_lemma =>
                obtain ⟨E, hE⟩ : ∃ E, (⟨q0, q1, q2, q3, q4, now, q6, q7, q8, q9, q10, q11, q12, 0, 0, now⟩ : Anim).err = E := ⟨_, rfl⟩
                have HE := Lib.hid hE
                clear hE
                have HVs : Hid (IsAnims wt _ l) := HV0.out.of_below (HBs.out)
                go_wp2_with (first | (refine load_anim rfl _ rfl B rfl _ _ HAs.out ?_))
                refine (rValidate_any _ _ _ _ _ _ _ _ _ _ _ _ _ _ _ _ _).mono ?_
                rw [HE.out]
                rintro e w4 ⟨rfl, hb⟩
                have HA4 : Hid (AnimBlk w4 B 38 [.int .i64 q0, .int .i64 q1, .int .i64 q2, .int .i64 q3, .int .i64 q4, .int .i64 now, .int .i64 q6, .int .i64 q7, .int .i64 q8, .int .i64 q9, .int .i64 q10, .int .i64 q11, .int .i64 q12, .int .i64 0, .int .i64 0, .int .i64 now]) := HAs.out.kept hb HAs.out.lt
                have HB4 : Hid (Below w.heap.size w w4) := HBs.out.trans (hb.mono HBs.out.size)
                have HV4 : Hid (IsAnims w4 _ l) := HVs.out.of_below hb
                clear hb HAs HBs HVs
                by_cases he : E = 0
                · have e2 : (E != 0) = false := by simpa using he
                  have HSE : Hid ((settled l (⟨q0, q1, q2, q3, q4, q5, q6, q7, q8, q9, q10, q11, q12, q13, q14, q15⟩ : Anim) now).err = 0) := by show _ = _; rw [← HAG.out.1, HE.out]; exact he
                  have HSt : Hid (settled l (⟨q0, q1, q2, q3, q4, q5, q6, q7, q8, q9, q10, q11, q12, q13, q14, q15⟩ : Anim) now = (⟨q0, q1, q2, q3, q4, now, q6, q7, q8, q9, q10, q11, q12, 0, 0, now⟩ : Anim)) := (HAG.out.2 HSE.out).symm
                  have hP0 : decide ((-1 : Int) < 0) = true := by decide
                  by_cases h64 : n = 64
                  · have HR : Hid (setErr l (⟨q0, q1, q2, q3, q4, q5, q6, q7, q8, q9, q10, q11, q12, q13, q14, q15⟩ : Anim) now = 11) := by show _ = _; rw [setErr, if_neg (by rw [HN.out]; omega), if_neg (by rw [hbt]; decide), if_neg (by rw [HFE.out]; decide), if_neg (by rw [HSE.out]; decide), if_pos (by rw [HPL.out]; exact h64)]
                    have e3 : ((n : Int) == 64) = true := by simp; omega
                    go_wp2
                    go_ret2
                    exact Setted.no HR.out (by omega) HB4.out
                  · have HR : Hid (setErr l (⟨q0, q1, q2, q3, q4, q5, q6, q7, q8, q9, q10, q11, q12, q13, q14, q15⟩ : Anim) now = 0) := by show _ = _; rw [setErr, if_neg (by rw [HN.out]; omega), if_neg (by rw [hbt]; decide), if_neg (by rw [HFE.out]; decide), if_neg (by rw [HSE.out]; decide), if_neg (by rw [HPL.out]; exact h64)]
                    have e3 : ((n : Int) == 64) = false := by simp; omega
                    go_wp2_with (first | (refine rcopy_list (base := w.heap.size) HV4.out (by omega) HB4.out.size hi0 hz0 hz1 hz2 ?_; intro v5 w5 hown5 hb5; have HO5 := Lib.hid hown5; have HBB5 := Lib.hid hb5; clear hown5 hb5) | (refine halt_dst 143 ?_; intro G HGo))
                    have HA5 : Hid (AnimBlk w5 B 38 [.int .i64 q0, .int .i64 q1, .int .i64 q2, .int .i64 q3, .int .i64 q4, .int .i64 now, .int .i64 q6, .int .i64 q7, .int .i64 q8, .int .i64 q9, .int .i64 q10, .int .i64 q11, .int .i64 q12, .int .i64 0, .int .i64 0, .int .i64 now]) := HA4.out.kept (HBB5.out _ (Nat.le_refl _)) HA4.out.lt
                    have HB5 : Hid (Below w.heap.size w w5) := HB4.out.trans (HBB5.out _ HB4.out.size)
                    refine HGo.out ?_
                    clear HGo
                    refine rgrow_list (base := w.heap.size) (N := n) (by omega) HB5.out.size (recCells (l.map recA)) hi0 hz0 hz1 hz2 HO5.out HA5.out ?_
                    intro v6 w6 hown6 hb6
                    have HAn : Hid (IsAnims w6 v6 (setOn l (⟨q0, q1, q2, q3, q4, q5, q6, q7, q8, q9, q10, q11, q12, q13, q14, q15⟩ : Anim) now)) := by
                      show IsAnims _ _ _
                      rw [setOn, if_pos HR.out, if_neg (by rw [HPL.out, HN.out]; omega), HSt.out]
                      refine ownsRow_isRecs (base := w.heap.size) (e := 38) (n := n + 1) (l := (l ++ [(⟨q0, q1, q2, q3, q4, now, q6, q7, q8, q9, q10, q11, q12, 0, 0, now⟩ : Anim)]).map recA) ?_ (by simp; exact HN.out.symm) (recA_wide _)
                      rw [List.map_append, recCells_append]; exact hown6
                    have HB6 : Hid (Below w.heap.size w w6) := HB5.out.trans (hb6 _ (Nat.le_refl _))
                    clear hown6 hb6
                    go_wp2
                    go_ret2
                    exact ⟨_, by rw [HR.out]; rfl, HAn.out, HB6.out⟩
                · have e2 : (E != 0) = true := by simpa using he
                  have HSE : Hid ((settled l (⟨q0, q1, q2, q3, q4, q5, q6, q7, q8, q9, q10, q11, q12, q13, q14, q15⟩ : Anim) now).err = E) := by show _ = _; rw [← HAG.out.1]; exact HE.out
                  have HR : Hid (setErr l (⟨q0, q1, q2, q3, q4, q5, q6, q7, q8, q9, q10, q11, q12, q13, q14, q15⟩ : Anim) now = E) := by show _ = _; rw [setErr, if_neg (by rw [HN.out]; omega), if_neg (by rw [hbt]; decide), if_neg (by rw [HFE.out]; decide), if_pos (by rw [HSE.out]; exact he)]; exact HSE.out
                  have HEn := Lib.hid he
                  clear he
                  go_wp2
                  go_ret2
                  exact Setted.no HR.out HEn.out HB4.out
          · have HAG : Hid (Agreed (⟨q0, q1, q2, q3, q4, now, q6, q7, q8, q9, q10, q11, q12, X, q14, now⟩ : Anim) (settled l (⟨q0, q1, q2, q3, q4, q5, q6, q7, q8, q9, q10, q11, q12, q13, q14, q15⟩ : Anim) now)) := by
              have h := HAGX.out
              unfold Anim.still at h
              rw [if_neg hk1] at h
              exact h
            have e1 : (q2 == 1) = false := by simpa using hk1
            clear hk1
            go_cut [] (fun wx => wx = w1)
            case first =>
              go_wp2
              go_meet
              rfl
            case rest =>
              obtain ⟨wt, rfl⟩ : ∃ x : World, x = wc := ⟨_, rfl⟩
              subst hcut
              have HAs := HA1
              have HBs := HB1
              clear HA1 HB1 z2 e1
              as_aux_lemma =>
                obtain ⟨E, hE⟩ : ∃ E, (⟨q0, q1, q2, q3, q4, now, q6, q7, q8, q9, q10, q11, q12, X, q14, now⟩ : Anim).err = E := ⟨_, rfl⟩
                have HE := Lib.hid hE
                clear hE
                have HVs : Hid (IsAnims wt _ l) := HV0.out.of_below (HBs.out)
                go_wp2_with (first | (refine load_anim rfl _ rfl B rfl _ _ HAs.out ?_))
                refine (rValidate_any _ _ _ _ _ _ _ _ _ _ _ _ _ _ _ _ _).mono ?_
                rw [HE.out]
                rintro e w4 ⟨rfl, hb⟩
                have HA4 : Hid (AnimBlk w4 B 38 [.int .i64 q0, .int .i64 q1, .int .i64 q2, .int .i64 q3, .int .i64 q4, .int .i64 now, .int .i64 q6, .int .i64 q7, .int .i64 q8, .int .i64 q9, .int .i64 q10, .int .i64 q11, .int .i64 q12, .int .i64 X, .int .i64 q14, .int .i64 now]) := HAs.out.kept hb HAs.out.lt
                have HB4 : Hid (Below w.heap.size w w4) := HBs.out.trans (hb.mono HBs.out.size)
                have HV4 : Hid (IsAnims w4 _ l) := HVs.out.of_below hb
                clear hb HAs HBs HVs
                by_cases he : E = 0
                · have e2 : (E != 0) = false := by simpa using he
                  have HSE : Hid ((settled l (⟨q0, q1, q2, q3, q4, q5, q6, q7, q8, q9, q10, q11, q12, q13, q14, q15⟩ : Anim) now).err = 0) := by show _ = _; rw [← HAG.out.1, HE.out]; exact he
                  have HSt : Hid (settled l (⟨q0, q1, q2, q3, q4, q5, q6, q7, q8, q9, q10, q11, q12, q13, q14, q15⟩ : Anim) now = (⟨q0, q1, q2, q3, q4, now, q6, q7, q8, q9, q10, q11, q12, X, q14, now⟩ : Anim)) := (HAG.out.2 HSE.out).symm
                  have hP0 : decide ((-1 : Int) < 0) = true := by decide
                  by_cases h64 : n = 64
                  · have HR : Hid (setErr l (⟨q0, q1, q2, q3, q4, q5, q6, q7, q8, q9, q10, q11, q12, q13, q14, q15⟩ : Anim) now = 11) := by show _ = _; rw [setErr, if_neg (by rw [HN.out]; omega), if_neg (by rw [hbt]; decide), if_neg (by rw [HFE.out]; decide), if_neg (by rw [HSE.out]; decide), if_pos (by rw [HPL.out]; exact h64)]
                    have e3 : ((n : Int) == 64) = true := by simp; omega
                    go_wp2
                    go_ret2
                    exact Setted.no HR.out (by omega) HB4.out
                  · have HR : Hid (setErr l (⟨q0, q1, q2, q3, q4, q5, q6, q7, q8, q9, q10, q11, q12, q13, q14, q15⟩ : Anim) now = 0) := by show _ = _; rw [setErr, if_neg (by rw [HN.out]; omega), if_neg (by rw [hbt]; decide), if_neg (by rw [HFE.out]; decide), if_neg (by rw [HSE.out]; decide), if_neg (by rw [HPL.out]; exact h64)]
                    have e3 : ((n : Int) == 64) = false := by simp; omega
                    go_wp2_with (first | (refine rcopy_list (base := w.heap.size) HV4.out (by omega) HB4.out.size hi0 hz0 hz1 hz2 ?_; intro v5 w5 hown5 hb5; have HO5 := Lib.hid hown5; have HBB5 := Lib.hid hb5; clear hown5 hb5) | (refine halt_dst 143 ?_; intro G HGo))
                    have HA5 : Hid (AnimBlk w5 B 38 [.int .i64 q0, .int .i64 q1, .int .i64 q2, .int .i64 q3, .int .i64 q4, .int .i64 now, .int .i64 q6, .int .i64 q7, .int .i64 q8, .int .i64 q9, .int .i64 q10, .int .i64 q11, .int .i64 q12, .int .i64 X, .int .i64 q14, .int .i64 now]) := HA4.out.kept (HBB5.out _ (Nat.le_refl _)) HA4.out.lt
                    have HB5 : Hid (Below w.heap.size w w5) := HB4.out.trans (HBB5.out _ HB4.out.size)
                    refine HGo.out ?_
                    clear HGo
                    refine rgrow_list (base := w.heap.size) (N := n) (by omega) HB5.out.size (recCells (l.map recA)) hi0 hz0 hz1 hz2 HO5.out HA5.out ?_
                    intro v6 w6 hown6 hb6
                    have HAn : Hid (IsAnims w6 v6 (setOn l (⟨q0, q1, q2, q3, q4, q5, q6, q7, q8, q9, q10, q11, q12, q13, q14, q15⟩ : Anim) now)) := by
                      show IsAnims _ _ _
                      rw [setOn, if_pos HR.out, if_neg (by rw [HPL.out, HN.out]; omega), HSt.out]
                      refine ownsRow_isRecs (base := w.heap.size) (e := 38) (n := n + 1) (l := (l ++ [(⟨q0, q1, q2, q3, q4, now, q6, q7, q8, q9, q10, q11, q12, X, q14, now⟩ : Anim)]).map recA) ?_ (by simp; exact HN.out.symm) (recA_wide _)
                      rw [List.map_append, recCells_append]; exact hown6
                    have HB6 : Hid (Below w.heap.size w w6) := HB5.out.trans (hb6 _ (Nat.le_refl _))
                    clear hown6 hb6
                    go_wp2
                    go_ret2
                    exact ⟨_, by rw [HR.out]; rfl, HAn.out, HB6.out⟩
                · have e2 : (E != 0) = true := by simpa using he
                  have HSE : Hid ((settled l (⟨q0, q1, q2, q3, q4, q5, q6, q7, q8, q9, q10, q11, q12, q13, q14, q15⟩ : Anim) now).err = E) := by show _ = _; rw [← HAG.out.1]; exact HE.out
                  have HR : Hid (setErr l (⟨q0, q1, q2, q3, q4, q5, q6, q7, q8, q9, q10, q11, q12, q13, q14, q15⟩ : Anim) now = E) := by show _ = _; rw [setErr, if_neg (by rw [HN.out]; omega), if_neg (by rw [hbt]; decide), if_neg (by rw [HFE.out]; decide), if_pos (by rw [HSE.out]; exact he)]; exact HSE.out
                  have HEn := Lib.hid he
                  clear he
                  go_wp2
                  go_ret2
                  exact Setted.no HR.out HEn.out HB4.out

set_option maxHeartbeats 1000000 in
set_option maxRecDepth 100000 in
theorem rset_long (a : Option Addr) (n cap : Nat) (l : List Anim) (q0 q1 q2 q3 q4 q5 q6 q7 q8 q9 q10 q11 q12 q13 q14 q15 now : Int) (w : World) (HN : Hid (l.length = n)) (hn : 64 < n) (hm : n ≤ maxLen) :
    Calls Try.prog 36 #[.slice a n cap, .agg #[.int .i64 q0, .int .i64 q1, .int .i64 q2, .int .i64 q3, .int .i64 q4, .int .i64 q5, .int .i64 q6, .int .i64 q7, .int .i64 q8, .int .i64 q9, .int .i64 q10, .int .i64 q11, .int .i64 q12, .int .i64 q13, .int .i64 q14, .int .i64 q15], .int .i64 now] w (Setted l (⟨q0, q1, q2, q3, q4, q5, q6, q7, q8, q9, q10, q11, q12, q13, q14, q15⟩ : Anim) now w) := by
  unfold maxLen at hm
  have hn' : (64 : Int) < (n : Int) := by omega
  have HE : Hid (setErr l (⟨q0, q1, q2, q3, q4, q5, q6, q7, q8, q9, q10, q11, q12, q13, q14, q15⟩ : Anim) now = 2) := by show _ = _; rw [setErr, if_pos (by rw [HN.out]; exact hn)]
  go_enter Try.func36, Try.ntmps36
  go_wp2
  go_ret2
  exact Setted.no HE.out (by omega) (by first | exact Below.refl _ _ | exact (Below.refl _ _).alloc (Nat.le_refl _) _)
set_option maxHeartbeats 1000000 in
set_option maxRecDepth 100000 in
theorem rset_late (a : Option Addr) (n cap : Nat) (l : List Anim) (q0 q1 q2 q3 q4 q5 q6 q7 q8 q9 q10 q11 q12 q13 q14 q15 now : Int) (w : World) (HN : Hid (l.length = n)) (hn : n ≤ 64) (hbt : btw now 0 1099511627776 = false) :
    Calls Try.prog 36 #[.slice a n cap, .agg #[.int .i64 q0, .int .i64 q1, .int .i64 q2, .int .i64 q3, .int .i64 q4, .int .i64 q5, .int .i64 q6, .int .i64 q7, .int .i64 q8, .int .i64 q9, .int .i64 q10, .int .i64 q11, .int .i64 q12, .int .i64 q13, .int .i64 q14, .int .i64 q15], .int .i64 now] w (Setted l (⟨q0, q1, q2, q3, q4, q5, q6, q7, q8, q9, q10, q11, q12, q13, q14, q15⟩ : Anim) now w) := by
  have hn' : (n : Int) ≤ 64 := by omega
  have HE : Hid (setErr l (⟨q0, q1, q2, q3, q4, q5, q6, q7, q8, q9, q10, q11, q12, q13, q14, q15⟩ : Anim) now = 1) := by show _ = _; rw [setErr, if_neg (by rw [HN.out]; omega), if_pos hbt]
  go_enter Try.func36, Try.ntmps36
  go_wp2_with (go_at_call 45; refine (rin_any _ _ _ _).mono ?_; rw [hbt]; rintro e w' ⟨rfl, rfl⟩)
  go_ret2
  exact Setted.no HE.out (by omega) (by first | exact Below.refl _ _ | exact (Below.refl _ _).alloc (Nat.le_refl _) _)
theorem rset_any (v : Value) (l : List Anim) (q0 q1 q2 q3 q4 q5 q6 q7 q8 q9 q10 q11 q12 q13 q14 q15 now : Int) (w : World) (hv : IsAnims w v l) :
    Calls Try.prog 36 #[v, .agg #[.int .i64 q0, .int .i64 q1, .int .i64 q2, .int .i64 q3, .int .i64 q4, .int .i64 q5, .int .i64 q6, .int .i64 q7, .int .i64 q8, .int .i64 q9, .int .i64 q10, .int .i64 q11, .int .i64 q12, .int .i64 q13, .int .i64 q14, .int .i64 q15], .int .i64 now] w (Setted l (⟨q0, q1, q2, q3, q4, q5, q6, q7, q8, q9, q10, q11, q12, q13, q14, q15⟩ : Anim) now w) := by
  by_cases hl : l.length ≤ 64
  · by_cases hbt : btw now 0 1099511627776 = true
    · exact rset_in v l q0 q1 q2 q3 q4 q5 q6 q7 q8 q9 q10 q11 q12 q13 q14 q15 now w hv hl hbt
    · obtain ⟨a, cap, rfl, h1, h2, _⟩ := hv.open_
      exact rset_late a _ cap l q0 q1 q2 q3 q4 q5 q6 q7 q8 q9 q10 q11 q12 q13 q14 q15 now w rfl hl (by simpa using hbt)
  · obtain ⟨a, cap, rfl, h1, h2, _⟩ := hv.open_
    exact rset_long a _ cap l q0 q1 q2 q3 q4 q5 q6 q7 q8 q9 q10 q11 q12 q13 q14 q15 now w rfl (by omega) (by omega)
end Go.Proofs.Ytfcffmjmohkpoaa

