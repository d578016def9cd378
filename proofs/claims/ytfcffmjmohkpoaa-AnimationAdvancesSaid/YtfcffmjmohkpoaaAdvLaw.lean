/- The walk of the law AnimationAdvances (printed by wip/gen_advlaw.py). -/
import Derived.Test.YtfcffmjmohkpoaaSrcAnim
import Derived.Test.YtfcffmjmohkpoaaReduce
import Derived.Test.YtfcffmjmohkpoaaOpenAnim
import Derived.Test.YtfcffmjmohkpoaaRefAdv
import Derived.Test.YtfcffmjmohkpoaaRefSet
import Derived.Test.YtfcffmjmohkpoaaSetAny
import Derived.Test.YtfcffmjmohkpoaaEqual
import Derived.Test.YtfcffmjmohkpoaaAwake36
import Derived.Test.YtfcffmjmohkpoaaTail
import Derived.Lib.SmallJoins
import Derived.Deep.AppendLies
namespace Go.Proofs.Ytfcffmjmohkpoaa
open Go.RowKit
set_option linter.unusedVariables false
set_option linter.unusedSimpArgs false
theorem blk_animsA {w : World} {L n : Nat} {t : TypeId} (l : List Anim) (h : w.heap[L]? = some (.cells (recCells (l.map recA)).toArray t (0, 0))) (hn : n = l.length) (hm : n ≤ maxLen) : IsAnims w (.slice (some ⟨L, 0, none⟩) n n) l := by
  subst hn
  refine ⟨_, l.length, by simp, by simp, hm, fun hp => ⟨L, 0, rfl, lt_of_block h, fun i hi j hj => ?_⟩⟩
  rw [cell_of_row w L _ _ t (0, 0) h]
  have k1 := recCells_at (l.map recA) (recA_wide l) i hi j hj
  simpa using k1
theorem blk_intsA {w : World} {L n : Nat} {t : TypeId} (l : List Int) (h : w.heap[L]? = some (.cells (l.map (Value.int .i64)).toArray t (0, 0))) (hn : n = l.length) (hm : n ≤ maxLen) : IsInts w (.slice (some ⟨L, 0, none⟩) n n) l := by
  subst hn
  refine ⟨_, l.length, rfl, Nat.le_refl _, hm, fun hp => ⟨L, 0, rfl, lt_of_block h, fun i hi => ?_⟩⟩
  rw [Nat.zero_add, cell_of_row w L _ _ t (0, 0) h]
  simp [gz, hi]
set_option maxHeartbeats 4000000 in
set_option maxRecDepth 100000 in
/-- A literal list of one animation, in the region that appends. -/
theorem step_lit1A {ops : Array Oper} {t : TypeId} {s : String} {e : Array Edge} {K : Act → World → Prop} {Q : Exit → Act → World → Prop} {E : Prop} {u0 u1 u2 u3 u4 u5 u6 u7 u8 u9 u10 u11 u12 u13 u14 u15 u16 u17 u18 u19 u20 u21 u22 u23 u24 u25 u26 u27 u28 u29 u30 u31 u32 u33 u34 u35 u36 u37 u38 u39 u40 u41 u42 u43 u44 u45 u47 u48 u49 u50 u51 u52 u53 u54 u55 u56 u57 u58 u59 u60 u61 u62 u63 u64 u65 u66 u67 u68 u69 u70 u71 u72 u73 u74 u75 u76 u77 u78 u79 u80 u81 u82 u83 u84 u85 u86 u87 u88 u89 u90 u91 u92 u93 u94 u95 u96 u97 u98 u99 u100 u101 u102 u103 u104 u105 u106 u107 u108 u109 u110 u111 u112 u113 u114 u115 u116 u117 u118 u119 u120 u121 u122 u123 u124 u125 u126 u127 u128 u129 u130 u131 u132 u133 u134 u135 u136 u137 u138 u139 u140 u141 u142 u143 u144 u145 u146 u147 u148 : Value} {a0 a1 a2 a3 a4 a5 a6 a7 a8 a9 a10 a11 a12 a13 a14 a15 : Int} {w : World}
    (h : K ⟨#[u0, u1, u2, u3, u4, u5, u6, u7, u8, u9, u10, u11, u12, u13, u14, u15, u16, u17, u18, u19, u20, u21, u22, u23, u24, u25, u26, u27, u28, u29, u30, u31, u32, u33, u34, u35, u36, u37, u38, u39, u40, u41, u42, u43, u44, u45, .agg #[.int .i64 a0, .int .i64 a1, .int .i64 a2, .int .i64 a3, .int .i64 a4, .int .i64 a5, .int .i64 a6, .int .i64 a7, .int .i64 a8, .int .i64 a9, .int .i64 a10, .int .i64 a11, .int .i64 a12, .int .i64 a13, .int .i64 a14, .int .i64 a15], .slice (some ⟨w.heap.size, 0, none⟩) 1 1, u48, u49, u50, u51, u52, u53, u54, u55, u56, u57, u58, u59, u60, u61, u62, u63, u64, u65, u66, u67, u68, u69, u70, u71, u72, u73, u74, u75, u76, u77, u78, u79, u80, u81, u82, u83, u84, u85, u86, u87, u88, u89, u90, u91, u92, u93, u94, u95, u96, u97, u98, u99, u100, u101, u102, u103, u104, u105, u106, u107, u108, u109, u110, u111, u112, u113, u114, u115, u116, u117, u118, u119, u120, u121, u122, u123, u124, u125, u126, u127, u128, u129, u130, u131, u132, u133, u134, u135, u136, u137, u138, u139, u140, u141, u142, u143, u144, u145, u146, u147, u148], []⟩ (w.alloc (.cells #[.int .i64 a0, .int .i64 a1, .int .i64 a2, .int .i64 a3, .int .i64 a4, .int .i64 a5, .int .i64 a6, .int .i64 a7, .int .i64 a8, .int .i64 a9, .int .i64 a10, .int .i64 a11, .int .i64 a12, .int .i64 a13, .int .i64 a14, .int .i64 a15] 38))) :
    if Region.wanted (⟨some 47, .buildSlice 40 1 #[(0, .tmp 46)], t, s, e, none⟩ : Oper) (yielded ops #[u0, u1, u2, u3, u4, u5, u6, u7, u8, u9, u10, u11, u12, u13, u14, u15, u16, u17, u18, u19, u20, u21, u22, u23, u24, u25, u26, u27, u28, u29, u30, u31, u32, u33, u34, u35, u36, u37, u38, u39, u40, u41, u42, u43, u44, u45, .agg #[.int .i64 a0, .int .i64 a1, .int .i64 a2, .int .i64 a3, .int .i64 a4, .int .i64 a5, .int .i64 a6, .int .i64 a7, .int .i64 a8, .int .i64 a9, .int .i64 a10, .int .i64 a11, .int .i64 a12, .int .i64 a13, .int .i64 a14, .int .i64 a15], u47, u48, u49, u50, u51, u52, u53, u54, u55, u56, u57, u58, u59, u60, u61, u62, u63, u64, u65, u66, u67, u68, u69, u70, u71, u72, u73, u74, u75, u76, u77, u78, u79, u80, u81, u82, u83, u84, u85, u86, u87, u88, u89, u90, u91, u92, u93, u94, u95, u96, u97, u98, u99, u100, u101, u102, u103, u104, u105, u106, u107, u108, u109, u110, u111, u112, u113, u114, u115, u116, u117, u118, u119, u120, u121, u122, u123, u124, u125, u126, u127, u128, u129, u130, u131, u132, u133, u134, u135, u136, u137, u138, u139, u140, u141, u142, u143, u144, u145, u146, u147, u148]) = true then Oper.wp Try.prog (⟨some 47, .buildSlice 40 1 #[(0, .tmp 46)], t, s, e, none⟩ : Oper) ⟨#[u0, u1, u2, u3, u4, u5, u6, u7, u8, u9, u10, u11, u12, u13, u14, u15, u16, u17, u18, u19, u20, u21, u22, u23, u24, u25, u26, u27, u28, u29, u30, u31, u32, u33, u34, u35, u36, u37, u38, u39, u40, u41, u42, u43, u44, u45, .agg #[.int .i64 a0, .int .i64 a1, .int .i64 a2, .int .i64 a3, .int .i64 a4, .int .i64 a5, .int .i64 a6, .int .i64 a7, .int .i64 a8, .int .i64 a9, .int .i64 a10, .int .i64 a11, .int .i64 a12, .int .i64 a13, .int .i64 a14, .int .i64 a15], u47, u48, u49, u50, u51, u52, u53, u54, u55, u56, u57, u58, u59, u60, u61, u62, u63, u64, u65, u66, u67, u68, u69, u70, u71, u72, u73, u74, u75, u76, u77, u78, u79, u80, u81, u82, u83, u84, u85, u86, u87, u88, u89, u90, u91, u92, u93, u94, u95, u96, u97, u98, u99, u100, u101, u102, u103, u104, u105, u106, u107, u108, u109, u110, u111, u112, u113, u114, u115, u116, u117, u118, u119, u120, u121, u122, u123, u124, u125, u126, u127, u128, u129, u130, u131, u132, u133, u134, u135, u136, u137, u138, u139, u140, u141, u142, u143, u144, u145, u146, u147, u148], []⟩ w K Q else E := by
  rw [if_pos (by simp [Region.wanted])]
  obtain ⟨G, hG⟩ : ∃ G, K ⟨#[u0, u1, u2, u3, u4, u5, u6, u7, u8, u9, u10, u11, u12, u13, u14, u15, u16, u17, u18, u19, u20, u21, u22, u23, u24, u25, u26, u27, u28, u29, u30, u31, u32, u33, u34, u35, u36, u37, u38, u39, u40, u41, u42, u43, u44, u45, .agg #[.int .i64 a0, .int .i64 a1, .int .i64 a2, .int .i64 a3, .int .i64 a4, .int .i64 a5, .int .i64 a6, .int .i64 a7, .int .i64 a8, .int .i64 a9, .int .i64 a10, .int .i64 a11, .int .i64 a12, .int .i64 a13, .int .i64 a14, .int .i64 a15], .slice (some ⟨w.heap.size, 0, none⟩) 1 1, u48, u49, u50, u51, u52, u53, u54, u55, u56, u57, u58, u59, u60, u61, u62, u63, u64, u65, u66, u67, u68, u69, u70, u71, u72, u73, u74, u75, u76, u77, u78, u79, u80, u81, u82, u83, u84, u85, u86, u87, u88, u89, u90, u91, u92, u93, u94, u95, u96, u97, u98, u99, u100, u101, u102, u103, u104, u105, u106, u107, u108, u109, u110, u111, u112, u113, u114, u115, u116, u117, u118, u119, u120, u121, u122, u123, u124, u125, u126, u127, u128, u129, u130, u131, u132, u133, u134, u135, u136, u137, u138, u139, u140, u141, u142, u143, u144, u145, u146, u147, u148], []⟩ (w.alloc (.cells #[.int .i64 a0, .int .i64 a1, .int .i64 a2, .int .i64 a3, .int .i64 a4, .int .i64 a5, .int .i64 a6, .int .i64 a7, .int .i64 a8, .int .i64 a9, .int .i64 a10, .int .i64 a11, .int .i64 a12, .int .i64 a13, .int .i64 a14, .int .i64 a15] 38)) = G := ⟨_, rfl⟩
  rw [hG] at h
  go_simp
  exact h
set_option maxHeartbeats 4000000 in
set_option maxRecDepth 100000 in
/-- A literal list of three animations. -/
theorem step_lit3A {ops : Array Oper} {t : TypeId} {s : String} {e : Array Edge} {K : Act → World → Prop} {Q : Exit → Act → World → Prop} {E : Prop} {u0 u1 u2 u3 u4 u5 u6 u7 u8 u9 u10 u11 u12 u13 u14 u15 u16 u17 u18 u19 u20 u21 u22 u23 u24 u25 u26 u27 u28 u29 u30 u31 u32 u33 u34 u35 u36 u37 u38 u39 u40 u41 u42 u43 u44 u45 u46 u47 u48 u49 u51 u53 u55 u56 u57 u58 u59 u60 u61 u62 u63 u64 u65 u66 u67 u68 u69 u70 u71 u72 u73 u74 u75 u76 u77 u78 u79 u80 u81 u82 u83 u84 u85 u86 u87 u88 u89 u90 u91 u92 u93 u94 u95 u96 u97 u98 u99 u100 u101 u102 u103 u104 u105 u106 u107 u108 u109 u110 u111 u112 u113 u114 u115 u116 u117 u118 u119 u120 u121 u122 u123 u124 u125 u126 u127 u128 u129 u130 u131 u132 u133 u134 u135 u136 u137 u138 u139 u140 u141 u142 u143 u144 u145 u146 u147 u148 : Value} {a0 a1 a2 a3 a4 a5 a6 a7 a8 a9 a10 a11 a12 a13 a14 a15 b0 b1 b2 b3 b4 b5 b6 b7 b8 b9 b10 b11 b12 b13 b14 b15 c0 c1 c2 c3 c4 c5 c6 c7 c8 c9 c10 c11 c12 c13 c14 c15 : Int} {w : World}
    (h : K ⟨#[u0, u1, u2, u3, u4, u5, u6, u7, u8, u9, u10, u11, u12, u13, u14, u15, u16, u17, u18, u19, u20, u21, u22, u23, u24, u25, u26, u27, u28, u29, u30, u31, u32, u33, u34, u35, u36, u37, u38, u39, u40, u41, u42, u43, u44, u45, u46, u47, u48, u49, .agg #[.int .i64 a0, .int .i64 a1, .int .i64 a2, .int .i64 a3, .int .i64 a4, .int .i64 a5, .int .i64 a6, .int .i64 a7, .int .i64 a8, .int .i64 a9, .int .i64 a10, .int .i64 a11, .int .i64 a12, .int .i64 a13, .int .i64 a14, .int .i64 a15], u51, .agg #[.int .i64 b0, .int .i64 b1, .int .i64 b2, .int .i64 b3, .int .i64 b4, .int .i64 b5, .int .i64 b6, .int .i64 b7, .int .i64 b8, .int .i64 b9, .int .i64 b10, .int .i64 b11, .int .i64 b12, .int .i64 b13, .int .i64 b14, .int .i64 b15], u53, .agg #[.int .i64 c0, .int .i64 c1, .int .i64 c2, .int .i64 c3, .int .i64 c4, .int .i64 c5, .int .i64 c6, .int .i64 c7, .int .i64 c8, .int .i64 c9, .int .i64 c10, .int .i64 c11, .int .i64 c12, .int .i64 c13, .int .i64 c14, .int .i64 c15], .slice (some ⟨w.heap.size, 0, none⟩) 3 3, u56, u57, u58, u59, u60, u61, u62, u63, u64, u65, u66, u67, u68, u69, u70, u71, u72, u73, u74, u75, u76, u77, u78, u79, u80, u81, u82, u83, u84, u85, u86, u87, u88, u89, u90, u91, u92, u93, u94, u95, u96, u97, u98, u99, u100, u101, u102, u103, u104, u105, u106, u107, u108, u109, u110, u111, u112, u113, u114, u115, u116, u117, u118, u119, u120, u121, u122, u123, u124, u125, u126, u127, u128, u129, u130, u131, u132, u133, u134, u135, u136, u137, u138, u139, u140, u141, u142, u143, u144, u145, u146, u147, u148], []⟩ (w.alloc (.cells #[.int .i64 a0, .int .i64 a1, .int .i64 a2, .int .i64 a3, .int .i64 a4, .int .i64 a5, .int .i64 a6, .int .i64 a7, .int .i64 a8, .int .i64 a9, .int .i64 a10, .int .i64 a11, .int .i64 a12, .int .i64 a13, .int .i64 a14, .int .i64 a15, .int .i64 b0, .int .i64 b1, .int .i64 b2, .int .i64 b3, .int .i64 b4, .int .i64 b5, .int .i64 b6, .int .i64 b7, .int .i64 b8, .int .i64 b9, .int .i64 b10, .int .i64 b11, .int .i64 b12, .int .i64 b13, .int .i64 b14, .int .i64 b15, .int .i64 c0, .int .i64 c1, .int .i64 c2, .int .i64 c3, .int .i64 c4, .int .i64 c5, .int .i64 c6, .int .i64 c7, .int .i64 c8, .int .i64 c9, .int .i64 c10, .int .i64 c11, .int .i64 c12, .int .i64 c13, .int .i64 c14, .int .i64 c15] 38))) :
    if Region.wanted (⟨some 55, .buildSlice 40 3 #[(0, .tmp 50), (1, .tmp 52), (2, .tmp 54)], t, s, e, none⟩ : Oper) (yielded ops #[u0, u1, u2, u3, u4, u5, u6, u7, u8, u9, u10, u11, u12, u13, u14, u15, u16, u17, u18, u19, u20, u21, u22, u23, u24, u25, u26, u27, u28, u29, u30, u31, u32, u33, u34, u35, u36, u37, u38, u39, u40, u41, u42, u43, u44, u45, u46, u47, u48, u49, .agg #[.int .i64 a0, .int .i64 a1, .int .i64 a2, .int .i64 a3, .int .i64 a4, .int .i64 a5, .int .i64 a6, .int .i64 a7, .int .i64 a8, .int .i64 a9, .int .i64 a10, .int .i64 a11, .int .i64 a12, .int .i64 a13, .int .i64 a14, .int .i64 a15], u51, .agg #[.int .i64 b0, .int .i64 b1, .int .i64 b2, .int .i64 b3, .int .i64 b4, .int .i64 b5, .int .i64 b6, .int .i64 b7, .int .i64 b8, .int .i64 b9, .int .i64 b10, .int .i64 b11, .int .i64 b12, .int .i64 b13, .int .i64 b14, .int .i64 b15], u53, .agg #[.int .i64 c0, .int .i64 c1, .int .i64 c2, .int .i64 c3, .int .i64 c4, .int .i64 c5, .int .i64 c6, .int .i64 c7, .int .i64 c8, .int .i64 c9, .int .i64 c10, .int .i64 c11, .int .i64 c12, .int .i64 c13, .int .i64 c14, .int .i64 c15], u55, u56, u57, u58, u59, u60, u61, u62, u63, u64, u65, u66, u67, u68, u69, u70, u71, u72, u73, u74, u75, u76, u77, u78, u79, u80, u81, u82, u83, u84, u85, u86, u87, u88, u89, u90, u91, u92, u93, u94, u95, u96, u97, u98, u99, u100, u101, u102, u103, u104, u105, u106, u107, u108, u109, u110, u111, u112, u113, u114, u115, u116, u117, u118, u119, u120, u121, u122, u123, u124, u125, u126, u127, u128, u129, u130, u131, u132, u133, u134, u135, u136, u137, u138, u139, u140, u141, u142, u143, u144, u145, u146, u147, u148]) = true then Oper.wp Try.prog (⟨some 55, .buildSlice 40 3 #[(0, .tmp 50), (1, .tmp 52), (2, .tmp 54)], t, s, e, none⟩ : Oper) ⟨#[u0, u1, u2, u3, u4, u5, u6, u7, u8, u9, u10, u11, u12, u13, u14, u15, u16, u17, u18, u19, u20, u21, u22, u23, u24, u25, u26, u27, u28, u29, u30, u31, u32, u33, u34, u35, u36, u37, u38, u39, u40, u41, u42, u43, u44, u45, u46, u47, u48, u49, .agg #[.int .i64 a0, .int .i64 a1, .int .i64 a2, .int .i64 a3, .int .i64 a4, .int .i64 a5, .int .i64 a6, .int .i64 a7, .int .i64 a8, .int .i64 a9, .int .i64 a10, .int .i64 a11, .int .i64 a12, .int .i64 a13, .int .i64 a14, .int .i64 a15], u51, .agg #[.int .i64 b0, .int .i64 b1, .int .i64 b2, .int .i64 b3, .int .i64 b4, .int .i64 b5, .int .i64 b6, .int .i64 b7, .int .i64 b8, .int .i64 b9, .int .i64 b10, .int .i64 b11, .int .i64 b12, .int .i64 b13, .int .i64 b14, .int .i64 b15], u53, .agg #[.int .i64 c0, .int .i64 c1, .int .i64 c2, .int .i64 c3, .int .i64 c4, .int .i64 c5, .int .i64 c6, .int .i64 c7, .int .i64 c8, .int .i64 c9, .int .i64 c10, .int .i64 c11, .int .i64 c12, .int .i64 c13, .int .i64 c14, .int .i64 c15], u55, u56, u57, u58, u59, u60, u61, u62, u63, u64, u65, u66, u67, u68, u69, u70, u71, u72, u73, u74, u75, u76, u77, u78, u79, u80, u81, u82, u83, u84, u85, u86, u87, u88, u89, u90, u91, u92, u93, u94, u95, u96, u97, u98, u99, u100, u101, u102, u103, u104, u105, u106, u107, u108, u109, u110, u111, u112, u113, u114, u115, u116, u117, u118, u119, u120, u121, u122, u123, u124, u125, u126, u127, u128, u129, u130, u131, u132, u133, u134, u135, u136, u137, u138, u139, u140, u141, u142, u143, u144, u145, u146, u147, u148], []⟩ w K Q else E := by
  rw [if_pos (by simp [Region.wanted])]
  obtain ⟨G, hG⟩ : ∃ G, K ⟨#[u0, u1, u2, u3, u4, u5, u6, u7, u8, u9, u10, u11, u12, u13, u14, u15, u16, u17, u18, u19, u20, u21, u22, u23, u24, u25, u26, u27, u28, u29, u30, u31, u32, u33, u34, u35, u36, u37, u38, u39, u40, u41, u42, u43, u44, u45, u46, u47, u48, u49, .agg #[.int .i64 a0, .int .i64 a1, .int .i64 a2, .int .i64 a3, .int .i64 a4, .int .i64 a5, .int .i64 a6, .int .i64 a7, .int .i64 a8, .int .i64 a9, .int .i64 a10, .int .i64 a11, .int .i64 a12, .int .i64 a13, .int .i64 a14, .int .i64 a15], u51, .agg #[.int .i64 b0, .int .i64 b1, .int .i64 b2, .int .i64 b3, .int .i64 b4, .int .i64 b5, .int .i64 b6, .int .i64 b7, .int .i64 b8, .int .i64 b9, .int .i64 b10, .int .i64 b11, .int .i64 b12, .int .i64 b13, .int .i64 b14, .int .i64 b15], u53, .agg #[.int .i64 c0, .int .i64 c1, .int .i64 c2, .int .i64 c3, .int .i64 c4, .int .i64 c5, .int .i64 c6, .int .i64 c7, .int .i64 c8, .int .i64 c9, .int .i64 c10, .int .i64 c11, .int .i64 c12, .int .i64 c13, .int .i64 c14, .int .i64 c15], .slice (some ⟨w.heap.size, 0, none⟩) 3 3, u56, u57, u58, u59, u60, u61, u62, u63, u64, u65, u66, u67, u68, u69, u70, u71, u72, u73, u74, u75, u76, u77, u78, u79, u80, u81, u82, u83, u84, u85, u86, u87, u88, u89, u90, u91, u92, u93, u94, u95, u96, u97, u98, u99, u100, u101, u102, u103, u104, u105, u106, u107, u108, u109, u110, u111, u112, u113, u114, u115, u116, u117, u118, u119, u120, u121, u122, u123, u124, u125, u126, u127, u128, u129, u130, u131, u132, u133, u134, u135, u136, u137, u138, u139, u140, u141, u142, u143, u144, u145, u146, u147, u148], []⟩ (w.alloc (.cells #[.int .i64 a0, .int .i64 a1, .int .i64 a2, .int .i64 a3, .int .i64 a4, .int .i64 a5, .int .i64 a6, .int .i64 a7, .int .i64 a8, .int .i64 a9, .int .i64 a10, .int .i64 a11, .int .i64 a12, .int .i64 a13, .int .i64 a14, .int .i64 a15, .int .i64 b0, .int .i64 b1, .int .i64 b2, .int .i64 b3, .int .i64 b4, .int .i64 b5, .int .i64 b6, .int .i64 b7, .int .i64 b8, .int .i64 b9, .int .i64 b10, .int .i64 b11, .int .i64 b12, .int .i64 b13, .int .i64 b14, .int .i64 b15, .int .i64 c0, .int .i64 c1, .int .i64 c2, .int .i64 c3, .int .i64 c4, .int .i64 c5, .int .i64 c6, .int .i64 c7, .int .i64 c8, .int .i64 c9, .int .i64 c10, .int .i64 c11, .int .i64 c12, .int .i64 c13, .int .i64 c14, .int .i64 c15] 38)) = G := ⟨_, rfl⟩
  rw [hG] at h
  go_simp
  exact h

/-- w' is w but for the blocks a and b, and new ones. -/
structure Turns (a b : Nat) (w w' : World) : Prop where
  os : w'.os = w.os
  tape : w'.tape = w.tape
  output : w'.output = w.output
  size : w.heap.size ≤ w'.heap.size
  block : ∀ k, k < w.heap.size → k ≠ a → k ≠ b → w'.heap[k]? = w.heap[k]?
theorem Turns.refl (a b : Nat) (w : World) : Turns a b w w := ⟨rfl, rfl, rfl, Nat.le_refl _, fun _ _ _ _ => rfl⟩
theorem Turns.of_below {a b : Nat} {u v w : World} {B : Nat} (k : Turns a b u v) (h : Below B v w) (hB : u.heap.size ≤ B) : Turns a b u w :=
  ⟨h.os.trans k.os, h.tape.trans k.tape, h.output.trans k.output, Nat.le_trans k.size h.size, fun j hj ha hb => (h.block j (by omega)).trans (k.block j hj ha hb)⟩
theorem Turns.grown {a b : Nat} {u v w : World} {row : Option Nat} (k : Turns a b u v) (h : v.grownBy w row) (hr : ∀ q, row = some q → q = a ∨ q = b ∨ u.heap.size ≤ q) : Turns a b u w :=
  ⟨h.os.trans k.os, h.tape.trans k.tape, h.output.trans k.output, Nat.le_trans k.size h.size, fun j hj ha hb => (h.block j (Nat.lt_of_lt_of_le hj k.size) (fun e => by rcases hr j e.symm with h | h | h <;> omega)).trans (k.block j hj ha hb)⟩
theorem Turns.drewN {a b : Nat} {u v : World} (h : Turns a b u v) (d : Nat) : Turns a b u (v.drewN d) := ⟨h.os, h.tape, h.output, h.size, h.block⟩
theorem Turns.set {a b : Nat} {u v : World} (h : Turns a b u v) {c : Nat} (hc : c = a ∨ c = b) (i : Nat) (x : Value) : Turns a b u (v.setCell ⟨c, i, none⟩ x) := by
  have hb : Below c v (v.setCell ⟨c, i, none⟩ x) := (Below.refl c v).setCell (p := ⟨c, i, none⟩) (Nat.le_refl _) x
  exact ⟨hb.os.trans h.os, hb.tape.trans h.tape, hb.output.trans h.output, Nat.le_trans h.size hb.size, fun k hk h1 h2 => (Below.heap_setCell _ _ _ _ (fun e => by rcases hc with rfl | rfl <;> simp_all)).trans (h.block k hk h1 h2)⟩
theorem Turns.below {a b B : Nat} {u v : World} (h : Turns a b u v) (ha : B ≤ a) (hb : B ≤ b) (hB : B ≤ u.heap.size) : Below B u v := ⟨h.os, h.tape, h.output, h.size, fun k hk => h.block k (by omega) (by omega) (by omega)⟩
/-- A slice of blocks from B on (or of none). -/
def highV (B : Nat) (v : Value) : Prop := ∀ a m c, v = .slice (some a) m c → B ≤ a.block
theorem highV.nil (B m c : Nat) : highV B (.slice none m c) := fun a m c h => by cases h
theorem highV.mono {B C : Nat} {v : Value} (h : highV C v) (hB : B ≤ C) : highV B v := fun a m c e => Nat.le_trans hB (h a m c e)
theorem highV.mk {B g o m c : Nat} (h : B ≤ g) : highV B (.slice (some ⟨g, o, none⟩) m c) := fun a m c e => by cases e; exact h
theorem IsAnims.turns {a b : Nat} {u v : World} {x : Value} {l : List Anim} (h : IsAnims u x l) (ht : Turns a b u v) (hx : highV (max a b + 1) x) : IsAnims v x l := by
  obtain ⟨p, cap, hv, h1, h2, h3⟩ := h
  refine ⟨p, cap, hv, h1, h2, fun hp => ?_⟩
  obtain ⟨g, off, rfl, hlt, hc⟩ := h3 hp
  have hg := hx _ _ _ hv
  refine ⟨g, off, rfl, Nat.lt_of_lt_of_le hlt ht.size, fun i hi j hj => ?_⟩
  rw [← hc i hi j hj]
  exact World.cell?_of_block (w := u) (ht.block g hlt (by have h : max a b + 1 ≤ g := hg; omega) (by have h : max a b + 1 ≤ g := hg; omega))
theorem own_high {w : World} {base e sz k : Nat} {v : Value} {xs : List Value} (h : w.ownsRow base e sz v k xs) : highV base v := by
  obtain ⟨h1, h2⟩ := h
  rcases h2 with ⟨rfl, _⟩ | ⟨g, cap, cur, rfl, hg, _⟩
  · exact highV.nil _ _ _
  · exact highV.mk hg
theorem advOut_len (l : List Anim) (now : Int) : (advOut l now).length ≤ l.length := by
  unfold advOut
  split <;> simp
theorem blk_grown {w w' : World} {L g : Nat} {o : Obj} (h : w.heap[L]? = some o) (hg : w.grownBy w' (some g)) (hn : L ≠ g) : w'.heap[L]? = some o := (hg.block L (Array.getElem?_eq_some_iff.1 h).1 (fun e => hn (Option.some.inj e))).trans h
theorem blk_alloc {w : World} {L : Nat} {o : Obj} (h : w.heap[L]? = some o) (o' : Obj) : (w.alloc o').heap[L]? = some o := (Below.heap_alloc _ _ _ (Array.getElem?_eq_some_iff.1 h).1).trans h
/-- Block L holds three slices. -/
def Holds3 (w : World) (L : Nat) (c0 c1 c2 : Value) : Prop := w.heap[L]? = some (.cells #[c0, c1, c2] 40 (0, 0))
section
variable {w : World} {L : Nat} {c0 c1 c2 : Value}
theorem Holds3.lt (h : Holds3 w L c0 c1 c2) : L < w.heap.size := lt_of_block h
theorem Holds3.cell0 (h : Holds3 w L c0 c1 c2) : w.cell? ⟨L, 0, none⟩ = some c0 := by rw [cell_of_row w L _ _ _ (0, 0) h]; rfl
theorem Holds3.cell1 (h : Holds3 w L c0 c1 c2) : w.cell? ⟨L, 1, none⟩ = some c1 := by rw [cell_of_row w L _ _ _ (0, 0) h]; rfl
theorem Holds3.cell2 (h : Holds3 w L c0 c1 c2) : w.cell? ⟨L, 2, none⟩ = some c2 := by rw [cell_of_row w L _ _ _ (0, 0) h]; rfl
theorem Holds3.free (h : Holds3 w L c0 c1 c2) (i : Nat) : w.frozen? ⟨L, i, none⟩ = false := by unfold Holds3 at h; simp [World.frozen?, h]
theorem Holds3.set1 (h : Holds3 w L c0 c1 c2) (x : Value) : Holds3 (w.setCell ⟨L, 1, none⟩ x) L c0 x c2 := by
  unfold Holds3 at h ⊢
  simp [World.setCell, h, Array.getElem?_modify]
theorem Holds3.set2 (h : Holds3 w L c0 c1 c2) (x : Value) : Holds3 (w.setCell ⟨L, 2, none⟩ x) L c0 c1 x := by
  unfold Holds3 at h ⊢
  simp [World.setCell, h, Array.getElem?_modify]
theorem Holds3.below {w' : World} {B : Nat} (h : Holds3 w L c0 c1 c2) (hb : Below B w w') (hg : L < B) : Holds3 w' L c0 c1 c2 := (hb.block L hg).trans h
theorem Holds3.grown {w' : World} {row : Option Nat} (h : Holds3 w L c0 c1 c2) (hg : w.grownBy w' row) (hn : some L ≠ row) : Holds3 w' L c0 c1 c2 := (hg.block L h.lt hn).trans h
end
/-- What the round of a list keeps: list u of l, in a row of its own from H on; reader g; lists' block L; Wp: the world ahead of the round's list. -/
structure Rnd (g L H : Nat) (Wp : World) (c0 c1 c2 u : Value) (l : List Anim) (w : World) : Prop where
  src : SrcOk w g
  ho : Holds3 w L c0 c1 c2
  own : w.ownsRow H 38 16 u l.length (recCells (l.map recA))
  turn : Turns g L Wp w
  gl : g < L
  lh : L < H
  hw : Wp.heap.size = H
section
variable {g L H : Nat} {Wp w w' : World} {c0 c1 c2 u : Value} {l : List Anim}
theorem Rnd.size (h : Rnd g L H Wp c0 c1 c2 u l w) : H ≤ w.heap.size := by rw [← h.hw]; exact h.turn.size
theorem Rnd.grown (h : Rnd g L H Wp c0 c1 c2 u l w) (hg : w.grownBy w' (some g)) (hs : SrcOk w' g) : Rnd g L H Wp c0 c1 c2 u l w' :=
  ⟨hs, h.ho.grown hg (fun e => by have := Option.some.inj e; have := h.gl; omega), h.own.kept hg (.inr fun e => by have := (h.own.lt g e).1; have := h.gl; have := h.lh; omega), h.turn.grown hg (fun q e => .inl (Option.some.inj e).symm), h.gl, h.lh, h.hw⟩
theorem Rnd.alloc (h : Rnd g L H Wp c0 c1 c2 u l w) (o : Obj) : Rnd g L H Wp c0 c1 c2 u l (w.alloc o) := by
  have hb : Below w.heap.size w (w.alloc o) := (Below.refl _ _).alloc (Nat.le_refl _) _
  have hl := h.src.lt
  have h1 := h.size
  have h2 := h.lh
  exact ⟨h.src.kept (hb.mono (by omega)), h.ho.below hb (by omega), h.own.alloc _, h.turn.of_below hb (by rw [h.hw]; exact h1), h.gl, h2, h.hw⟩
theorem Rnd.drewN (h : Rnd g L H Wp c0 c1 c2 u l w) (d : Nat) : Rnd g L H Wp c0 c1 c2 u l (w.drewN d) := ⟨h.src, h.ho, h.own, h.turn.drewN d, h.gl, h.lh, h.hw⟩
theorem Rnd.drew (h : Rnd g L H Wp c0 c1 c2 u l w) : Rnd g L H Wp c0 c1 c2 u l w.drew := h.drewN 1
theorem Rnd.app (h : Rnd g L H Wp c0 c1 c2 u l w) (hg : w.grownBy w' u.ownBlock) {u' : Value} {l' : List Anim} (ho : w'.ownsRow H 38 16 u' l'.length (recCells (l'.map recA))) : Rnd g L H Wp c0 c1 c2 u' l' w' := by
  have hgl := h.gl
  have hlh := h.lh
  have hr : ∀ q, u.ownBlock = some q → H ≤ q := fun q e => (h.own.lt q e).1
  have hb : Below (g + 1) w w' := ⟨hg.os, hg.tape, hg.output, hg.size, fun k hk => hg.block k (by have := h.src.lt; omega) (fun e => by have := hr k e.symm; omega)⟩
  exact ⟨h.src.kept hb, h.ho.grown hg (fun e => by have := hr L e.symm; omega), ho, h.turn.grown hg (fun q e => .inr (.inr (by rw [h.hw]; exact hr q e))), hgl, hlh, h.hw⟩
theorem Rnd.set (h : Rnd g L H Wp c0 c1 c2 u l w) (i : Nat) (x d0 d1 d2 : Value) (hh : Holds3 (w.setCell ⟨L, i, none⟩ x) L d0 d1 d2) : Rnd g L H Wp d0 d1 d2 u l (w.setCell ⟨L, i, none⟩ x) := by
  have hgl := h.gl
  have hlh := h.lh
  have hb : Below L w (w.setCell ⟨L, i, none⟩ x) := (Below.refl L w).setCell (p := ⟨L, i, none⟩) (Nat.le_refl _) x
  have hg : w.grownBy (w.setCell ⟨L, i, none⟩ x) (some L) := ⟨hb.os, hb.tape, hb.output, hb.size, fun k hk hn => Below.heap_setCell _ _ _ _ (fun e => hn (by rw [e]))⟩
  exact ⟨h.src.kept (hb.mono (by omega)), hh, h.own.kept hg (.inr fun e => by have := (h.own.lt L e).1; omega), h.turn.set (.inr rfl) i x, hgl, hlh, h.hw⟩
end

theorem advlaw_long (a : Option Addr) (cap n : Nat) (p0 p1 p2 p3 p4 p5 p6 p7 p8 p9 p10 p11 p12 p13 p14 p15 now : Int) (v3 : Value) (w : World) (h5 : 5 < n) :
    Calls Try.prog 11 #[.slice a n cap, .agg #[.int .i64 p0, .int .i64 p1, .int .i64 p2, .int .i64 p3, .int .i64 p4, .int .i64 p5, .int .i64 p6, .int .i64 p7, .int .i64 p8, .int .i64 p9, .int .i64 p10, .int .i64 p11, .int .i64 p12, .int .i64 p13, .int .i64 p14, .int .i64 p15], .int .i64 now, v3] w (True_ w) := by
  have h5' : (5 : Int) < (n : Int) := by omega
  have HB : Hid (Below w.heap.size w (w.alloc (.cells #[.int .i64 p0, .int .i64 p1, .int .i64 p2, .int .i64 p3, .int .i64 p4, .int .i64 p5, .int .i64 p6, .int .i64 p7, .int .i64 p8, .int .i64 p9, .int .i64 p10, .int .i64 p11, .int .i64 p12, .int .i64 p13, .int .i64 p14, .int .i64 p15] 38))) := (Below.refl _ _).alloc (Nat.le_refl _) _
  go_enter Try.func11, Try.ntmps11
  go_wp2
  go_ret
  exact ⟨rfl, HB.out⟩

set_option maxHeartbeats 16000000 in
set_option maxRecDepth 100000 in
theorem advlaw_core (a : Option Addr) (cap n : Nat) (l0 : List Anim) (p0 p1 p2 p3 p4 p5 p6 p7 p8 p9 p10 p11 p12 p13 p14 p15 now : Int) (v3 : Value) (xs : List Int) (w : World) (h0 : IsAnims w (.slice a n cap) l0) (hn : l0.length = n) (h5 : n ≤ 5) (h3 : InInts w v3 xs) :
    Calls Try.prog 11 #[.slice a n cap, .agg #[.int .i64 p0, .int .i64 p1, .int .i64 p2, .int .i64 p3, .int .i64 p4, .int .i64 p5, .int .i64 p6, .int .i64 p7, .int .i64 p8, .int .i64 p9, .int .i64 p10, .int .i64 p11, .int .i64 p12, .int .i64 p13, .int .i64 p14, .int .i64 p15], .int .i64 now, v3] w (True_ w) := by
  obtain ⟨i0, hi0, hz0, hz1, hz2⟩ := info_parts info_anim
  have HV := Lib.hid h0
  have HU := Lib.hid h3
  have HN := Lib.hid hn
  have h5' : (n : Int) ≤ 5 := by omega
  clear h0 h3 hn
  go_enter Try.func11, Try.ntmps11
  go_wp2_with fail
  have HBX : Hid (AnimBlk (w.alloc (.cells #[.int .i64 p0, .int .i64 p1, .int .i64 p2, .int .i64 p3, .int .i64 p4, .int .i64 p5, .int .i64 p6, .int .i64 p7, .int .i64 p8, .int .i64 p9, .int .i64 p10, .int .i64 p11, .int .i64 p12, .int .i64 p13, .int .i64 p14, .int .i64 p15] 38)) w.heap.size 38 [.int .i64 p0, .int .i64 p1, .int .i64 p2, .int .i64 p3, .int .i64 p4, .int .i64 p5, .int .i64 p6, .int .i64 p7, .int .i64 p8, .int .i64 p9, .int .i64 p10, .int .i64 p11, .int .i64 p12, .int .i64 p13, .int .i64 p14, .int .i64 p15]) := animBlk_new w [.int .i64 p0, .int .i64 p1, .int .i64 p2, .int .i64 p3, .int .i64 p4, .int .i64 p5, .int .i64 p6, .int .i64 p7, .int .i64 p8, .int .i64 p9, .int .i64 p10, .int .i64 p11, .int .i64 p12, .int .i64 p13, .int .i64 p14, .int .i64 p15] _ rfl
  have hb0 : Below w.heap.size w (w.alloc (.cells #[.int .i64 p0, .int .i64 p1, .int .i64 p2, .int .i64 p3, .int .i64 p4, .int .i64 p5, .int .i64 p6, .int .i64 p7, .int .i64 p8, .int .i64 p9, .int .i64 p10, .int .i64 p11, .int .i64 p12, .int .i64 p13, .int .i64 p14, .int .i64 p15] 38)) := (Below.refl _ _).alloc (Nat.le_refl _) _
  have HB0 := Lib.hid hb0
  have HU2 : Hid (InInts (w.alloc (.cells #[.int .i64 p0, .int .i64 p1, .int .i64 p2, .int .i64 p3, .int .i64 p4, .int .i64 p5, .int .i64 p6, .int .i64 p7, .int .i64 p8, .int .i64 p9, .int .i64 p10, .int .i64 p11, .int .i64 p12, .int .i64 p13, .int .i64 p14, .int .i64 p15] 38)) v3 xs) := ⟨HU.out.1.of_below hb0, HU.out.2⟩
  clear hb0
  refine (srcNew_any _ xs _ HU2.out).mono ?_
  rintro e w1 ⟨g, rfl, hs, hg0, hg1, hb⟩
  have HGL : Hid (w.heap.size < g) := by have := hg0; simp at this; show _ < _; omega
  have HS1 := Lib.hid hs
  have HB1 : Hid (Below w.heap.size w w1) := HB0.out.trans (hb.mono (by simp))
  have HBX1 : Hid (AnimBlk w1 w.heap.size 38 [.int .i64 p0, .int .i64 p1, .int .i64 p2, .int .i64 p3, .int .i64 p4, .int .i64 p5, .int .i64 p6, .int .i64 p7, .int .i64 p8, .int .i64 p9, .int .i64 p10, .int .i64 p11, .int .i64 p12, .int .i64 p13, .int .i64 p14, .int .i64 p15]) := HBX.out.kept hb (by simp)
  obtain ⟨B, hB⟩ : ∃ B, w.heap.size = B := ⟨_, rfl⟩
  have HBE := Lib.hid hB
  have HNE : Hid (¬ B = g) := by have h := HGL.out; rw [hB] at h; show ¬ _; omega
  rw [hB] at HBX1 HGL
  rw [hB]
  clear hs hg0 hg1 hb HBX HB0 HU2 HU hB
  go_wp2_with fail
  obtain ⟨L, hL⟩ : ∃ L, w1.heap.size = L := ⟨_, rfl⟩
  have HGLL : Hid (g < L) := by show _ < _; rw [← hL]; exact HS1.out.lt
  have hbl : Below L w1 (w1.alloc (.cells #[.slice a n cap, .slice none 0 0, .slice none 0 0] 40)) := by rw [← hL]; exact (Below.refl _ _).alloc (Nat.le_refl _) _
  have HHA : Hid (Holds3 (w1.alloc (.cells #[.slice a n cap, .slice none 0 0, .slice none 0 0] 40)) L (.slice a n cap) (.slice none 0 0) (.slice none 0 0)) := by show Holds3 _ _ _ _ _; rw [← hL]; exact heap_alloc_new w1 _
  have HSA : Hid (SrcOk (w1.alloc (.cells #[.slice a n cap, .slice none 0 0, .slice none 0 0] 40)) g) := HS1.out.kept (hbl.mono (by have := HGLL.out; omega))
  have HBA : Hid (Below w.heap.size w (w1.alloc (.cells #[.slice a n cap, .slice none 0 0, .slice none 0 0] 40))) := HB1.out.trans (hbl.mono (by rw [← hL]; exact HB1.out.size))
  have HXA : Hid (AnimBlk (w1.alloc (.cells #[.slice a n cap, .slice none 0 0, .slice none 0 0] 40)) B 38 [.int .i64 p0, .int .i64 p1, .int .i64 p2, .int .i64 p3, .int .i64 p4, .int .i64 p5, .int .i64 p6, .int .i64 p7, .int .i64 p8, .int .i64 p9, .int .i64 p10, .int .i64 p11, .int .i64 p12, .int .i64 p13, .int .i64 p14, .int .i64 p15]) := HBX1.out.kept hbl (by have := HGL.out; have := HGLL.out; omega)
  rw [hL]
  obtain ⟨wA, hWA⟩ : ∃ W, w1.alloc (.cells #[.slice a n cap, .slice none 0 0, .slice none 0 0] 40) = W := ⟨_, rfl⟩
  rw [hWA] at HHA HSA HBA HXA ⊢
  clear hbl hL hWA HS1 HB1 HBX1
  go_loopw [11] (fun kk wr => ∃ (k : Nat) (u1 u2 : Value) (l1 l2 : List Anim), 1 ≤ k ∧ k ≤ 3 ∧ kk = .int .i64 k ∧ (k = 1 → u1 = .slice none 0 0) ∧ (k ≤ 2 → u2 = .slice none 0 0) ∧ Holds3 wr L (.slice a n cap) u1 u2 ∧ IsAnims wr u1 l1 ∧ IsAnims wr u2 l2 ∧ highV (L + 1) u1 ∧ highV (L + 1) u2 ∧ l1.length ≤ 3 ∧ l2.length ≤ 3 ∧ SrcOk wr g ∧ AnimBlk wr B 38 [.int .i64 p0, .int .i64 p1, .int .i64 p2, .int .i64 p3, .int .i64 p4, .int .i64 p5, .int .i64 p6, .int .i64 p7, .int .i64 p8, .int .i64 p9, .int .i64 p10, .int .i64 p11, .int .i64 p12, .int .i64 p13, .int .i64 p14, .int .i64 p15] ∧ Below w.heap.size w wr) (fun kk _ => 3 - (intOf kk).toNat)
  case atStart => exact ⟨1, _, _, [], [], by omega, by omega, rfl, fun _ => rfl, fun _ => rfl, HHA.out, IsRecs.nil 16 _, IsRecs.nil 16 _, highV.nil _ _ _, highV.nil _ _ _, by simp, by simp, HSA.out, HXA.out, HBA.out⟩
  case round =>
    obtain ⟨k, u1, u2, l1, l2, hk1, hk3, rfl, hu1, hu2, hho, hi1, hi2, hh1, hh2, hl1, hl2, hs, hx, hb⟩ := hrel
    clear HHA HSA HBA HXA
    have HHR := Lib.hid hho
    have HI1 := Lib.hid hi1
    have HI2 := Lib.hid hi2
    have HH1 := Lib.hid hh1
    have HH2 := Lib.hid hh2
    have HSR := Lib.hid hs
    have HXR := Lib.hid hx
    have HBR := Lib.hid hb
    have HL1 := Lib.hid hl1
    have HL2 := Lib.hid hl2
    have HU1 := Lib.hid hu1
    have HU2 := Lib.hid hu2
    clear hho hi1 hi2 hh1 hh2 hs hx hb hl1 hl2 hu1 hu2
    by_cases hk1' : k = 1
    · subst hk1'
      obtain rfl := HU1.out rfl
      obtain rfl := HU2.out (by omega)
      go_wp2_with fail
      refine (srcN_any g _ _ HSR.out (by omega) (by omega)).mono ?_
      rintro e w2 ⟨z, z0, z1, rfl, hs2, hg2⟩
      have HSW := Lib.hid hs2
      have HHW := Lib.hid (HHR.out.grown hg2 (fun e => by have := Option.some.inj e; have := HGLL.out; omega))
      have HBW : Hid (Below w.heap.size w w2) := HBR.out.trans (grownBy_below hg2 (by have := HGL.out; have := HBE.out; omega) HSR.out.lt)
      have HXW : Hid (AnimBlk w2 B 38 [.int .i64 p0, .int .i64 p1, .int .i64 p2, .int .i64 p3, .int .i64 p4, .int .i64 p5, .int .i64 p6, .int .i64 p7, .int .i64 p8, .int .i64 p9, .int .i64 p10, .int .i64 p11, .int .i64 p12, .int .i64 p13, .int .i64 p14, .int .i64 p15]) := ⟨rfl, (hg2.block B HXR.out.lt (by simpa using HNE.out)).trans HXR.out.2⟩
      clear hs2 hg2 HHR HSR HXR HBR
      go_wp2_with fail
      obtain ⟨H, hH⟩ : ∃ H, w2.heap.size = H := ⟨_, rfl⟩
      have HLH : Hid (L < H) := by show _ < _; rw [← hH]; exact HHW.out.lt
      have HR0 : Hid (Rnd g L H w2 (.slice a n cap) (.slice none 0 0) (.slice none 0 0) (.slice none 0 0) [] w2) := ⟨HSW.out, HHW.out, World.ownsRow_nil _ _ _ _, Turns.refl _ _ _, HGLL.out, HLH.out, hH⟩
      have HHE := Lib.hid hH
      clear hH
      go_loopw [12] (fun i wr => ∃ (j : Nat) (u : Value) (l : List Anim), j + l.length ≤ 3 ∧ i = .int .i64 j ∧ Rnd g L H w2 (.slice a n cap) u (.slice none 0 0) u l wr) (fun i _ => (intOf i).toNat)
      case atStart =>
        refine ⟨z.toNat, .slice none 0 0, [], by simpa using (by omega : z.toNat ≤ 3), ?_, HR0.out⟩
        all_goals (try rw [Int.toNat_of_nonneg z0])
      case round =>
        obtain ⟨j, u, l, hj, rfl, hr⟩ := hrel
        have HR := Lib.hid hr
        obtain ⟨Wp, rfl⟩ : ∃ x : World, x = w2 := ⟨_, rfl⟩
        obtain ⟨m, hm⟩ : ∃ m, l.length = m := ⟨_, rfl⟩
        have HM := Lib.hid hm
        rw [hm] at hj
        clear hr hm HR0
        by_cases hjp : 0 < j
        ·
          as_aux_lemma =>
            have hjp' : (0 : Int) < (j : Int) := by omega
            have cL := HR.out.ho.cell1
            have hLg : ¬ L = g := by have := HGLL.out; omega
            go_upto_region 11 with fail
            refine wp_region_T (S := (fun w' => w'.cell? ⟨L, 1, none⟩ = some u ∧ SrcOk w' g ∧ w'.frozen? ⟨L, 1, none⟩ = false)) 11 (by kernel_rfl) (⟨cL, HR.out.src, HR.out.ho.free 1⟩) (fun hHeld => ?_)
            have HRk := Lib.hid HR.out.drew
            obtain ⟨w0, hw0⟩ : ∃ x, wr.drew = x := ⟨_, rfl⟩
            rw [hw0] at HRk hHeld ⊢
            clear hw0 cL
            refine wpAnyT_take (i := 0) (v := ?_) rfl (by decide +kernel) (by decide +kernel) (by decide +kernel) (by decide +kernel) (by decide +kernel) (fun _ _ _ h => h) (Or.inl ⟨by rfl, ?_⟩) (by assumption) ?_
            rotate_left
            · intro w hSw; (try dsimp only at hSw); first | (go_simp; done) | (go_simp; with_reducible rfl)
            try simp only [Act.put, List.getElem_toArray, List.getElem_cons_succ, List.getElem_cons_zero, List.setIfInBounds_toArray, List.set_cons_zero, List.set_cons_succ]
            refine wpAnyT_take (i := 1) (v := ?_) rfl (by decide +kernel) (by decide +kernel) (by decide +kernel) (by decide +kernel) (by decide +kernel) (fun _ _ _ h => h) (Or.inl ⟨by rfl, ?_⟩) (by assumption) ?_
            rotate_left
            · intro w hSw; (try dsimp only at hSw); first | (go_simp; done) | (go_simp; with_reducible rfl)
            try simp only [Act.put, List.getElem_toArray, List.getElem_cons_succ, List.getElem_cons_zero, List.setIfInBounds_toArray, List.set_cons_zero, List.set_cons_succ]
            refine wpAnyT_take (i := 2) (v := ?_) rfl (by decide +kernel) (by decide +kernel) (by decide +kernel) (by decide +kernel) (by decide +kernel) (fun _ _ _ h => h) (Or.inl ⟨by rfl, ?_⟩) (by assumption) ?_
            rotate_left
            · intro w hSw; (try dsimp only at hSw); first | (go_simp; done) | (go_simp; with_reducible rfl)
            try simp only [Act.put, List.getElem_toArray, List.getElem_cons_succ, List.getElem_cons_zero, List.setIfInBounds_toArray, List.set_cons_zero, List.set_cons_succ]
            refine wpAnyT_take (i := 3) (v := ?_) rfl (by decide +kernel) (by decide +kernel) (by decide +kernel) (by decide +kernel) (by decide +kernel) (fun _ _ _ h => h) (Or.inl ⟨by rfl, ?_⟩) (by assumption) ?_
            rotate_left
            · intro w hSw; (try dsimp only at hSw); first | (go_simp; done) | (go_simp; with_reducible rfl)
            try simp only [Act.put, List.getElem_toArray, List.getElem_cons_succ, List.getElem_cons_zero, List.setIfInBounds_toArray, List.set_cons_zero, List.set_cons_succ]
            refine wpAnyT_take (i := 4) (v := ?_) rfl (by decide +kernel) (by decide +kernel) (by decide +kernel) (by decide +kernel) (by decide +kernel) (fun _ _ _ h => h) (Or.inl ⟨by rfl, ?_⟩) (by assumption) ?_
            rotate_left
            · intro w hSw; (try dsimp only at hSw); first | (go_simp; done) | (go_simp; with_reducible rfl)
            try simp only [Act.put, List.getElem_toArray, List.getElem_cons_succ, List.getElem_cons_zero, List.setIfInBounds_toArray, List.set_cons_zero, List.set_cons_succ]
            refine wpAnyT_take (i := 5) (v := ?_) rfl (by decide +kernel) (by decide +kernel) (by decide +kernel) (by decide +kernel) (by decide +kernel) (fun _ _ _ h => h) (Or.inl ⟨by rfl, ?_⟩) (by assumption) ?_
            rotate_left
            · intro w hSw; (try dsimp only at hSw); first | (go_simp; done) | (go_simp; with_reducible rfl)
            try simp only [Act.put, List.getElem_toArray, List.getElem_cons_succ, List.getElem_cons_zero, List.setIfInBounds_toArray, List.set_cons_zero, List.set_cons_succ]
            refine wpAnyT_take (i := 6) (v := ?_) rfl (by decide +kernel) (by decide +kernel) (by decide +kernel) (by decide +kernel) (by decide +kernel) (fun _ _ _ h => h) (Or.inl ⟨by rfl, ?_⟩) (by assumption) ?_
            rotate_left
            · intro w hSw; (try dsimp only at hSw); first | (go_simp; done) | (go_simp; with_reducible rfl)
            try simp only [Act.put, List.getElem_toArray, List.getElem_cons_succ, List.getElem_cons_zero, List.setIfInBounds_toArray, List.set_cons_zero, List.set_cons_succ]
            refine wpAnyT_one (i := 7) (by kernel_rfl) rfl (fun K hK => ?_)
            go_simp
            (refine (src_anim g _ HRk.out.src).mono ?_; rintro e w3 ⟨x0, x1, x2, x3, x4, x5, x6, x7, x8, x9, x10, x11, x12, x13, x14, x15, rfl, hs3, hg3⟩; have HR3 := Lib.hid (HRk.out.grown hg3 hs3))
            refine hK.out _ _ ?_ (fun hHeld2 => ?_)
            · (try dsimp only); exact ⟨HR3.out.ho.cell1, HR3.out.src, HR3.out.ho.free 1⟩
            clear hK K hHeld
            have hHeld := hHeld2
            clear hHeld2
            try simp only [Act.put, List.getElem_toArray, List.getElem_cons_succ, List.getElem_cons_zero, List.setIfInBounds_toArray, List.set_cons_zero, List.set_cons_succ]
            clear hs3 hg3 HRk
            refine wpAnyT_one (i := 8) (by kernel_rfl) rfl (fun K hK => ?_)
            (refine step_lit1A ?_)
            refine hK.out _ _ ?_ (fun hHeld2 => ?_)
            · (try dsimp only); exact ⟨(HR3.out.alloc _).ho.cell1, (HR3.out.alloc _).src, (HR3.out.alloc _).ho.free 1⟩
            clear hK K hHeld
            have hHeld := hHeld2
            clear hHeld2
            try simp only [Act.put, List.getElem_toArray, List.getElem_cons_succ, List.getElem_cons_zero, List.setIfInBounds_toArray, List.set_cons_zero, List.set_cons_succ]
            refine wpAnyT_one (i := 9) (by kernel_rfl) rfl (fun K hK => ?_)
            (refine step_append_lies _ (by rfl) _ _ _ (by rfl) H 38 i0 _ 16 128 Try.underlying40 hi0 hz0 hz1 hz2 rfl (by omega) u m (recCells (l.map recA)) (by rfl) (by have := (HR3.out.alloc (.cells #[.int .i64 x0, .int .i64 x1, .int .i64 x2, .int .i64 x3, .int .i64 x4, .int .i64 x5, .int .i64 x6, .int .i64 x7, .int .i64 x8, .int .i64 x9, .int .i64 x10, .int .i64 x11, .int .i64 x12, .int .i64 x13, .int .i64 x14, .int .i64 x15] 38)).own; rwa [HM.out] at this) ⟨w3.heap.size, 0, none⟩ 1 1 [.int .i64 x0, .int .i64 x1, .int .i64 x2, .int .i64 x3, .int .i64 x4, .int .i64 x5, .int .i64 x6, .int .i64 x7, .int .i64 x8, .int .i64 x9, .int .i64 x10, .int .i64 x11, .int .i64 x12, .int .i64 x13, .int .i64 x14, .int .i64 x15] (by rfl) (by rfl) (World.news_of_block (cs := #[.int .i64 x0, .int .i64 x1, .int .i64 x2, .int .i64 x3, .int .i64 x4, .int .i64 x5, .int .i64 x6, .int .i64 x7, .int .i64 x8, .int .i64 x9, .int .i64 x10, .int .i64 x11, .int .i64 x12, .int .i64 x13, .int .i64 x14, .int .i64 x15]) (t := 38) (fr := (0, 0)) (heap_alloc_new w3 _)) (by simp [Value.oneCell']) (by omega) (by unfold maxLen; omega) (by omega) (by have := HR3.out.size; simp; omega) (w3.heap.size + 1) (by simp) ?_; intro gg cap' w4 hown4 hgrow4 hat4 hlt4; have HR4 : Hid (Rnd g L H Wp (.slice a n cap) u (.slice none 0 0) (.slice (some ⟨gg, 0, none⟩) (m + 1) cap') (l ++ [(⟨x0, x1, x2, x3, x4, x5, x6, x7, x8, x9, x10, x11, x12, x13, x14, x15⟩ : Anim)]) w4) := (HR3.out.alloc _).app hgrow4 (by rw [List.map_append, recCells_append, List.length_append, HM.out]; exact hown4))
            refine hK.out _ _ ?_ (fun hHeld2 => ?_)
            · (try dsimp only); exact ⟨HR4.out.ho.cell1, HR4.out.src, HR4.out.ho.free 1⟩
            clear hK K hHeld
            have hHeld := hHeld2
            clear hHeld2
            try simp only [Act.put, List.getElem_toArray, List.getElem_cons_succ, List.getElem_cons_zero, List.setIfInBounds_toArray, List.set_cons_zero, List.set_cons_succ]
            clear hown4 hgrow4 hat4 hlt4 HR3
            refine wpAnyT_take (i := 10) (v := ?_) rfl (by decide +kernel) (by decide +kernel) (by decide +kernel) (by decide +kernel) (by decide +kernel) (fun _ _ _ h => h) (Or.inl ⟨by rfl, ?_⟩) (by assumption) ?_
            rotate_left
            · intro w hSw; (try dsimp only at hSw); first | (go_simp; done) | (go_simp; with_reducible rfl)
            try simp only [Act.put, List.getElem_toArray, List.getElem_cons_succ, List.getElem_cons_zero, List.setIfInBounds_toArray, List.set_cons_zero, List.set_cons_succ]
            have fL4 := HR4.out.ho.free 1
            refine wpAnyT_last (i := 11) (by kernel_rfl) (by kernel_rfl) rfl (by kernel_rfl) (fun K hK => ?_)
            go_simp
            refine hK.out _ _ ?_
            clear hK K
            try simp only [Act.put, List.getElem_toArray, List.getElem_cons_succ, List.getElem_cons_zero, List.setIfInBounds_toArray, List.set_cons_zero, List.set_cons_succ]
            clear hHeld fL4
            go_wp2
            go_roundw
            case rel => exact ⟨j - 1, _, _, by rw [List.length_append, HM.out]; simp; omega, by congr 1; omega, HR4.out.set 1 _ _ _ _ (HR4.out.ho.set1 _)⟩
            case measure => simp [intOf]; omega
        · obtain rfl : j = 0 := by omega
          have HIU : Hid (IsAnims wr u l) := ownsRow_isRecs HR.out.own (by simp) (recA_wide l)
          have HHU : Hid (highV (L + 1) u) := (own_high HR.out.own).mono (by have := HLH.out; omega)
          have HXF : Hid (AnimBlk wr B 38 [.int .i64 p0, .int .i64 p1, .int .i64 p2, .int .i64 p3, .int .i64 p4, .int .i64 p5, .int .i64 p6, .int .i64 p7, .int .i64 p8, .int .i64 p9, .int .i64 p10, .int .i64 p11, .int .i64 p12, .int .i64 p13, .int .i64 p14, .int .i64 p15]) := ⟨rfl, (HR.out.turn.block B HXW.out.lt (by have := HNE.out; omega) (by have := HGL.out; have := HGLL.out; omega)).trans HXW.out.2⟩
          have HBF : Hid (Below w.heap.size w wr) := HBW.out.trans (HR.out.turn.below (by have := HGL.out; have := HBE.out; omega) (by have := HGL.out; have := HGLL.out; have := HBE.out; omega) HBW.out.size)
          go_wp2
          go_roundw
          case rel => exact ⟨2, u, .slice none 0 0, l, [], by omega, by omega, by go_num, fun h => absurd h (by omega), fun _ => rfl, HR.out.ho, HIU.out, IsRecs.nil 16 _, HHU.out, highV.nil _ _ _, by rw [HM.out]; omega, by simp, HR.out.src, HXF.out, HBF.out⟩
          case measure => simp [intOf]

    · by_cases hk2 : k = 2
      · subst hk2
        obtain rfl := HU2.out (by omega)
        go_wp2_with fail
        refine (srcN_any g _ _ HSR.out (by omega) (by omega)).mono ?_
        rintro e w2 ⟨z, z0, z1, rfl, hs2, hg2⟩
        have HSW := Lib.hid hs2
        have HHW := Lib.hid (HHR.out.grown hg2 (fun e => by have := Option.some.inj e; have := HGLL.out; omega))
        have HBW : Hid (Below w.heap.size w w2) := HBR.out.trans (grownBy_below hg2 (by have := HGL.out; have := HBE.out; omega) HSR.out.lt)
        have HXW : Hid (AnimBlk w2 B 38 [.int .i64 p0, .int .i64 p1, .int .i64 p2, .int .i64 p3, .int .i64 p4, .int .i64 p5, .int .i64 p6, .int .i64 p7, .int .i64 p8, .int .i64 p9, .int .i64 p10, .int .i64 p11, .int .i64 p12, .int .i64 p13, .int .i64 p14, .int .i64 p15]) := ⟨rfl, (hg2.block B HXR.out.lt (by simpa using HNE.out)).trans HXR.out.2⟩
        have HI1W : Hid (IsAnims w2 u1 l1) := HI1.out.turns ((Turns.refl g L _).grown hg2 (fun q e => .inl (Option.some.inj e).symm)) (HH1.out.mono (by have := HGLL.out; omega))
        clear hs2 hg2 HHR HSR HXR HBR
        go_wp2_with fail
        obtain ⟨H, hH⟩ : ∃ H, w2.heap.size = H := ⟨_, rfl⟩
        have HLH : Hid (L < H) := by show _ < _; rw [← hH]; exact HHW.out.lt
        have HR0 : Hid (Rnd g L H w2 (.slice a n cap) u1 (.slice none 0 0) (.slice none 0 0) [] w2) := ⟨HSW.out, HHW.out, World.ownsRow_nil _ _ _ _, Turns.refl _ _ _, HGLL.out, HLH.out, hH⟩
        have HHE := Lib.hid hH
        clear hH
        go_loopw [12] (fun i wr => ∃ (j : Nat) (u : Value) (l : List Anim), j + l.length ≤ 3 ∧ i = .int .i64 j ∧ Rnd g L H w2 (.slice a n cap) u1 u u l wr) (fun i _ => (intOf i).toNat)
        case atStart =>
          refine ⟨z.toNat, .slice none 0 0, [], by simpa using (by omega : z.toNat ≤ 3), ?_, HR0.out⟩
          all_goals (try rw [Int.toNat_of_nonneg z0])
        case round =>
          obtain ⟨j, u, l, hj, rfl, hr⟩ := hrel
          have HR := Lib.hid hr
          obtain ⟨Wp, rfl⟩ : ∃ x : World, x = w2 := ⟨_, rfl⟩
          obtain ⟨m, hm⟩ : ∃ m, l.length = m := ⟨_, rfl⟩
          have HM := Lib.hid hm
          rw [hm] at hj
          clear hr hm HR0
          by_cases hjp : 0 < j
          ·
            as_aux_lemma =>
              have hjp' : (0 : Int) < (j : Int) := by omega
              have cL := HR.out.ho.cell2
              have hLg : ¬ L = g := by have := HGLL.out; omega
              go_upto_region 11 with fail
              refine wp_region_T (S := (fun w' => w'.cell? ⟨L, 2, none⟩ = some u ∧ SrcOk w' g ∧ w'.frozen? ⟨L, 2, none⟩ = false)) 11 (by kernel_rfl) (⟨cL, HR.out.src, HR.out.ho.free 2⟩) (fun hHeld => ?_)
              have HRk := Lib.hid HR.out.drew
              obtain ⟨w0, hw0⟩ : ∃ x, wr.drew = x := ⟨_, rfl⟩
              rw [hw0] at HRk hHeld ⊢
              clear hw0 cL
              refine wpAnyT_take (i := 0) (v := ?_) rfl (by decide +kernel) (by decide +kernel) (by decide +kernel) (by decide +kernel) (by decide +kernel) (fun _ _ _ h => h) (Or.inl ⟨by rfl, ?_⟩) (by assumption) ?_
              rotate_left
              · intro w hSw; (try dsimp only at hSw); first | (go_simp; done) | (go_simp; with_reducible rfl)
              try simp only [Act.put, List.getElem_toArray, List.getElem_cons_succ, List.getElem_cons_zero, List.setIfInBounds_toArray, List.set_cons_zero, List.set_cons_succ]
              refine wpAnyT_take (i := 1) (v := ?_) rfl (by decide +kernel) (by decide +kernel) (by decide +kernel) (by decide +kernel) (by decide +kernel) (fun _ _ _ h => h) (Or.inl ⟨by rfl, ?_⟩) (by assumption) ?_
              rotate_left
              · intro w hSw; (try dsimp only at hSw); first | (go_simp; done) | (go_simp; with_reducible rfl)
              try simp only [Act.put, List.getElem_toArray, List.getElem_cons_succ, List.getElem_cons_zero, List.setIfInBounds_toArray, List.set_cons_zero, List.set_cons_succ]
              refine wpAnyT_take (i := 2) (v := ?_) rfl (by decide +kernel) (by decide +kernel) (by decide +kernel) (by decide +kernel) (by decide +kernel) (fun _ _ _ h => h) (Or.inl ⟨by rfl, ?_⟩) (by assumption) ?_
              rotate_left
              · intro w hSw; (try dsimp only at hSw); first | (go_simp; done) | (go_simp; with_reducible rfl)
              try simp only [Act.put, List.getElem_toArray, List.getElem_cons_succ, List.getElem_cons_zero, List.setIfInBounds_toArray, List.set_cons_zero, List.set_cons_succ]
              refine wpAnyT_take (i := 3) (v := ?_) rfl (by decide +kernel) (by decide +kernel) (by decide +kernel) (by decide +kernel) (by decide +kernel) (fun _ _ _ h => h) (Or.inl ⟨by rfl, ?_⟩) (by assumption) ?_
              rotate_left
              · intro w hSw; (try dsimp only at hSw); first | (go_simp; done) | (go_simp; with_reducible rfl)
              try simp only [Act.put, List.getElem_toArray, List.getElem_cons_succ, List.getElem_cons_zero, List.setIfInBounds_toArray, List.set_cons_zero, List.set_cons_succ]
              refine wpAnyT_take (i := 4) (v := ?_) rfl (by decide +kernel) (by decide +kernel) (by decide +kernel) (by decide +kernel) (by decide +kernel) (fun _ _ _ h => h) (Or.inl ⟨by rfl, ?_⟩) (by assumption) ?_
              rotate_left
              · intro w hSw; (try dsimp only at hSw); first | (go_simp; done) | (go_simp; with_reducible rfl)
              try simp only [Act.put, List.getElem_toArray, List.getElem_cons_succ, List.getElem_cons_zero, List.setIfInBounds_toArray, List.set_cons_zero, List.set_cons_succ]
              refine wpAnyT_take (i := 5) (v := ?_) rfl (by decide +kernel) (by decide +kernel) (by decide +kernel) (by decide +kernel) (by decide +kernel) (fun _ _ _ h => h) (Or.inl ⟨by rfl, ?_⟩) (by assumption) ?_
              rotate_left
              · intro w hSw; (try dsimp only at hSw); first | (go_simp; done) | (go_simp; with_reducible rfl)
              try simp only [Act.put, List.getElem_toArray, List.getElem_cons_succ, List.getElem_cons_zero, List.setIfInBounds_toArray, List.set_cons_zero, List.set_cons_succ]
              refine wpAnyT_take (i := 6) (v := ?_) rfl (by decide +kernel) (by decide +kernel) (by decide +kernel) (by decide +kernel) (by decide +kernel) (fun _ _ _ h => h) (Or.inl ⟨by rfl, ?_⟩) (by assumption) ?_
              rotate_left
              · intro w hSw; (try dsimp only at hSw); first | (go_simp; done) | (go_simp; with_reducible rfl)
              try simp only [Act.put, List.getElem_toArray, List.getElem_cons_succ, List.getElem_cons_zero, List.setIfInBounds_toArray, List.set_cons_zero, List.set_cons_succ]
              refine wpAnyT_one (i := 7) (by kernel_rfl) rfl (fun K hK => ?_)
              go_simp
              (refine (src_anim g _ HRk.out.src).mono ?_; rintro e w3 ⟨x0, x1, x2, x3, x4, x5, x6, x7, x8, x9, x10, x11, x12, x13, x14, x15, rfl, hs3, hg3⟩; have HR3 := Lib.hid (HRk.out.grown hg3 hs3))
              refine hK.out _ _ ?_ (fun hHeld2 => ?_)
              · (try dsimp only); exact ⟨HR3.out.ho.cell2, HR3.out.src, HR3.out.ho.free 2⟩
              clear hK K hHeld
              have hHeld := hHeld2
              clear hHeld2
              try simp only [Act.put, List.getElem_toArray, List.getElem_cons_succ, List.getElem_cons_zero, List.setIfInBounds_toArray, List.set_cons_zero, List.set_cons_succ]
              clear hs3 hg3 HRk
              refine wpAnyT_one (i := 8) (by kernel_rfl) rfl (fun K hK => ?_)
              (refine step_lit1A ?_)
              refine hK.out _ _ ?_ (fun hHeld2 => ?_)
              · (try dsimp only); exact ⟨(HR3.out.alloc _).ho.cell2, (HR3.out.alloc _).src, (HR3.out.alloc _).ho.free 2⟩
              clear hK K hHeld
              have hHeld := hHeld2
              clear hHeld2
              try simp only [Act.put, List.getElem_toArray, List.getElem_cons_succ, List.getElem_cons_zero, List.setIfInBounds_toArray, List.set_cons_zero, List.set_cons_succ]
              refine wpAnyT_one (i := 9) (by kernel_rfl) rfl (fun K hK => ?_)
              (refine step_append_lies _ (by rfl) _ _ _ (by rfl) H 38 i0 _ 16 128 Try.underlying40 hi0 hz0 hz1 hz2 rfl (by omega) u m (recCells (l.map recA)) (by rfl) (by have := (HR3.out.alloc (.cells #[.int .i64 x0, .int .i64 x1, .int .i64 x2, .int .i64 x3, .int .i64 x4, .int .i64 x5, .int .i64 x6, .int .i64 x7, .int .i64 x8, .int .i64 x9, .int .i64 x10, .int .i64 x11, .int .i64 x12, .int .i64 x13, .int .i64 x14, .int .i64 x15] 38)).own; rwa [HM.out] at this) ⟨w3.heap.size, 0, none⟩ 1 1 [.int .i64 x0, .int .i64 x1, .int .i64 x2, .int .i64 x3, .int .i64 x4, .int .i64 x5, .int .i64 x6, .int .i64 x7, .int .i64 x8, .int .i64 x9, .int .i64 x10, .int .i64 x11, .int .i64 x12, .int .i64 x13, .int .i64 x14, .int .i64 x15] (by rfl) (by rfl) (World.news_of_block (cs := #[.int .i64 x0, .int .i64 x1, .int .i64 x2, .int .i64 x3, .int .i64 x4, .int .i64 x5, .int .i64 x6, .int .i64 x7, .int .i64 x8, .int .i64 x9, .int .i64 x10, .int .i64 x11, .int .i64 x12, .int .i64 x13, .int .i64 x14, .int .i64 x15]) (t := 38) (fr := (0, 0)) (heap_alloc_new w3 _)) (by simp [Value.oneCell']) (by omega) (by unfold maxLen; omega) (by omega) (by have := HR3.out.size; simp; omega) (w3.heap.size + 1) (by simp) ?_; intro gg cap' w4 hown4 hgrow4 hat4 hlt4; have HR4 : Hid (Rnd g L H Wp (.slice a n cap) u1 u (.slice (some ⟨gg, 0, none⟩) (m + 1) cap') (l ++ [(⟨x0, x1, x2, x3, x4, x5, x6, x7, x8, x9, x10, x11, x12, x13, x14, x15⟩ : Anim)]) w4) := (HR3.out.alloc _).app hgrow4 (by rw [List.map_append, recCells_append, List.length_append, HM.out]; exact hown4))
              refine hK.out _ _ ?_ (fun hHeld2 => ?_)
              · (try dsimp only); exact ⟨HR4.out.ho.cell2, HR4.out.src, HR4.out.ho.free 2⟩
              clear hK K hHeld
              have hHeld := hHeld2
              clear hHeld2
              try simp only [Act.put, List.getElem_toArray, List.getElem_cons_succ, List.getElem_cons_zero, List.setIfInBounds_toArray, List.set_cons_zero, List.set_cons_succ]
              clear hown4 hgrow4 hat4 hlt4 HR3
              refine wpAnyT_take (i := 10) (v := ?_) rfl (by decide +kernel) (by decide +kernel) (by decide +kernel) (by decide +kernel) (by decide +kernel) (fun _ _ _ h => h) (Or.inl ⟨by rfl, ?_⟩) (by assumption) ?_
              rotate_left
              · intro w hSw; (try dsimp only at hSw); first | (go_simp; done) | (go_simp; with_reducible rfl)
              try simp only [Act.put, List.getElem_toArray, List.getElem_cons_succ, List.getElem_cons_zero, List.setIfInBounds_toArray, List.set_cons_zero, List.set_cons_succ]
              have fL4 := HR4.out.ho.free 2
              refine wpAnyT_last (i := 11) (by kernel_rfl) (by kernel_rfl) rfl (by kernel_rfl) (fun K hK => ?_)
              go_simp
              refine hK.out _ _ ?_
              clear hK K
              try simp only [Act.put, List.getElem_toArray, List.getElem_cons_succ, List.getElem_cons_zero, List.setIfInBounds_toArray, List.set_cons_zero, List.set_cons_succ]
              clear hHeld fL4
              go_wp2
              go_roundw
              case rel => exact ⟨j - 1, _, _, by rw [List.length_append, HM.out]; simp; omega, by congr 1; omega, HR4.out.set 2 _ _ _ _ (HR4.out.ho.set2 _)⟩
              case measure => simp [intOf]; omega
          · obtain rfl : j = 0 := by omega
            have HIU : Hid (IsAnims wr u l) := ownsRow_isRecs HR.out.own (by simp) (recA_wide l)
            have HHU : Hid (highV (L + 1) u) := (own_high HR.out.own).mono (by have := HLH.out; omega)
            have HI1F : Hid (IsAnims wr u1 l1) := HI1W.out.turns HR.out.turn (HH1.out.mono (by have := HGLL.out; omega))
            have HXF : Hid (AnimBlk wr B 38 [.int .i64 p0, .int .i64 p1, .int .i64 p2, .int .i64 p3, .int .i64 p4, .int .i64 p5, .int .i64 p6, .int .i64 p7, .int .i64 p8, .int .i64 p9, .int .i64 p10, .int .i64 p11, .int .i64 p12, .int .i64 p13, .int .i64 p14, .int .i64 p15]) := ⟨rfl, (HR.out.turn.block B HXW.out.lt (by have := HNE.out; omega) (by have := HGL.out; have := HGLL.out; omega)).trans HXW.out.2⟩
            have HBF : Hid (Below w.heap.size w wr) := HBW.out.trans (HR.out.turn.below (by have := HGL.out; have := HBE.out; omega) (by have := HGL.out; have := HGLL.out; have := HBE.out; omega) HBW.out.size)
            go_wp2
            go_roundw
            case rel => exact ⟨3, u1, u, l1, l, by omega, by omega, by go_num, fun h => absurd h (by omega), fun h => absurd h (by omega), HR.out.ho, HI1F.out, HIU.out, HH1.out, HHU.out, HL1.out, by rw [HM.out]; omega, HR.out.src, HXF.out, HBF.out⟩
            case measure => simp [intOf]
      · have hnk : ¬ (k : Int) < 3 := by omega
        obtain ⟨kz, rfl⟩ : ∃ kz : Nat, kz = k := ⟨_, rfl⟩
        clear hk1 hk3 hk1' hk2
        have hc16 : ∀ w', wr.grownBy w' (some g) → (w'.cell? ⟨B, 0, none⟩ = some (.int .i64 p0) ∧ w'.cell? ⟨B, 1, none⟩ = some (.int .i64 p1) ∧ w'.cell? ⟨B, 2, none⟩ = some (.int .i64 p2) ∧ w'.cell? ⟨B, 3, none⟩ = some (.int .i64 p3) ∧ w'.cell? ⟨B, 4, none⟩ = some (.int .i64 p4) ∧ w'.cell? ⟨B, 5, none⟩ = some (.int .i64 p5) ∧ w'.cell? ⟨B, 6, none⟩ = some (.int .i64 p6) ∧ w'.cell? ⟨B, 7, none⟩ = some (.int .i64 p7) ∧ w'.cell? ⟨B, 8, none⟩ = some (.int .i64 p8) ∧ w'.cell? ⟨B, 9, none⟩ = some (.int .i64 p9) ∧ w'.cell? ⟨B, 10, none⟩ = some (.int .i64 p10) ∧ w'.cell? ⟨B, 11, none⟩ = some (.int .i64 p11) ∧ w'.cell? ⟨B, 12, none⟩ = some (.int .i64 p12) ∧ w'.cell? ⟨B, 13, none⟩ = some (.int .i64 p13) ∧ w'.cell? ⟨B, 14, none⟩ = some (.int .i64 p14) ∧ w'.cell? ⟨B, 15, none⟩ = some (.int .i64 p15)) := fun w' hg => by
          exact ⟨hg.cell (a := ⟨B, 0, none⟩) ((HXR.out.cell 0).trans rfl) (by simpa using HNE.out), hg.cell (a := ⟨B, 1, none⟩) ((HXR.out.cell 1).trans rfl) (by simpa using HNE.out), hg.cell (a := ⟨B, 2, none⟩) ((HXR.out.cell 2).trans rfl) (by simpa using HNE.out), hg.cell (a := ⟨B, 3, none⟩) ((HXR.out.cell 3).trans rfl) (by simpa using HNE.out), hg.cell (a := ⟨B, 4, none⟩) ((HXR.out.cell 4).trans rfl) (by simpa using HNE.out), hg.cell (a := ⟨B, 5, none⟩) ((HXR.out.cell 5).trans rfl) (by simpa using HNE.out), hg.cell (a := ⟨B, 6, none⟩) ((HXR.out.cell 6).trans rfl) (by simpa using HNE.out), hg.cell (a := ⟨B, 7, none⟩) ((HXR.out.cell 7).trans rfl) (by simpa using HNE.out), hg.cell (a := ⟨B, 8, none⟩) ((HXR.out.cell 8).trans rfl) (by simpa using HNE.out), hg.cell (a := ⟨B, 9, none⟩) ((HXR.out.cell 9).trans rfl) (by simpa using HNE.out), hg.cell (a := ⟨B, 10, none⟩) ((HXR.out.cell 10).trans rfl) (by simpa using HNE.out), hg.cell (a := ⟨B, 11, none⟩) ((HXR.out.cell 11).trans rfl) (by simpa using HNE.out), hg.cell (a := ⟨B, 12, none⟩) ((HXR.out.cell 12).trans rfl) (by simpa using HNE.out), hg.cell (a := ⟨B, 13, none⟩) ((HXR.out.cell 13).trans rfl) (by simpa using HNE.out), hg.cell (a := ⟨B, 14, none⟩) ((HXR.out.cell 14).trans rfl) (by simpa using HNE.out), hg.cell (a := ⟨B, 15, none⟩) ((HXR.out.cell 15).trans rfl) (by simpa using HNE.out)⟩
        have HC16 := Lib.hid hc16
        clear hc16
        go_upto_region 12 with fail
        go_cut [13, 14] (fun nv tv wx => ∃ (NL TL : Nat) (news : List Anim) (ts : List Int), nv = .slice (some ⟨NL, 0, none⟩) 3 3 ∧ tv = .slice (some ⟨TL, 0, none⟩) 3 3 ∧ news.length = 3 ∧ ts.length = 3 ∧ wx.heap[NL]? = some (.cells (recCells (news.map recA)).toArray 38 (0, 0)) ∧ wx.heap[TL]? = some (.cells (ts.map (Value.int .i64)).toArray 3 (0, 0)) ∧ wr.grownBy wx (some g))
        case first =>
          as_aux_lemma =>
            refine wp_region_T (S := (fun w' => (w'.cell? ⟨B, 0, none⟩ = some (.int .i64 p0) ∧ w'.cell? ⟨B, 1, none⟩ = some (.int .i64 p1) ∧ w'.cell? ⟨B, 2, none⟩ = some (.int .i64 p2) ∧ w'.cell? ⟨B, 3, none⟩ = some (.int .i64 p3) ∧ w'.cell? ⟨B, 4, none⟩ = some (.int .i64 p4) ∧ w'.cell? ⟨B, 5, none⟩ = some (.int .i64 p5) ∧ w'.cell? ⟨B, 6, none⟩ = some (.int .i64 p6) ∧ w'.cell? ⟨B, 7, none⟩ = some (.int .i64 p7) ∧ w'.cell? ⟨B, 8, none⟩ = some (.int .i64 p8) ∧ w'.cell? ⟨B, 9, none⟩ = some (.int .i64 p9) ∧ w'.cell? ⟨B, 10, none⟩ = some (.int .i64 p10) ∧ w'.cell? ⟨B, 11, none⟩ = some (.int .i64 p11) ∧ w'.cell? ⟨B, 12, none⟩ = some (.int .i64 p12) ∧ w'.cell? ⟨B, 13, none⟩ = some (.int .i64 p13) ∧ w'.cell? ⟨B, 14, none⟩ = some (.int .i64 p14) ∧ w'.cell? ⟨B, 15, none⟩ = some (.int .i64 p15)) ∧ SrcOk w' g ∧ wr.grownBy w' (some g))) 13 (by kernel_rfl) (⟨HC16.out _ (grownBy_drewN (World.grownBy.refl wr _) 1), HSR.out, grownBy_drewN (World.grownBy.refl wr _) 1⟩) (fun hHeld => ?_)
            refine wpAnyT_take (i := 0) (v := ?_) rfl (by decide +kernel) (by decide +kernel) (by decide +kernel) (by decide +kernel) (by decide +kernel) (fun _ _ _ h => h) (Or.inl ⟨by rfl, ?_⟩) (by assumption) ?_
            rotate_left
            · intro w hSw; (try dsimp only at hSw); first | (go_simp; done) | (go_simp; with_reducible rfl)
            try simp only [Act.put, List.getElem_toArray, List.getElem_cons_succ, List.getElem_cons_zero, List.setIfInBounds_toArray, List.set_cons_zero, List.set_cons_succ]
            refine wpAnyT_take (i := 1) (v := ?_) rfl (by decide +kernel) (by decide +kernel) (by decide +kernel) (by decide +kernel) (by decide +kernel) (fun _ _ _ h => h) (Or.inl ⟨by rfl, ?_⟩) (by assumption) ?_
            rotate_left
            · intro w hSw; (try dsimp only at hSw); first | (go_simp; done) | (go_simp; with_reducible rfl)
            try simp only [Act.put, List.getElem_toArray, List.getElem_cons_succ, List.getElem_cons_zero, List.setIfInBounds_toArray, List.set_cons_zero, List.set_cons_succ]
            refine wpAnyT_take (i := 3) (v := ?_) rfl (by decide +kernel) (by decide +kernel) (by decide +kernel) (by decide +kernel) (by decide +kernel) (fun _ _ _ h => h) (Or.inl ⟨by rfl, ?_⟩) (by assumption) ?_
            rotate_left
            · intro w hSw; (try dsimp only at hSw); first | (go_simp; done) | (go_simp; with_reducible rfl)
            try simp only [Act.put, List.getElem_toArray, List.getElem_cons_succ, List.getElem_cons_zero, List.setIfInBounds_toArray, List.set_cons_zero, List.set_cons_succ]
            refine wpAnyT_take (i := 6) (v := ?_) rfl (by decide +kernel) (by decide +kernel) (by decide +kernel) (by decide +kernel) (by decide +kernel) (fun _ _ _ h => h) (Or.inl ⟨by rfl, ?_⟩) (by assumption) ?_
            rotate_left
            · intro w hSw; (try dsimp only at hSw); first | (go_simp; done) | (go_simp; with_reducible rfl)
            try simp only [Act.put, List.getElem_toArray, List.getElem_cons_succ, List.getElem_cons_zero, List.setIfInBounds_toArray, List.set_cons_zero, List.set_cons_succ]
            refine wpAnyT_take (i := 7) (v := ?_) rfl (by decide +kernel) (by decide +kernel) (by decide +kernel) (by decide +kernel) (by decide +kernel) (fun _ _ _ h => h) (Or.inl ⟨by rfl, ?_⟩) (by assumption) ?_
            rotate_left
            · intro w hSw; (try dsimp only at hSw); first | (go_simp; done) | (go_simp; with_reducible rfl)
            try simp only [Act.put, List.getElem_toArray, List.getElem_cons_succ, List.getElem_cons_zero, List.setIfInBounds_toArray, List.set_cons_zero, List.set_cons_succ]
            refine wpAnyT_take (i := 9) (v := ?_) rfl (by decide +kernel) (by decide +kernel) (by decide +kernel) (by decide +kernel) (by decide +kernel) (fun _ _ _ h => h) (Or.inl ⟨by rfl, ?_⟩) (by assumption) ?_
            rotate_left
            · intro w hSw; (try dsimp only at hSw); first | (go_simp; done) | (go_simp; with_reducible rfl)
            try simp only [Act.put, List.getElem_toArray, List.getElem_cons_succ, List.getElem_cons_zero, List.setIfInBounds_toArray, List.set_cons_zero, List.set_cons_succ]
            refine wpAnyT_one (i := 2) (by kernel_rfl) rfl (fun K hK => ?_)
            go_simp
            (refine (src_anim g _ hHeld.2.1).mono ?_; rintro e w1 ⟨x0, x1, x2, x3, x4, x5, x6, x7, x8, x9, x10, x11, x12, x13, x14, x15, rfl, hs2, hg2⟩)
            refine hK.out _ _ ?_ (fun hHeld2 => ?_)
            · (try dsimp only); exact ⟨HC16.out _ (grownBy_trans hHeld.2.2 hg2), hs2, grownBy_trans hHeld.2.2 hg2⟩
            clear hK K hHeld
            have hHeld := hHeld2
            clear hHeld2
            try simp only [Act.put, List.getElem_toArray, List.getElem_cons_succ, List.getElem_cons_zero, List.setIfInBounds_toArray, List.set_cons_zero, List.set_cons_succ]
            clear hs2 hg2
            refine wpAnyT_one (i := 4) (by kernel_rfl) rfl (fun K hK => ?_)
            go_simp
            (refine (src_anim g _ hHeld.2.1).mono ?_; rintro e w2 ⟨z0, z1, z2, z3, z4, z5, z6, z7, z8, z9, z10, z11, z12, z13, z14, z15, rfl, hs4, hg4⟩)
            refine hK.out _ _ ?_ (fun hHeld2 => ?_)
            · (try dsimp only); exact ⟨HC16.out _ (grownBy_trans hHeld.2.2 hg4), hs4, grownBy_trans hHeld.2.2 hg4⟩
            clear hK K hHeld
            have hHeld := hHeld2
            clear hHeld2
            try simp only [Act.put, List.getElem_toArray, List.getElem_cons_succ, List.getElem_cons_zero, List.setIfInBounds_toArray, List.set_cons_zero, List.set_cons_succ]
            clear hs4 hg4
            have HK := Lib.hid hHeld.2
            refine wpAnyT_two (i := 5) (j := 8) (by kernel_rfl) rfl rfl (fun K hK => ?_) (fun K hK => ?_)
            ·
              (refine step_lit3A ?_)
              refine hK.out _ _ ?_ (fun hHeld2 => ?_)
              · (try dsimp only); exact ⟨HC16.out _ (grownBy_trans HK.out.2 (World.grownBy_alloc _ _ _)), HK.out.1.kept ((Below.refl _ _).alloc (by have := HK.out.1.lt; omega) _), grownBy_trans HK.out.2 (World.grownBy_alloc _ _ _)⟩
              clear hK K hHeld
              have hHeld := hHeld2
              clear hHeld2
              try simp only [Act.put, List.getElem_toArray, List.getElem_cons_succ, List.getElem_cons_zero, List.setIfInBounds_toArray, List.set_cons_zero, List.set_cons_succ]
              have HNB : Hid ((w2.alloc (.cells #[.int .i64 p0, .int .i64 p1, .int .i64 p2, .int .i64 p3, .int .i64 p4, .int .i64 p5, .int .i64 p6, .int .i64 p7, .int .i64 p8, .int .i64 p9, .int .i64 p10, .int .i64 p11, .int .i64 p12, .int .i64 p13, .int .i64 p14, .int .i64 p15, .int .i64 x0, .int .i64 x1, .int .i64 x2, .int .i64 x3, .int .i64 x4, .int .i64 x5, .int .i64 x6, .int .i64 x7, .int .i64 x8, .int .i64 x9, .int .i64 x10, .int .i64 x11, .int .i64 x12, .int .i64 x13, .int .i64 x14, .int .i64 x15, .int .i64 z0, .int .i64 z1, .int .i64 z2, .int .i64 z3, .int .i64 z4, .int .i64 z5, .int .i64 z6, .int .i64 z7, .int .i64 z8, .int .i64 z9, .int .i64 z10, .int .i64 z11, .int .i64 z12, .int .i64 z13, .int .i64 z14, .int .i64 z15] 38)).heap[w2.heap.size]? = some (.cells (recCells ([(⟨p0, p1, p2, p3, p4, p5, p6, p7, p8, p9, p10, p11, p12, p13, p14, p15⟩ : Anim), (⟨x0, x1, x2, x3, x4, x5, x6, x7, x8, x9, x10, x11, x12, x13, x14, x15⟩ : Anim), (⟨z0, z1, z2, z3, z4, z5, z6, z7, z8, z9, z10, z11, z12, z13, z14, z15⟩ : Anim)].map recA)).toArray 38 (0, 0))) := heap_alloc_new w2 _
              have HNG : Hid (g < w2.heap.size) := HK.out.1.lt
              obtain ⟨NL, hNL⟩ : ∃ x, w2.heap.size = x := ⟨_, rfl⟩
              obtain ⟨w3, hw⟩ : ∃ x, w2.alloc (.cells #[.int .i64 p0, .int .i64 p1, .int .i64 p2, .int .i64 p3, .int .i64 p4, .int .i64 p5, .int .i64 p6, .int .i64 p7, .int .i64 p8, .int .i64 p9, .int .i64 p10, .int .i64 p11, .int .i64 p12, .int .i64 p13, .int .i64 p14, .int .i64 p15, .int .i64 x0, .int .i64 x1, .int .i64 x2, .int .i64 x3, .int .i64 x4, .int .i64 x5, .int .i64 x6, .int .i64 x7, .int .i64 x8, .int .i64 x9, .int .i64 x10, .int .i64 x11, .int .i64 x12, .int .i64 x13, .int .i64 x14, .int .i64 x15, .int .i64 z0, .int .i64 z1, .int .i64 z2, .int .i64 z3, .int .i64 z4, .int .i64 z5, .int .i64 z6, .int .i64 z7, .int .i64 z8, .int .i64 z9, .int .i64 z10, .int .i64 z11, .int .i64 z12, .int .i64 z13, .int .i64 z14, .int .i64 z15] 38) = x := ⟨_, rfl⟩
              rw [hw, hNL] at HNB
              rw [hNL] at HNG
              try rw [hNL]
              rw [hw] at hHeld ⊢
              clear hw hNL HK
              refine wpAnyT_one (i := 8) (by kernel_rfl) rfl (fun K hK => ?_)
              go_simp
              (refine (srcN_any g _ _ hHeld.2.1 (by omega) (by omega)).mono ?_; rintro e w4 ⟨y, ya, yb, rfl, hs8, hg8⟩)
              refine hK.out _ _ ?_ (fun hHeld2 => ?_)
              · (try dsimp only); exact ⟨HC16.out _ (grownBy_trans hHeld.2.2 hg8), hs8, grownBy_trans hHeld.2.2 hg8⟩
              clear hK K hHeld
              have hHeld := hHeld2
              clear hHeld2
              try simp only [Act.put, List.getElem_toArray, List.getElem_cons_succ, List.getElem_cons_zero, List.setIfInBounds_toArray, List.set_cons_zero, List.set_cons_succ]
              have HNB := Lib.hid (blk_grown HNB.out hg8 (by have := HNG.out; omega))
              clear hs8 hg8
              refine wpAnyT_one (i := 10) (by kernel_rfl) rfl (fun K hK => ?_)
              go_simp
              (refine (srcN_any g _ _ hHeld.2.1 (by omega) (by omega)).mono ?_; rintro e w5 ⟨z, za, zb, rfl, hs10, hg10⟩)
              refine hK.out _ _ ?_ (fun hHeld2 => ?_)
              · (try dsimp only); exact ⟨HC16.out _ (grownBy_trans hHeld.2.2 hg10), hs10, grownBy_trans hHeld.2.2 hg10⟩
              clear hK K hHeld
              have hHeld := hHeld2
              clear hHeld2
              try simp only [Act.put, List.getElem_toArray, List.getElem_cons_succ, List.getElem_cons_zero, List.setIfInBounds_toArray, List.set_cons_zero, List.set_cons_succ]
              have HNB := Lib.hid (blk_grown HNB.out hg10 (by have := HNG.out; omega))
              clear hs10 hg10
              refine wpAnyT_take (i := 12) (v := ?_) rfl (by decide +kernel) (by decide +kernel) (by decide +kernel) (by decide +kernel) (by decide +kernel) (fun _ _ _ h => h) (Or.inl ⟨by rfl, ?_⟩) (by assumption) ?_
              rotate_left
              · intro w hSw; (try dsimp only at hSw); first | (go_simp; done) | (go_simp; with_reducible rfl)
              try simp only [Act.put, List.getElem_toArray, List.getElem_cons_succ, List.getElem_cons_zero, List.setIfInBounds_toArray, List.set_cons_zero, List.set_cons_succ]
              have HK := Lib.hid hHeld.2
              refine wpAnyT_one (i := 11) (by kernel_rfl) rfl (fun K hK => ?_)
              go_simp
              refine hK.out _ _ ?_ (fun hHeld2 => ?_)
              · (try dsimp only); exact ⟨HC16.out _ (grownBy_trans HK.out.2 (World.grownBy_alloc _ _ _)), HK.out.1.kept ((Below.refl _ _).alloc (by have := HK.out.1.lt; omega) _), grownBy_trans HK.out.2 (World.grownBy_alloc _ _ _)⟩
              clear hK K hHeld
              have hHeld := hHeld2
              clear hHeld2
              try simp only [Act.put, List.getElem_toArray, List.getElem_cons_succ, List.getElem_cons_zero, List.setIfInBounds_toArray, List.set_cons_zero, List.set_cons_succ]
              have HNB := Lib.hid (blk_alloc HNB.out (.cells #[.int .i64 now, .int .i64 y, .int .i64 z] 3))
              have HTB : Hid ((w5.alloc (.cells #[.int .i64 now, .int .i64 y, .int .i64 z] 3)).heap[w5.heap.size]? = some (.cells (([now, y, z] : List Int).map (Value.int .i64)).toArray 3 (0, 0))) := heap_alloc_new w5 _
              have HTG : Hid (g < w5.heap.size) := HK.out.1.lt
              obtain ⟨TL, hTL⟩ : ∃ x, w5.heap.size = x := ⟨_, rfl⟩
              obtain ⟨w6, hw⟩ : ∃ x, w5.alloc (.cells #[.int .i64 now, .int .i64 y, .int .i64 z] 3) = x := ⟨_, rfl⟩
              rw [hw, hTL] at HTB
              rw [hw] at HNB
              rw [hTL] at HTG
              try rw [hTL]
              rw [hw] at hHeld ⊢
              clear hw hTL HK
              have HG := Lib.hid hHeld.2.2
              refine wpAnyT_last (i := 13) (by kernel_rfl) (by kernel_rfl) rfl (by kernel_rfl) (fun K hK => ?_)
              go_simp
              refine hK.out _ _ ?_
              clear hK K
              try simp only [Act.put, List.getElem_toArray, List.getElem_cons_succ, List.getElem_cons_zero, List.setIfInBounds_toArray, List.set_cons_zero, List.set_cons_succ]
              clear hHeld
              go_wp2
              go_meet
              exact ⟨NL, TL, [(⟨p0, p1, p2, p3, p4, p5, p6, p7, p8, p9, p10, p11, p12, p13, p14, p15⟩ : Anim), (⟨x0, x1, x2, x3, x4, x5, x6, x7, x8, x9, x10, x11, x12, x13, x14, x15⟩ : Anim), (⟨z0, z1, z2, z3, z4, z5, z6, z7, z8, z9, z10, z11, z12, z13, z14, z15⟩ : Anim)], [now, y, z], rfl, rfl, rfl, rfl, HNB.out, HTB.out, HG.out⟩
            ·
              go_simp
              (refine (srcN_any g _ _ hHeld.2.1 (by omega) (by omega)).mono ?_; rintro e w7 ⟨y, ya, yb, rfl, hs8, hg8⟩)
              refine hK.out _ _ ?_ (fun hHeld2 => ?_)
              · (try dsimp only); exact ⟨HC16.out _ (grownBy_trans hHeld.2.2 hg8), hs8, grownBy_trans hHeld.2.2 hg8⟩
              clear hK K hHeld
              have hHeld := hHeld2
              clear hHeld2
              try simp only [Act.put, List.getElem_toArray, List.getElem_cons_succ, List.getElem_cons_zero, List.setIfInBounds_toArray, List.set_cons_zero, List.set_cons_succ]
              clear hs8 hg8
              clear HK
              have HK := Lib.hid hHeld.2
              refine wpAnyT_two (i := 5) (j := 10) (by kernel_rfl) rfl rfl (fun K hK => ?_) (fun K hK => ?_)
              ·
                (refine step_lit3A ?_)
                refine hK.out _ _ ?_ (fun hHeld2 => ?_)
                · (try dsimp only); exact ⟨HC16.out _ (grownBy_trans HK.out.2 (World.grownBy_alloc _ _ _)), HK.out.1.kept ((Below.refl _ _).alloc (by have := HK.out.1.lt; omega) _), grownBy_trans HK.out.2 (World.grownBy_alloc _ _ _)⟩
                clear hK K hHeld
                have hHeld := hHeld2
                clear hHeld2
                try simp only [Act.put, List.getElem_toArray, List.getElem_cons_succ, List.getElem_cons_zero, List.setIfInBounds_toArray, List.set_cons_zero, List.set_cons_succ]
                have HNB : Hid ((w7.alloc (.cells #[.int .i64 p0, .int .i64 p1, .int .i64 p2, .int .i64 p3, .int .i64 p4, .int .i64 p5, .int .i64 p6, .int .i64 p7, .int .i64 p8, .int .i64 p9, .int .i64 p10, .int .i64 p11, .int .i64 p12, .int .i64 p13, .int .i64 p14, .int .i64 p15, .int .i64 x0, .int .i64 x1, .int .i64 x2, .int .i64 x3, .int .i64 x4, .int .i64 x5, .int .i64 x6, .int .i64 x7, .int .i64 x8, .int .i64 x9, .int .i64 x10, .int .i64 x11, .int .i64 x12, .int .i64 x13, .int .i64 x14, .int .i64 x15, .int .i64 z0, .int .i64 z1, .int .i64 z2, .int .i64 z3, .int .i64 z4, .int .i64 z5, .int .i64 z6, .int .i64 z7, .int .i64 z8, .int .i64 z9, .int .i64 z10, .int .i64 z11, .int .i64 z12, .int .i64 z13, .int .i64 z14, .int .i64 z15] 38)).heap[w7.heap.size]? = some (.cells (recCells ([(⟨p0, p1, p2, p3, p4, p5, p6, p7, p8, p9, p10, p11, p12, p13, p14, p15⟩ : Anim), (⟨x0, x1, x2, x3, x4, x5, x6, x7, x8, x9, x10, x11, x12, x13, x14, x15⟩ : Anim), (⟨z0, z1, z2, z3, z4, z5, z6, z7, z8, z9, z10, z11, z12, z13, z14, z15⟩ : Anim)].map recA)).toArray 38 (0, 0))) := heap_alloc_new w7 _
                have HNG : Hid (g < w7.heap.size) := HK.out.1.lt
                obtain ⟨NL, hNL⟩ : ∃ x, w7.heap.size = x := ⟨_, rfl⟩
                obtain ⟨w8, hw⟩ : ∃ x, w7.alloc (.cells #[.int .i64 p0, .int .i64 p1, .int .i64 p2, .int .i64 p3, .int .i64 p4, .int .i64 p5, .int .i64 p6, .int .i64 p7, .int .i64 p8, .int .i64 p9, .int .i64 p10, .int .i64 p11, .int .i64 p12, .int .i64 p13, .int .i64 p14, .int .i64 p15, .int .i64 x0, .int .i64 x1, .int .i64 x2, .int .i64 x3, .int .i64 x4, .int .i64 x5, .int .i64 x6, .int .i64 x7, .int .i64 x8, .int .i64 x9, .int .i64 x10, .int .i64 x11, .int .i64 x12, .int .i64 x13, .int .i64 x14, .int .i64 x15, .int .i64 z0, .int .i64 z1, .int .i64 z2, .int .i64 z3, .int .i64 z4, .int .i64 z5, .int .i64 z6, .int .i64 z7, .int .i64 z8, .int .i64 z9, .int .i64 z10, .int .i64 z11, .int .i64 z12, .int .i64 z13, .int .i64 z14, .int .i64 z15] 38) = x := ⟨_, rfl⟩
                rw [hw, hNL] at HNB
                rw [hNL] at HNG
                try rw [hNL]
                rw [hw] at hHeld ⊢
                clear hw hNL HK
                refine wpAnyT_one (i := 10) (by kernel_rfl) rfl (fun K hK => ?_)
                go_simp
                (refine (srcN_any g _ _ hHeld.2.1 (by omega) (by omega)).mono ?_; rintro e w9 ⟨z, za, zb, rfl, hs10, hg10⟩)
                refine hK.out _ _ ?_ (fun hHeld2 => ?_)
                · (try dsimp only); exact ⟨HC16.out _ (grownBy_trans hHeld.2.2 hg10), hs10, grownBy_trans hHeld.2.2 hg10⟩
                clear hK K hHeld
                have hHeld := hHeld2
                clear hHeld2
                try simp only [Act.put, List.getElem_toArray, List.getElem_cons_succ, List.getElem_cons_zero, List.setIfInBounds_toArray, List.set_cons_zero, List.set_cons_succ]
                have HNB := Lib.hid (blk_grown HNB.out hg10 (by have := HNG.out; omega))
                clear hs10 hg10
                refine wpAnyT_take (i := 12) (v := ?_) rfl (by decide +kernel) (by decide +kernel) (by decide +kernel) (by decide +kernel) (by decide +kernel) (fun _ _ _ h => h) (Or.inl ⟨by rfl, ?_⟩) (by assumption) ?_
                rotate_left
                · intro w hSw; (try dsimp only at hSw); first | (go_simp; done) | (go_simp; with_reducible rfl)
                try simp only [Act.put, List.getElem_toArray, List.getElem_cons_succ, List.getElem_cons_zero, List.setIfInBounds_toArray, List.set_cons_zero, List.set_cons_succ]
                have HK := Lib.hid hHeld.2
                refine wpAnyT_one (i := 11) (by kernel_rfl) rfl (fun K hK => ?_)
                go_simp
                refine hK.out _ _ ?_ (fun hHeld2 => ?_)
                · (try dsimp only); exact ⟨HC16.out _ (grownBy_trans HK.out.2 (World.grownBy_alloc _ _ _)), HK.out.1.kept ((Below.refl _ _).alloc (by have := HK.out.1.lt; omega) _), grownBy_trans HK.out.2 (World.grownBy_alloc _ _ _)⟩
                clear hK K hHeld
                have hHeld := hHeld2
                clear hHeld2
                try simp only [Act.put, List.getElem_toArray, List.getElem_cons_succ, List.getElem_cons_zero, List.setIfInBounds_toArray, List.set_cons_zero, List.set_cons_succ]
                have HNB := Lib.hid (blk_alloc HNB.out (.cells #[.int .i64 now, .int .i64 y, .int .i64 z] 3))
                have HTB : Hid ((w9.alloc (.cells #[.int .i64 now, .int .i64 y, .int .i64 z] 3)).heap[w9.heap.size]? = some (.cells (([now, y, z] : List Int).map (Value.int .i64)).toArray 3 (0, 0))) := heap_alloc_new w9 _
                have HTG : Hid (g < w9.heap.size) := HK.out.1.lt
                obtain ⟨TL, hTL⟩ : ∃ x, w9.heap.size = x := ⟨_, rfl⟩
                obtain ⟨w10, hw⟩ : ∃ x, w9.alloc (.cells #[.int .i64 now, .int .i64 y, .int .i64 z] 3) = x := ⟨_, rfl⟩
                rw [hw, hTL] at HTB
                rw [hw] at HNB
                rw [hTL] at HTG
                try rw [hTL]
                rw [hw] at hHeld ⊢
                clear hw hTL HK
                have HG := Lib.hid hHeld.2.2
                refine wpAnyT_last (i := 13) (by kernel_rfl) (by kernel_rfl) rfl (by kernel_rfl) (fun K hK => ?_)
                go_simp
                refine hK.out _ _ ?_
                clear hK K
                try simp only [Act.put, List.getElem_toArray, List.getElem_cons_succ, List.getElem_cons_zero, List.setIfInBounds_toArray, List.set_cons_zero, List.set_cons_succ]
                clear hHeld
                go_wp2
                go_meet
                exact ⟨NL, TL, [(⟨p0, p1, p2, p3, p4, p5, p6, p7, p8, p9, p10, p11, p12, p13, p14, p15⟩ : Anim), (⟨x0, x1, x2, x3, x4, x5, x6, x7, x8, x9, x10, x11, x12, x13, x14, x15⟩ : Anim), (⟨z0, z1, z2, z3, z4, z5, z6, z7, z8, z9, z10, z11, z12, z13, z14, z15⟩ : Anim)], [now, y, z], rfl, rfl, rfl, rfl, HNB.out, HTB.out, HG.out⟩
              ·
                go_simp
                (refine (srcN_any g _ _ hHeld.2.1 (by omega) (by omega)).mono ?_; rintro e w11 ⟨z, za, zb, rfl, hs10, hg10⟩)
                refine hK.out _ _ ?_ (fun hHeld2 => ?_)
                · (try dsimp only); exact ⟨HC16.out _ (grownBy_trans hHeld.2.2 hg10), hs10, grownBy_trans hHeld.2.2 hg10⟩
                clear hK K hHeld
                have hHeld := hHeld2
                clear hHeld2
                try simp only [Act.put, List.getElem_toArray, List.getElem_cons_succ, List.getElem_cons_zero, List.setIfInBounds_toArray, List.set_cons_zero, List.set_cons_succ]
                clear hs10 hg10
                clear HK
                have HK := Lib.hid hHeld.2
                refine wpAnyT_two (i := 5) (j := 11) (by kernel_rfl) rfl rfl (fun K hK => ?_) (fun K hK => ?_)
                ·
                  (refine step_lit3A ?_)
                  refine hK.out _ _ ?_ (fun hHeld2 => ?_)
                  · (try dsimp only); exact ⟨HC16.out _ (grownBy_trans HK.out.2 (World.grownBy_alloc _ _ _)), HK.out.1.kept ((Below.refl _ _).alloc (by have := HK.out.1.lt; omega) _), grownBy_trans HK.out.2 (World.grownBy_alloc _ _ _)⟩
                  clear hK K hHeld
                  have hHeld := hHeld2
                  clear hHeld2
                  try simp only [Act.put, List.getElem_toArray, List.getElem_cons_succ, List.getElem_cons_zero, List.setIfInBounds_toArray, List.set_cons_zero, List.set_cons_succ]
                  have HNB : Hid ((w11.alloc (.cells #[.int .i64 p0, .int .i64 p1, .int .i64 p2, .int .i64 p3, .int .i64 p4, .int .i64 p5, .int .i64 p6, .int .i64 p7, .int .i64 p8, .int .i64 p9, .int .i64 p10, .int .i64 p11, .int .i64 p12, .int .i64 p13, .int .i64 p14, .int .i64 p15, .int .i64 x0, .int .i64 x1, .int .i64 x2, .int .i64 x3, .int .i64 x4, .int .i64 x5, .int .i64 x6, .int .i64 x7, .int .i64 x8, .int .i64 x9, .int .i64 x10, .int .i64 x11, .int .i64 x12, .int .i64 x13, .int .i64 x14, .int .i64 x15, .int .i64 z0, .int .i64 z1, .int .i64 z2, .int .i64 z3, .int .i64 z4, .int .i64 z5, .int .i64 z6, .int .i64 z7, .int .i64 z8, .int .i64 z9, .int .i64 z10, .int .i64 z11, .int .i64 z12, .int .i64 z13, .int .i64 z14, .int .i64 z15] 38)).heap[w11.heap.size]? = some (.cells (recCells ([(⟨p0, p1, p2, p3, p4, p5, p6, p7, p8, p9, p10, p11, p12, p13, p14, p15⟩ : Anim), (⟨x0, x1, x2, x3, x4, x5, x6, x7, x8, x9, x10, x11, x12, x13, x14, x15⟩ : Anim), (⟨z0, z1, z2, z3, z4, z5, z6, z7, z8, z9, z10, z11, z12, z13, z14, z15⟩ : Anim)].map recA)).toArray 38 (0, 0))) := heap_alloc_new w11 _
                  have HNG : Hid (g < w11.heap.size) := HK.out.1.lt
                  obtain ⟨NL, hNL⟩ : ∃ x, w11.heap.size = x := ⟨_, rfl⟩
                  obtain ⟨w12, hw⟩ : ∃ x, w11.alloc (.cells #[.int .i64 p0, .int .i64 p1, .int .i64 p2, .int .i64 p3, .int .i64 p4, .int .i64 p5, .int .i64 p6, .int .i64 p7, .int .i64 p8, .int .i64 p9, .int .i64 p10, .int .i64 p11, .int .i64 p12, .int .i64 p13, .int .i64 p14, .int .i64 p15, .int .i64 x0, .int .i64 x1, .int .i64 x2, .int .i64 x3, .int .i64 x4, .int .i64 x5, .int .i64 x6, .int .i64 x7, .int .i64 x8, .int .i64 x9, .int .i64 x10, .int .i64 x11, .int .i64 x12, .int .i64 x13, .int .i64 x14, .int .i64 x15, .int .i64 z0, .int .i64 z1, .int .i64 z2, .int .i64 z3, .int .i64 z4, .int .i64 z5, .int .i64 z6, .int .i64 z7, .int .i64 z8, .int .i64 z9, .int .i64 z10, .int .i64 z11, .int .i64 z12, .int .i64 z13, .int .i64 z14, .int .i64 z15] 38) = x := ⟨_, rfl⟩
                  rw [hw, hNL] at HNB
                  rw [hNL] at HNG
                  try rw [hNL]
                  rw [hw] at hHeld ⊢
                  clear hw hNL HK
                  refine wpAnyT_take (i := 12) (v := ?_) rfl (by decide +kernel) (by decide +kernel) (by decide +kernel) (by decide +kernel) (by decide +kernel) (fun _ _ _ h => h) (Or.inl ⟨by rfl, ?_⟩) (by assumption) ?_
                  rotate_left
                  · intro w hSw; (try dsimp only at hSw); first | (go_simp; done) | (go_simp; with_reducible rfl)
                  try simp only [Act.put, List.getElem_toArray, List.getElem_cons_succ, List.getElem_cons_zero, List.setIfInBounds_toArray, List.set_cons_zero, List.set_cons_succ]
                  have HK := Lib.hid hHeld.2
                  refine wpAnyT_one (i := 11) (by kernel_rfl) rfl (fun K hK => ?_)
                  go_simp
                  refine hK.out _ _ ?_ (fun hHeld2 => ?_)
                  · (try dsimp only); exact ⟨HC16.out _ (grownBy_trans HK.out.2 (World.grownBy_alloc _ _ _)), HK.out.1.kept ((Below.refl _ _).alloc (by have := HK.out.1.lt; omega) _), grownBy_trans HK.out.2 (World.grownBy_alloc _ _ _)⟩
                  clear hK K hHeld
                  have hHeld := hHeld2
                  clear hHeld2
                  try simp only [Act.put, List.getElem_toArray, List.getElem_cons_succ, List.getElem_cons_zero, List.setIfInBounds_toArray, List.set_cons_zero, List.set_cons_succ]
                  have HNB := Lib.hid (blk_alloc HNB.out (.cells #[.int .i64 now, .int .i64 y, .int .i64 z] 3))
                  have HTB : Hid ((w12.alloc (.cells #[.int .i64 now, .int .i64 y, .int .i64 z] 3)).heap[w12.heap.size]? = some (.cells (([now, y, z] : List Int).map (Value.int .i64)).toArray 3 (0, 0))) := heap_alloc_new w12 _
                  have HTG : Hid (g < w12.heap.size) := HK.out.1.lt
                  obtain ⟨TL, hTL⟩ : ∃ x, w12.heap.size = x := ⟨_, rfl⟩
                  obtain ⟨w13, hw⟩ : ∃ x, w12.alloc (.cells #[.int .i64 now, .int .i64 y, .int .i64 z] 3) = x := ⟨_, rfl⟩
                  rw [hw, hTL] at HTB
                  rw [hw] at HNB
                  rw [hTL] at HTG
                  try rw [hTL]
                  rw [hw] at hHeld ⊢
                  clear hw hTL HK
                  have HG := Lib.hid hHeld.2.2
                  refine wpAnyT_last (i := 13) (by kernel_rfl) (by kernel_rfl) rfl (by kernel_rfl) (fun K hK => ?_)
                  go_simp
                  refine hK.out _ _ ?_
                  clear hK K
                  try simp only [Act.put, List.getElem_toArray, List.getElem_cons_succ, List.getElem_cons_zero, List.setIfInBounds_toArray, List.set_cons_zero, List.set_cons_succ]
                  clear hHeld
                  go_wp2
                  go_meet
                  exact ⟨NL, TL, [(⟨p0, p1, p2, p3, p4, p5, p6, p7, p8, p9, p10, p11, p12, p13, p14, p15⟩ : Anim), (⟨x0, x1, x2, x3, x4, x5, x6, x7, x8, x9, x10, x11, x12, x13, x14, x15⟩ : Anim), (⟨z0, z1, z2, z3, z4, z5, z6, z7, z8, z9, z10, z11, z12, z13, z14, z15⟩ : Anim)], [now, y, z], rfl, rfl, rfl, rfl, HNB.out, HTB.out, HG.out⟩
                ·
                  go_simp
                  refine hK.out _ _ ?_ (fun hHeld2 => ?_)
                  · (try dsimp only); exact ⟨HC16.out _ (grownBy_trans HK.out.2 (World.grownBy_alloc _ _ _)), HK.out.1.kept ((Below.refl _ _).alloc (by have := HK.out.1.lt; omega) _), grownBy_trans HK.out.2 (World.grownBy_alloc _ _ _)⟩
                  clear hK K hHeld
                  have hHeld := hHeld2
                  clear hHeld2
                  try simp only [Act.put, List.getElem_toArray, List.getElem_cons_succ, List.getElem_cons_zero, List.setIfInBounds_toArray, List.set_cons_zero, List.set_cons_succ]
                  have HTB : Hid ((w11.alloc (.cells #[.int .i64 now, .int .i64 y, .int .i64 z] 3)).heap[w11.heap.size]? = some (.cells (([now, y, z] : List Int).map (Value.int .i64)).toArray 3 (0, 0))) := heap_alloc_new w11 _
                  have HTG : Hid (g < w11.heap.size) := HK.out.1.lt
                  obtain ⟨TL, hTL⟩ : ∃ x, w11.heap.size = x := ⟨_, rfl⟩
                  obtain ⟨w14, hw⟩ : ∃ x, w11.alloc (.cells #[.int .i64 now, .int .i64 y, .int .i64 z] 3) = x := ⟨_, rfl⟩
                  rw [hw, hTL] at HTB
                  rw [hTL] at HTG
                  try rw [hTL]
                  rw [hw] at hHeld ⊢
                  clear hw hTL HK
                  have HK := Lib.hid hHeld.2
                  refine wpAnyT_one (i := 5) (by kernel_rfl) rfl (fun K hK => ?_)
                  (refine step_lit3A ?_)
                  refine hK.out _ _ ?_ (fun hHeld2 => ?_)
                  · (try dsimp only); exact ⟨HC16.out _ (grownBy_trans HK.out.2 (World.grownBy_alloc _ _ _)), HK.out.1.kept ((Below.refl _ _).alloc (by have := HK.out.1.lt; omega) _), grownBy_trans HK.out.2 (World.grownBy_alloc _ _ _)⟩
                  clear hK K hHeld
                  have hHeld := hHeld2
                  clear hHeld2
                  try simp only [Act.put, List.getElem_toArray, List.getElem_cons_succ, List.getElem_cons_zero, List.setIfInBounds_toArray, List.set_cons_zero, List.set_cons_succ]
                  have HTB := Lib.hid (blk_alloc HTB.out (.cells #[.int .i64 p0, .int .i64 p1, .int .i64 p2, .int .i64 p3, .int .i64 p4, .int .i64 p5, .int .i64 p6, .int .i64 p7, .int .i64 p8, .int .i64 p9, .int .i64 p10, .int .i64 p11, .int .i64 p12, .int .i64 p13, .int .i64 p14, .int .i64 p15, .int .i64 x0, .int .i64 x1, .int .i64 x2, .int .i64 x3, .int .i64 x4, .int .i64 x5, .int .i64 x6, .int .i64 x7, .int .i64 x8, .int .i64 x9, .int .i64 x10, .int .i64 x11, .int .i64 x12, .int .i64 x13, .int .i64 x14, .int .i64 x15, .int .i64 z0, .int .i64 z1, .int .i64 z2, .int .i64 z3, .int .i64 z4, .int .i64 z5, .int .i64 z6, .int .i64 z7, .int .i64 z8, .int .i64 z9, .int .i64 z10, .int .i64 z11, .int .i64 z12, .int .i64 z13, .int .i64 z14, .int .i64 z15] 38))
                  have HNB : Hid ((w14.alloc (.cells #[.int .i64 p0, .int .i64 p1, .int .i64 p2, .int .i64 p3, .int .i64 p4, .int .i64 p5, .int .i64 p6, .int .i64 p7, .int .i64 p8, .int .i64 p9, .int .i64 p10, .int .i64 p11, .int .i64 p12, .int .i64 p13, .int .i64 p14, .int .i64 p15, .int .i64 x0, .int .i64 x1, .int .i64 x2, .int .i64 x3, .int .i64 x4, .int .i64 x5, .int .i64 x6, .int .i64 x7, .int .i64 x8, .int .i64 x9, .int .i64 x10, .int .i64 x11, .int .i64 x12, .int .i64 x13, .int .i64 x14, .int .i64 x15, .int .i64 z0, .int .i64 z1, .int .i64 z2, .int .i64 z3, .int .i64 z4, .int .i64 z5, .int .i64 z6, .int .i64 z7, .int .i64 z8, .int .i64 z9, .int .i64 z10, .int .i64 z11, .int .i64 z12, .int .i64 z13, .int .i64 z14, .int .i64 z15] 38)).heap[w14.heap.size]? = some (.cells (recCells ([(⟨p0, p1, p2, p3, p4, p5, p6, p7, p8, p9, p10, p11, p12, p13, p14, p15⟩ : Anim), (⟨x0, x1, x2, x3, x4, x5, x6, x7, x8, x9, x10, x11, x12, x13, x14, x15⟩ : Anim), (⟨z0, z1, z2, z3, z4, z5, z6, z7, z8, z9, z10, z11, z12, z13, z14, z15⟩ : Anim)].map recA)).toArray 38 (0, 0))) := heap_alloc_new w14 _
                  have HNG : Hid (g < w14.heap.size) := HK.out.1.lt
                  obtain ⟨NL, hNL⟩ : ∃ x, w14.heap.size = x := ⟨_, rfl⟩
                  obtain ⟨w15, hw⟩ : ∃ x, w14.alloc (.cells #[.int .i64 p0, .int .i64 p1, .int .i64 p2, .int .i64 p3, .int .i64 p4, .int .i64 p5, .int .i64 p6, .int .i64 p7, .int .i64 p8, .int .i64 p9, .int .i64 p10, .int .i64 p11, .int .i64 p12, .int .i64 p13, .int .i64 p14, .int .i64 p15, .int .i64 x0, .int .i64 x1, .int .i64 x2, .int .i64 x3, .int .i64 x4, .int .i64 x5, .int .i64 x6, .int .i64 x7, .int .i64 x8, .int .i64 x9, .int .i64 x10, .int .i64 x11, .int .i64 x12, .int .i64 x13, .int .i64 x14, .int .i64 x15, .int .i64 z0, .int .i64 z1, .int .i64 z2, .int .i64 z3, .int .i64 z4, .int .i64 z5, .int .i64 z6, .int .i64 z7, .int .i64 z8, .int .i64 z9, .int .i64 z10, .int .i64 z11, .int .i64 z12, .int .i64 z13, .int .i64 z14, .int .i64 z15] 38) = x := ⟨_, rfl⟩
                  rw [hw, hNL] at HNB
                  rw [hw] at HTB
                  rw [hNL] at HNG
                  try rw [hNL]
                  rw [hw] at hHeld ⊢
                  clear hw hNL HK
                  refine wpAnyT_take (i := 12) (v := ?_) rfl (by decide +kernel) (by decide +kernel) (by decide +kernel) (by decide +kernel) (by decide +kernel) (fun _ _ _ h => h) (Or.inl ⟨by rfl, ?_⟩) (by assumption) ?_
                  rotate_left
                  · intro w hSw; (try dsimp only at hSw); first | (go_simp; done) | (go_simp; with_reducible rfl)
                  try simp only [Act.put, List.getElem_toArray, List.getElem_cons_succ, List.getElem_cons_zero, List.setIfInBounds_toArray, List.set_cons_zero, List.set_cons_succ]
                  have HG := Lib.hid hHeld.2.2
                  refine wpAnyT_last (i := 13) (by kernel_rfl) (by kernel_rfl) rfl (by kernel_rfl) (fun K hK => ?_)
                  go_simp
                  refine hK.out _ _ ?_
                  clear hK K
                  try simp only [Act.put, List.getElem_toArray, List.getElem_cons_succ, List.getElem_cons_zero, List.setIfInBounds_toArray, List.set_cons_zero, List.set_cons_succ]
                  clear hHeld
                  go_wp2
                  go_meet
                  exact ⟨NL, TL, [(⟨p0, p1, p2, p3, p4, p5, p6, p7, p8, p9, p10, p11, p12, p13, p14, p15⟩ : Anim), (⟨x0, x1, x2, x3, x4, x5, x6, x7, x8, x9, x10, x11, x12, x13, x14, x15⟩ : Anim), (⟨z0, z1, z2, z3, z4, z5, z6, z7, z8, z9, z10, z11, z12, z13, z14, z15⟩ : Anim)], [now, y, z], rfl, rfl, rfl, rfl, HNB.out, HTB.out, HG.out⟩
        case rest =>
          obtain ⟨NL, TL, news, ts, rfl, rfl, hn3, ht3, hnb, htb, hgx⟩ := hcut
          obtain ⟨wf, rfl⟩ : ∃ x : World, x = wc := ⟨_, rfl⟩
          have HWF : Hid (Below w.heap.size w wf) := HBR.out.trans (grownBy_below hgx (by have := HGL.out; have := HBE.out; omega) HSR.out.lt)
          have HTU : Hid (Turns g g wr wf) := (Turns.refl g g wr).grown hgx (fun q e => .inl (Option.some.inj e).symm)
          have HHF : Hid (Holds3 wf L (.slice a n cap) u1 u2) := HHR.out.grown hgx (fun e => by have := Option.some.inj e; have := HGLL.out; omega)
          have HLK : Hid (∀ k, k < 3 → ∃ u lk, wf.cell? ⟨L, k, none⟩ = some u ∧ lk.length ≤ 5 ∧ IsAnims wf u lk) := fun k hk => by
            have hk' : k = 0 ∨ k = 1 ∨ k = 2 := by omega
            rcases hk' with rfl | rfl | rfl
            · exact ⟨_, l0, HHF.out.cell0, by rw [HN.out]; exact h5, HV.out.of_below HWF.out⟩
            · exact ⟨_, l1, HHF.out.cell1, by have := HL1.out; omega, HI1.out.turns HTU.out (HH1.out.mono (by have := HGLL.out; omega))⟩
            · exact ⟨_, l2, HHF.out.cell2, by have := HL2.out; omega, HI2.out.turns HTU.out (HH2.out.mono (by have := HGLL.out; omega))⟩
          have HNS := Lib.hid (blk_animsA news hnb hn3.symm (by unfold maxLen; omega))
          have HTC : Hid (∀ i, i < 3 → wf.cell? ⟨TL, i, none⟩ = some (.int .i64 (gz ts i))) := fun i hi => by rw [cell_of_row wf TL _ _ _ (0, 0) htb]; simp [gz, ht3, hi]
          have HNC : Hid (∀ i, i < 3 → AnimOff wf NL (i * 16) (ga news i)) := by
            obtain ⟨la, lcap, hlv, _, _, l3⟩ := HNS.out.open_
            rw [hn3] at hlv l3
            obtain ⟨b, off, e1, -, hc⟩ := l3 (by omega)
            intro i hi
            have e2 := hc i hi
            have e3 : b = NL ∧ off = 0 := by
              rw [e1] at hlv
              simp at hlv
              exact ⟨hlv.1.1.symm, hlv.1.2.symm⟩
            rw [e3.1, e3.2, Nat.zero_add] at e2
            exact e2
          have HLT : Hid (L < wf.heap.size ∧ TL < wf.heap.size ∧ NL < wf.heap.size) := ⟨HHF.out.lt, lt_of_block htb, lt_of_block hnb⟩
          clear hn3 ht3 hnb htb hgx HHF HTU HC16
          clear hnk
          go_wp2_with fail
          go_loopw [15] (fun i wx => ∃ k : Nat, k ≤ 3 ∧ i = .int .i64 k ∧ Below wf.heap.size wf wx) (fun i _ => 3 - (intOf i).toNat)
          case atStart => exact ⟨0, by omega, rfl, Below.refl _ _⟩
          case round =>
            obtain ⟨k, hk, rfl, hbr⟩ := hrel
            have HBX0 := Lib.hid hbr
            obtain ⟨wy, rfl⟩ : ∃ x : World, x = wr := ⟨_, rfl⟩
            clear hbr
            by_cases hk3 : k < 3
            ·
              as_aux_lemma =>
                obtain ⟨u, lk, hcl, hlk, hik⟩ := HLK.out k hk3
                have HIK := Lib.hid (hik.of_below HBX0.out)
                have HLK5 := Lib.hid hlk
                have HCL := Lib.hid hcl
                have HCT := Lib.hid (HTC.out k hk3)
                obtain ⟨tm, htm⟩ : ∃ t, gz ts k = t := ⟨_, rfl⟩
                rw [htm] at HCT
                obtain ⟨E, hE⟩ : ∃ E, advErr lk tm = E := ⟨_, rfl⟩
                have HE := Lib.hid hE
                have hk0 : (0 : Int) ≤ (k : Int) := by omega
                have hk3' : (k : Int) < 3 := by omega
                have HOUT : Hid ((advOut lk tm).length ≤ 64) := by show _ ≤ _; have := advOut_len lk tm; have := HLK5.out; omega
                clear htm hE hcl hlk hik
                have cL := (HBX0.out.cell (p := ⟨L, k, none⟩) HLT.out.1).trans HCL.out
                have cT := (HBX0.out.cell (p := ⟨TL, k, none⟩) HLT.out.2.1).trans HCT.out
                go_upto_region 16 with fail
                refine wp_region_T (S := (fun w' => w'.cell? ⟨L, k, none⟩ = some u ∧ w'.cell? ⟨TL, k, none⟩ = some (.int .i64 tm) ∧ Below wy.heap.size wy w')) 15 (by kernel_rfl) (⟨cL, cT, (Below.refl _ _).drew⟩) (fun hHeld => ?_)
                clear cL cT
                refine wpAnyT_take (i := 0) (v := ?_) rfl (by decide +kernel) (by decide +kernel) (by decide +kernel) (by decide +kernel) (by decide +kernel) (fun _ _ _ h => h) (Or.inl ⟨by rfl, ?_⟩) (by assumption) ?_
                rotate_left
                · intro w hSw; (try dsimp only at hSw); first | (go_simp; done) | (go_simp; with_reducible rfl)
                try simp only [Act.put, List.getElem_toArray, List.getElem_cons_succ, List.getElem_cons_zero, List.setIfInBounds_toArray, List.set_cons_zero, List.set_cons_succ]
                refine wpAnyT_take (i := 1) (v := ?_) rfl (by decide +kernel) (by decide +kernel) (by decide +kernel) (by decide +kernel) (by decide +kernel) (fun _ _ _ h => h) (Or.inl ⟨by rfl, ?_⟩) (by assumption) ?_
                rotate_left
                · intro w hSw; (try dsimp only at hSw); first | (go_simp; done) | (go_simp; with_reducible rfl)
                try simp only [Act.put, List.getElem_toArray, List.getElem_cons_succ, List.getElem_cons_zero, List.setIfInBounds_toArray, List.set_cons_zero, List.set_cons_succ]
                refine wpAnyT_take (i := 2) (v := ?_) rfl (by decide +kernel) (by decide +kernel) (by decide +kernel) (by decide +kernel) (by decide +kernel) (fun _ _ _ h => h) (Or.inl ⟨by rfl, ?_⟩) (by assumption) ?_
                rotate_left
                · intro w hSw; (try dsimp only at hSw); first | (go_simp; done) | (go_simp; with_reducible rfl)
                try simp only [Act.put, List.getElem_toArray, List.getElem_cons_succ, List.getElem_cons_zero, List.setIfInBounds_toArray, List.set_cons_zero, List.set_cons_succ]
                refine wpAnyT_take (i := 3) (v := ?_) rfl (by decide +kernel) (by decide +kernel) (by decide +kernel) (by decide +kernel) (by decide +kernel) (fun _ _ _ h => h) (Or.inl ⟨by rfl, ?_⟩) (by assumption) ?_
                rotate_left
                · intro w hSw; (try dsimp only at hSw); first | (go_simp; done) | (go_simp; with_reducible rfl)
                try simp only [Act.put, List.getElem_toArray, List.getElem_cons_succ, List.getElem_cons_zero, List.setIfInBounds_toArray, List.set_cons_zero, List.set_cons_succ]
                refine wpAnyT_take (i := 4) (v := ?_) rfl (by decide +kernel) (by decide +kernel) (by decide +kernel) (by decide +kernel) (by decide +kernel) (fun _ _ _ h => h) (Or.inl ⟨by rfl, ?_⟩) (by assumption) ?_
                rotate_left
                · intro w hSw; (try dsimp only at hSw); first | (go_simp; done) | (go_simp; with_reducible rfl)
                try simp only [Act.put, List.getElem_toArray, List.getElem_cons_succ, List.getElem_cons_zero, List.setIfInBounds_toArray, List.set_cons_zero, List.set_cons_succ]
                refine wpAnyT_take (i := 5) (v := ?_) rfl (by decide +kernel) (by decide +kernel) (by decide +kernel) (by decide +kernel) (by decide +kernel) (fun _ _ _ h => h) (Or.inl ⟨by rfl, ?_⟩) (by assumption) ?_
                rotate_left
                · intro w hSw; (try dsimp only at hSw); first | (go_simp; done) | (go_simp; with_reducible rfl)
                try simp only [Act.put, List.getElem_toArray, List.getElem_cons_succ, List.getElem_cons_zero, List.setIfInBounds_toArray, List.set_cons_zero, List.set_cons_succ]
                refine wpAnyT_take (i := 6) (v := ?_) rfl (by decide +kernel) (by decide +kernel) (by decide +kernel) (by decide +kernel) (by decide +kernel) (fun _ _ _ h => h) (Or.inl ⟨by rfl, ?_⟩) (by assumption) ?_
                rotate_left
                · intro w hSw; (try dsimp only at hSw); first | (go_simp; done) | (go_simp; with_reducible rfl)
                try simp only [Act.put, List.getElem_toArray, List.getElem_cons_succ, List.getElem_cons_zero, List.setIfInBounds_toArray, List.set_cons_zero, List.set_cons_succ]
                refine wpAnyT_take (i := 7) (v := ?_) rfl (by decide +kernel) (by decide +kernel) (by decide +kernel) (by decide +kernel) (by decide +kernel) (fun _ _ _ h => h) (Or.inl ⟨by rfl, ?_⟩) (by assumption) ?_
                rotate_left
                · intro w hSw; (try dsimp only at hSw); first | (go_simp; done) | (go_simp; with_reducible rfl)
                try simp only [Act.put, List.getElem_toArray, List.getElem_cons_succ, List.getElem_cons_zero, List.setIfInBounds_toArray, List.set_cons_zero, List.set_cons_succ]
                refine wpAnyT_one (i := 8) (by kernel_rfl) rfl (fun K hK => ?_)
                go_simp
                (refine (advance_any _ lk tm _ (HIK.out.of_below hHeld.2.2)).mono ?_; rintro e wa ⟨pp, xx, rfl, hpp, hxx, hb'⟩; rw [HE.out])
                refine hK.out _ _ ?_ (fun hHeld2 => ?_)
                · (try dsimp only); exact ⟨(hb'.cell (p := ⟨L, k, none⟩) (World.block_lt_of_cell? _ _ hHeld.1)).trans hHeld.1, (hb'.cell (p := ⟨TL, k, none⟩) (World.block_lt_of_cell? _ _ hHeld.2.1)).trans hHeld.2.1, hHeld.2.2.trans (hb'.mono hHeld.2.2.size)⟩
                clear hK K hHeld
                have hHeld := hHeld2
                clear hHeld2
                try simp only [Act.put, List.getElem_toArray, List.getElem_cons_succ, List.getElem_cons_zero, List.setIfInBounds_toArray, List.set_cons_zero, List.set_cons_succ]
                have HSwa := Lib.hid hHeld.2.2
                have Hpp := Lib.hid hpp
                have Hxx := Lib.hid hxx
                clear hpp hxx hb'
                refine wpAnyT_take (i := 9) (v := ?_) rfl (by decide +kernel) (by decide +kernel) (by decide +kernel) (by decide +kernel) (by decide +kernel) (fun _ _ _ h => h) (Or.inl ⟨by rfl, ?_⟩) (by assumption) ?_
                rotate_left
                · intro w hSw; (try dsimp only at hSw); first | (go_simp; done) | (go_simp; with_reducible rfl)
                try simp only [Act.put, List.getElem_toArray, List.getElem_cons_succ, List.getElem_cons_zero, List.setIfInBounds_toArray, List.set_cons_zero, List.set_cons_succ]
                refine wpAnyT_take (i := 10) (v := ?_) rfl (by decide +kernel) (by decide +kernel) (by decide +kernel) (by decide +kernel) (by decide +kernel) (fun _ _ _ h => h) (Or.inl ⟨by rfl, ?_⟩) (by assumption) ?_
                rotate_left
                · intro w hSw; (try dsimp only at hSw); first | (go_simp; done) | (go_simp; with_reducible rfl)
                try simp only [Act.put, List.getElem_toArray, List.getElem_cons_succ, List.getElem_cons_zero, List.setIfInBounds_toArray, List.set_cons_zero, List.set_cons_succ]
                refine wpAnyT_take (i := 11) (v := ?_) rfl (by decide +kernel) (by decide +kernel) (by decide +kernel) (by decide +kernel) (by decide +kernel) (fun _ _ _ h => h) (Or.inl ⟨by rfl, ?_⟩) (by assumption) ?_
                rotate_left
                · intro w hSw; (try dsimp only at hSw); first | (go_simp; done) | (go_simp; with_reducible rfl)
                try simp only [Act.put, List.getElem_toArray, List.getElem_cons_succ, List.getElem_cons_zero, List.setIfInBounds_toArray, List.set_cons_zero, List.set_cons_succ]
                refine wpAnyT_take (i := 12) (v := ?_) rfl (by decide +kernel) (by decide +kernel) (by decide +kernel) (by decide +kernel) (by decide +kernel) (fun _ _ _ h => h) (Or.inl ⟨by rfl, ?_⟩) (by assumption) ?_
                rotate_left
                · intro w hSw; (try dsimp only at hSw); first | (go_simp; done) | (go_simp; with_reducible rfl)
                try simp only [Act.put, List.getElem_toArray, List.getElem_cons_succ, List.getElem_cons_zero, List.setIfInBounds_toArray, List.set_cons_zero, List.set_cons_succ]
                refine wpAnyT_take (i := 13) (v := ?_) rfl (by decide +kernel) (by decide +kernel) (by decide +kernel) (by decide +kernel) (by decide +kernel) (fun _ _ _ h => h) (Or.inl ⟨by rfl, ?_⟩) (by assumption) ?_
                rotate_left
                · intro w hSw; (try dsimp only at hSw); first | (go_simp; done) | (go_simp; with_reducible rfl)
                try simp only [Act.put, List.getElem_toArray, List.getElem_cons_succ, List.getElem_cons_zero, List.setIfInBounds_toArray, List.set_cons_zero, List.set_cons_succ]
                refine wpAnyT_take (i := 14) (v := ?_) rfl (by decide +kernel) (by decide +kernel) (by decide +kernel) (by decide +kernel) (by decide +kernel) (fun _ _ _ h => h) (Or.inl ⟨by rfl, ?_⟩) (by assumption) ?_
                rotate_left
                · intro w hSw; (try dsimp only at hSw); first | (go_simp; done) | (go_simp; with_reducible rfl)
                try simp only [Act.put, List.getElem_toArray, List.getElem_cons_succ, List.getElem_cons_zero, List.setIfInBounds_toArray, List.set_cons_zero, List.set_cons_succ]
                refine wpAnyT_last (i := 15) (by kernel_rfl) (by kernel_rfl) rfl (by kernel_rfl) (fun K hK => ?_)
                go_simp
                refine hK.out _ _ ?_
                clear hK K
                try simp only [Act.put, List.getElem_toArray, List.getElem_cons_succ, List.getElem_cons_zero, List.setIfInBounds_toArray, List.set_cons_zero, List.set_cons_succ]
                clear hHeld
                have HBX1 : Hid (Below wf.heap.size wf wa) := HBX0.out.trans (HSwa.out.mono HBX0.out.size)
                have HIK1 := Lib.hid (HIK.out.of_below HSwa.out)
                clear HIK HSwa
                have HIK := Lib.hid HIK1.out
                clear HIK1
                have cL := (HBX1.out.cell (p := ⟨L, k, none⟩) HLT.out.1).trans HCL.out
                have cT := (HBX1.out.cell (p := ⟨TL, k, none⟩) HLT.out.2.1).trans HCT.out
                go_upto_region 17 with fail
                refine wp_region_T (S := (fun w' => w'.cell? ⟨L, k, none⟩ = some u ∧ w'.cell? ⟨TL, k, none⟩ = some (.int .i64 tm) ∧ Below wa.heap.size wa w')) 15 (by kernel_rfl) (⟨cL, cT, (Below.refl _ _).drew⟩) (fun hHeld => ?_)
                clear cL cT
                refine wpAnyT_take (i := 0) (v := ?_) rfl (by decide +kernel) (by decide +kernel) (by decide +kernel) (by decide +kernel) (by decide +kernel) (fun _ _ _ h => h) (Or.inl ⟨by rfl, ?_⟩) (by assumption) ?_
                rotate_left
                · intro w hSw; (try dsimp only at hSw); first | (go_simp; done) | (go_simp; with_reducible rfl)
                try simp only [Act.put, List.getElem_toArray, List.getElem_cons_succ, List.getElem_cons_zero, List.setIfInBounds_toArray, List.set_cons_zero, List.set_cons_succ]
                refine wpAnyT_take (i := 1) (v := ?_) rfl (by decide +kernel) (by decide +kernel) (by decide +kernel) (by decide +kernel) (by decide +kernel) (fun _ _ _ h => h) (Or.inl ⟨by rfl, ?_⟩) (by assumption) ?_
                rotate_left
                · intro w hSw; (try dsimp only at hSw); first | (go_simp; done) | (go_simp; with_reducible rfl)
                try simp only [Act.put, List.getElem_toArray, List.getElem_cons_succ, List.getElem_cons_zero, List.setIfInBounds_toArray, List.set_cons_zero, List.set_cons_succ]
                refine wpAnyT_take (i := 2) (v := ?_) rfl (by decide +kernel) (by decide +kernel) (by decide +kernel) (by decide +kernel) (by decide +kernel) (fun _ _ _ h => h) (Or.inl ⟨by rfl, ?_⟩) (by assumption) ?_
                rotate_left
                · intro w hSw; (try dsimp only at hSw); first | (go_simp; done) | (go_simp; with_reducible rfl)
                try simp only [Act.put, List.getElem_toArray, List.getElem_cons_succ, List.getElem_cons_zero, List.setIfInBounds_toArray, List.set_cons_zero, List.set_cons_succ]
                refine wpAnyT_take (i := 3) (v := ?_) rfl (by decide +kernel) (by decide +kernel) (by decide +kernel) (by decide +kernel) (by decide +kernel) (fun _ _ _ h => h) (Or.inl ⟨by rfl, ?_⟩) (by assumption) ?_
                rotate_left
                · intro w hSw; (try dsimp only at hSw); first | (go_simp; done) | (go_simp; with_reducible rfl)
                try simp only [Act.put, List.getElem_toArray, List.getElem_cons_succ, List.getElem_cons_zero, List.setIfInBounds_toArray, List.set_cons_zero, List.set_cons_succ]
                refine wpAnyT_take (i := 4) (v := ?_) rfl (by decide +kernel) (by decide +kernel) (by decide +kernel) (by decide +kernel) (by decide +kernel) (fun _ _ _ h => h) (Or.inl ⟨by rfl, ?_⟩) (by assumption) ?_
                rotate_left
                · intro w hSw; (try dsimp only at hSw); first | (go_simp; done) | (go_simp; with_reducible rfl)
                try simp only [Act.put, List.getElem_toArray, List.getElem_cons_succ, List.getElem_cons_zero, List.setIfInBounds_toArray, List.set_cons_zero, List.set_cons_succ]
                refine wpAnyT_take (i := 5) (v := ?_) rfl (by decide +kernel) (by decide +kernel) (by decide +kernel) (by decide +kernel) (by decide +kernel) (fun _ _ _ h => h) (Or.inl ⟨by rfl, ?_⟩) (by assumption) ?_
                rotate_left
                · intro w hSw; (try dsimp only at hSw); first | (go_simp; done) | (go_simp; with_reducible rfl)
                try simp only [Act.put, List.getElem_toArray, List.getElem_cons_succ, List.getElem_cons_zero, List.setIfInBounds_toArray, List.set_cons_zero, List.set_cons_succ]
                refine wpAnyT_take (i := 6) (v := ?_) rfl (by decide +kernel) (by decide +kernel) (by decide +kernel) (by decide +kernel) (by decide +kernel) (fun _ _ _ h => h) (Or.inl ⟨by rfl, ?_⟩) (by assumption) ?_
                rotate_left
                · intro w hSw; (try dsimp only at hSw); first | (go_simp; done) | (go_simp; with_reducible rfl)
                try simp only [Act.put, List.getElem_toArray, List.getElem_cons_succ, List.getElem_cons_zero, List.setIfInBounds_toArray, List.set_cons_zero, List.set_cons_succ]
                refine wpAnyT_take (i := 7) (v := ?_) rfl (by decide +kernel) (by decide +kernel) (by decide +kernel) (by decide +kernel) (by decide +kernel) (fun _ _ _ h => h) (Or.inl ⟨by rfl, ?_⟩) (by assumption) ?_
                rotate_left
                · intro w hSw; (try dsimp only at hSw); first | (go_simp; done) | (go_simp; with_reducible rfl)
                try simp only [Act.put, List.getElem_toArray, List.getElem_cons_succ, List.getElem_cons_zero, List.setIfInBounds_toArray, List.set_cons_zero, List.set_cons_succ]
                refine wpAnyT_one (i := 8) (by kernel_rfl) rfl (fun K hK => ?_)
                go_simp
                (refine (radvance_any _ lk tm _ (HIK.out.of_below hHeld.2.2)).mono ?_; rintro e wb ⟨qq, yy, rfl, hqq, hyy, hb'⟩; rw [HE.out])
                refine hK.out _ _ ?_ (fun hHeld2 => ?_)
                · (try dsimp only); exact ⟨(hb'.cell (p := ⟨L, k, none⟩) (World.block_lt_of_cell? _ _ hHeld.1)).trans hHeld.1, (hb'.cell (p := ⟨TL, k, none⟩) (World.block_lt_of_cell? _ _ hHeld.2.1)).trans hHeld.2.1, hHeld.2.2.trans (hb'.mono hHeld.2.2.size)⟩
                clear hK K hHeld
                have hHeld := hHeld2
                clear hHeld2
                try simp only [Act.put, List.getElem_toArray, List.getElem_cons_succ, List.getElem_cons_zero, List.setIfInBounds_toArray, List.set_cons_zero, List.set_cons_succ]
                have HSwb := Lib.hid hHeld.2.2
                have Hqq := Lib.hid hqq
                have Hyy := Lib.hid hyy
                clear hqq hyy hb'
                refine wpAnyT_take (i := 9) (v := ?_) rfl (by decide +kernel) (by decide +kernel) (by decide +kernel) (by decide +kernel) (by decide +kernel) (fun _ _ _ h => h) (Or.inl ⟨by rfl, ?_⟩) (by assumption) ?_
                rotate_left
                · intro w hSw; (try dsimp only at hSw); first | (go_simp; done) | (go_simp; with_reducible rfl)
                try simp only [Act.put, List.getElem_toArray, List.getElem_cons_succ, List.getElem_cons_zero, List.setIfInBounds_toArray, List.set_cons_zero, List.set_cons_succ]
                refine wpAnyT_take (i := 10) (v := ?_) rfl (by decide +kernel) (by decide +kernel) (by decide +kernel) (by decide +kernel) (by decide +kernel) (fun _ _ _ h => h) (Or.inl ⟨by rfl, ?_⟩) (by assumption) ?_
                rotate_left
                · intro w hSw; (try dsimp only at hSw); first | (go_simp; done) | (go_simp; with_reducible rfl)
                try simp only [Act.put, List.getElem_toArray, List.getElem_cons_succ, List.getElem_cons_zero, List.setIfInBounds_toArray, List.set_cons_zero, List.set_cons_succ]
                refine wpAnyT_take (i := 11) (v := ?_) rfl (by decide +kernel) (by decide +kernel) (by decide +kernel) (by decide +kernel) (by decide +kernel) (fun _ _ _ h => h) (Or.inl ⟨by rfl, ?_⟩) (by assumption) ?_
                rotate_left
                · intro w hSw; (try dsimp only at hSw); first | (go_simp; done) | (go_simp; with_reducible rfl)
                try simp only [Act.put, List.getElem_toArray, List.getElem_cons_succ, List.getElem_cons_zero, List.setIfInBounds_toArray, List.set_cons_zero, List.set_cons_succ]
                refine wpAnyT_take (i := 12) (v := ?_) rfl (by decide +kernel) (by decide +kernel) (by decide +kernel) (by decide +kernel) (by decide +kernel) (fun _ _ _ h => h) (Or.inl ⟨by rfl, ?_⟩) (by assumption) ?_
                rotate_left
                · intro w hSw; (try dsimp only at hSw); first | (go_simp; done) | (go_simp; with_reducible rfl)
                try simp only [Act.put, List.getElem_toArray, List.getElem_cons_succ, List.getElem_cons_zero, List.setIfInBounds_toArray, List.set_cons_zero, List.set_cons_succ]
                refine wpAnyT_take (i := 13) (v := ?_) rfl (by decide +kernel) (by decide +kernel) (by decide +kernel) (by decide +kernel) (by decide +kernel) (fun _ _ _ h => h) (Or.inl ⟨by rfl, ?_⟩) (by assumption) ?_
                rotate_left
                · intro w hSw; (try dsimp only at hSw); first | (go_simp; done) | (go_simp; with_reducible rfl)
                try simp only [Act.put, List.getElem_toArray, List.getElem_cons_succ, List.getElem_cons_zero, List.setIfInBounds_toArray, List.set_cons_zero, List.set_cons_succ]
                refine wpAnyT_take (i := 14) (v := ?_) rfl (by decide +kernel) (by decide +kernel) (by decide +kernel) (by decide +kernel) (by decide +kernel) (fun _ _ _ h => h) (Or.inl ⟨by rfl, ?_⟩) (by assumption) ?_
                rotate_left
                · intro w hSw; (try dsimp only at hSw); first | (go_simp; done) | (go_simp; with_reducible rfl)
                try simp only [Act.put, List.getElem_toArray, List.getElem_cons_succ, List.getElem_cons_zero, List.setIfInBounds_toArray, List.set_cons_zero, List.set_cons_succ]
                refine wpAnyT_last (i := 15) (by kernel_rfl) (by kernel_rfl) rfl (by kernel_rfl) (fun K hK => ?_)
                go_simp
                refine hK.out _ _ ?_
                clear hK K
                try simp only [Act.put, List.getElem_toArray, List.getElem_cons_succ, List.getElem_cons_zero, List.setIfInBounds_toArray, List.set_cons_zero, List.set_cons_succ]
                clear hHeld
                have HBX2 : Hid (Below wf.heap.size wf wb) := HBX1.out.trans (HSwb.out.mono HBX1.out.size)
                have HIK2 := Lib.hid (HIK.out.of_below HSwb.out)
                have Hpp2 := Lib.hid (Hpp.out.of_below HSwb.out)
                have Hxx2 := Lib.hid (Hxx.out.of_below HSwb.out)
                clear HIK HSwb Hpp Hxx
                go_wp2_with fail
                refine (equal_same _ _ _ _ Hpp2.out Hqq.out).mono ?_
                rintro e wc ⟨rfl, n1, rfl⟩
                go_wp2_with fail
                refine (eqmot_same _ _ (advOut lk tm) _ (Hxx2.out.of_below (Joins.below_draws _ _ _)) (Hyy.out.of_below (Joins.below_draws _ _ _)) HOUT.out).mono ?_
                rintro e wc ⟨rfl, n2, rfl⟩
                clear Hpp2 Hqq Hxx2 Hyy
                obtain ⟨wc, hwc⟩ : ∃ x, (wb.drewN n1).drewN n2 = x := ⟨_, rfl⟩
                have HDR : Hid (Below wb.heap.size wb wc) := by show Below _ _ _; rw [← hwc]; exact (Joins.below_draws _ _ _).trans (Joins.below_draws _ _ _)
                have HBX3 : Hid (Below wf.heap.size wf wc) := HBX2.out.trans (HDR.out.mono HBX2.out.size)
                have HIK3 := Lib.hid (HIK2.out.of_below HDR.out)
                rw [hwc]
                clear hwc HIK2 HDR HBX2 HE
                have hoff := HNC.out k hk3
                obtain ⟨gg, hgg⟩ : ∃ g, ga news k = g := ⟨_, rfl⟩
                rw [hgg] at hoff
                obtain ⟨g0, g1, g2, g3, g4, g5, g6, g7, g8, g9, g10, g11, g12, g13, g14, g15⟩ := gg
                have HOF := Lib.hid hoff
                obtain ⟨E2, hE2⟩ : ∃ E, setErr lk (⟨g0, g1, g2, g3, g4, g5, g6, g7, g8, g9, g10, g11, g12, g13, g14, g15⟩ : Anim) tm = E := ⟨_, rfl⟩
                have HE2 := Lib.hid hE2
                clear hgg hoff hE2
                have hof20 := HOF.out.kept HBX3.out HLT.out.2.2
                obtain ⟨c0, c1, c2, c3, c4, c5, c6, c7, c8, c9, c10, c11, c12, c13, c14, c15⟩ := hof20
                simp only at c0 c1 c2 c3 c4 c5 c6 c7 c8 c9 c10 c11 c12 c13 c14 c15
                have cL := (HBX3.out.cell (p := ⟨L, k, none⟩) HLT.out.1).trans HCL.out
                have cT := (HBX3.out.cell (p := ⟨TL, k, none⟩) HLT.out.2.1).trans HCT.out
                go_upto_region 20 with fail
                refine wp_region_T (S := (fun w' => w'.cell? ⟨NL, k * 16, none⟩ = some (.int .i64 g0) ∧ w'.cell? ⟨NL, k * 16 + 1, none⟩ = some (.int .i64 g1) ∧ w'.cell? ⟨NL, k * 16 + 2, none⟩ = some (.int .i64 g2) ∧ w'.cell? ⟨NL, k * 16 + 3, none⟩ = some (.int .i64 g3) ∧ w'.cell? ⟨NL, k * 16 + 4, none⟩ = some (.int .i64 g4) ∧ w'.cell? ⟨NL, k * 16 + 5, none⟩ = some (.int .i64 g5) ∧ w'.cell? ⟨NL, k * 16 + 6, none⟩ = some (.int .i64 g6) ∧ w'.cell? ⟨NL, k * 16 + 7, none⟩ = some (.int .i64 g7) ∧ w'.cell? ⟨NL, k * 16 + 8, none⟩ = some (.int .i64 g8) ∧ w'.cell? ⟨NL, k * 16 + 9, none⟩ = some (.int .i64 g9) ∧ w'.cell? ⟨NL, k * 16 + 10, none⟩ = some (.int .i64 g10) ∧ w'.cell? ⟨NL, k * 16 + 11, none⟩ = some (.int .i64 g11) ∧ w'.cell? ⟨NL, k * 16 + 12, none⟩ = some (.int .i64 g12) ∧ w'.cell? ⟨NL, k * 16 + 13, none⟩ = some (.int .i64 g13) ∧ w'.cell? ⟨NL, k * 16 + 14, none⟩ = some (.int .i64 g14) ∧ w'.cell? ⟨NL, k * 16 + 15, none⟩ = some (.int .i64 g15) ∧ w'.cell? ⟨L, k, none⟩ = some u ∧ w'.cell? ⟨TL, k, none⟩ = some (.int .i64 tm) ∧ Below wc.heap.size wc w')) 17 (by kernel_rfl) (⟨c0, c1, c2, c3, c4, c5, c6, c7, c8, c9, c10, c11, c12, c13, c14, c15, cL, cT, (Below.refl _ _).drew⟩) (fun hHeld => ?_)
                clear c0 c1 c2 c3 c4 c5 c6 c7 c8 c9 c10 c11 c12 c13 c14 c15 cL cT
                refine wpAnyT_take (i := 0) (v := ?_) rfl (by decide +kernel) (by decide +kernel) (by decide +kernel) (by decide +kernel) (by decide +kernel) (fun _ _ _ h => h) (Or.inl ⟨by rfl, ?_⟩) (by assumption) ?_
                rotate_left
                · intro w hSw; (try dsimp only at hSw); first | (go_simp; done) | (go_simp; with_reducible rfl)
                try simp only [Act.put, List.getElem_toArray, List.getElem_cons_succ, List.getElem_cons_zero, List.setIfInBounds_toArray, List.set_cons_zero, List.set_cons_succ]
                refine wpAnyT_take (i := 1) (v := ?_) rfl (by decide +kernel) (by decide +kernel) (by decide +kernel) (by decide +kernel) (by decide +kernel) (fun _ _ _ h => h) (Or.inl ⟨by rfl, ?_⟩) (by assumption) ?_
                rotate_left
                · intro w hSw; (try dsimp only at hSw); first | (go_simp; done) | (go_simp; with_reducible rfl)
                try simp only [Act.put, List.getElem_toArray, List.getElem_cons_succ, List.getElem_cons_zero, List.setIfInBounds_toArray, List.set_cons_zero, List.set_cons_succ]
                refine wpAnyT_take (i := 2) (v := ?_) rfl (by decide +kernel) (by decide +kernel) (by decide +kernel) (by decide +kernel) (by decide +kernel) (fun _ _ _ h => h) (Or.inl ⟨by rfl, ?_⟩) (by assumption) ?_
                rotate_left
                · intro w hSw; (try dsimp only at hSw); first | (go_simp; done) | (go_simp; with_reducible rfl)
                try simp only [Act.put, List.getElem_toArray, List.getElem_cons_succ, List.getElem_cons_zero, List.setIfInBounds_toArray, List.set_cons_zero, List.set_cons_succ]
                refine wpAnyT_take (i := 3) (v := ?_) rfl (by decide +kernel) (by decide +kernel) (by decide +kernel) (by decide +kernel) (by decide +kernel) (fun _ _ _ h => h) (Or.inl ⟨by rfl, ?_⟩) (by assumption) ?_
                rotate_left
                · intro w hSw; (try dsimp only at hSw); first | (go_simp; done) | (go_simp; with_reducible rfl)
                try simp only [Act.put, List.getElem_toArray, List.getElem_cons_succ, List.getElem_cons_zero, List.setIfInBounds_toArray, List.set_cons_zero, List.set_cons_succ]
                refine wpAnyT_take (i := 4) (v := ?_) rfl (by decide +kernel) (by decide +kernel) (by decide +kernel) (by decide +kernel) (by decide +kernel) (fun _ _ _ h => h) (Or.inl ⟨by rfl, ?_⟩) (by assumption) ?_
                rotate_left
                · intro w hSw; (try dsimp only at hSw); first | (go_simp; done) | (go_simp; with_reducible rfl)
                try simp only [Act.put, List.getElem_toArray, List.getElem_cons_succ, List.getElem_cons_zero, List.setIfInBounds_toArray, List.set_cons_zero, List.set_cons_succ]
                refine wpAnyT_take (i := 5) (v := ?_) rfl (by decide +kernel) (by decide +kernel) (by decide +kernel) (by decide +kernel) (by decide +kernel) (fun _ _ _ h => h) (Or.inl ⟨by rfl, ?_⟩) (by assumption) ?_
                rotate_left
                · intro w hSw; (try dsimp only at hSw); first | (go_simp; done) | (go_simp; with_reducible rfl)
                try simp only [Act.put, List.getElem_toArray, List.getElem_cons_succ, List.getElem_cons_zero, List.setIfInBounds_toArray, List.set_cons_zero, List.set_cons_succ]
                refine wpAnyT_take (i := 6) (v := ?_) rfl (by decide +kernel) (by decide +kernel) (by decide +kernel) (by decide +kernel) (by decide +kernel) (fun _ _ _ h => h) (Or.inl ⟨by rfl, ?_⟩) (by assumption) ?_
                rotate_left
                · intro w hSw; (try dsimp only at hSw); first | (go_simp; done) | (go_simp; with_reducible rfl)
                try simp only [Act.put, List.getElem_toArray, List.getElem_cons_succ, List.getElem_cons_zero, List.setIfInBounds_toArray, List.set_cons_zero, List.set_cons_succ]
                refine wpAnyT_take (i := 7) (v := ?_) rfl (by decide +kernel) (by decide +kernel) (by decide +kernel) (by decide +kernel) (by decide +kernel) (fun _ _ _ h => h) (Or.inl ⟨by rfl, ?_⟩) (by assumption) ?_
                rotate_left
                · intro w hSw; (try dsimp only at hSw); first | (go_simp; done) | (go_simp; with_reducible rfl)
                try simp only [Act.put, List.getElem_toArray, List.getElem_cons_succ, List.getElem_cons_zero, List.setIfInBounds_toArray, List.set_cons_zero, List.set_cons_succ]
                refine wpAnyT_take (i := 8) (v := ?_) rfl (by decide +kernel) (by decide +kernel) (by decide +kernel) (by decide +kernel) (by decide +kernel) (fun _ _ _ h => h) (Or.inl ⟨by rfl, ?_⟩) (by assumption) ?_
                rotate_left
                · intro w hSw; (try dsimp only at hSw); first | (go_simp; done) | (go_simp; with_reducible rfl)
                try simp only [Act.put, List.getElem_toArray, List.getElem_cons_succ, List.getElem_cons_zero, List.setIfInBounds_toArray, List.set_cons_zero, List.set_cons_succ]
                refine wpAnyT_take (i := 9) (v := ?_) rfl (by decide +kernel) (by decide +kernel) (by decide +kernel) (by decide +kernel) (by decide +kernel) (fun _ _ _ h => h) (Or.inl ⟨by rfl, ?_⟩) (by assumption) ?_
                rotate_left
                · intro w hSw; (try dsimp only at hSw); first | (go_simp; done) | (go_simp; with_reducible rfl)
                try simp only [Act.put, List.getElem_toArray, List.getElem_cons_succ, List.getElem_cons_zero, List.setIfInBounds_toArray, List.set_cons_zero, List.set_cons_succ]
                refine wpAnyT_take (i := 10) (v := ?_) rfl (by decide +kernel) (by decide +kernel) (by decide +kernel) (by decide +kernel) (by decide +kernel) (fun _ _ _ h => h) (Or.inl ⟨by rfl, ?_⟩) (by assumption) ?_
                rotate_left
                · intro w hSw; (try dsimp only at hSw); first | (go_simp; done) | (go_simp; with_reducible rfl)
                try simp only [Act.put, List.getElem_toArray, List.getElem_cons_succ, List.getElem_cons_zero, List.setIfInBounds_toArray, List.set_cons_zero, List.set_cons_succ]
                refine wpAnyT_take (i := 11) (v := ?_) rfl (by decide +kernel) (by decide +kernel) (by decide +kernel) (by decide +kernel) (by decide +kernel) (fun _ _ _ h => h) (Or.inl ⟨by rfl, ?_⟩) (by assumption) ?_
                rotate_left
                · intro w hSw; (try dsimp only at hSw); first | (go_simp; done) | (go_simp; with_reducible rfl)
                try simp only [Act.put, List.getElem_toArray, List.getElem_cons_succ, List.getElem_cons_zero, List.setIfInBounds_toArray, List.set_cons_zero, List.set_cons_succ]
                refine wpAnyT_one (i := 12) (by kernel_rfl) rfl (fun K hK => ?_)
                go_simp
                (refine (set_any _ lk _ _ _ _ _ _ _ _ _ _ _ _ _ _ _ _ tm _ (HIK3.out.of_below hHeld.2.2.2.2.2.2.2.2.2.2.2.2.2.2.2.2.2.2)).mono ?_; rintro e wd ⟨ps, rfl, hps, hb'⟩; rw [HE2.out])
                refine hK.out _ _ ?_ (fun hHeld2 => ?_)
                · (try dsimp only); exact ⟨(hb'.cell (p := ⟨NL, k * 16, none⟩) (World.block_lt_of_cell? _ _ hHeld.1)).trans hHeld.1, (hb'.cell (p := ⟨NL, k * 16 + 1, none⟩) (World.block_lt_of_cell? _ _ hHeld.2.1)).trans hHeld.2.1, (hb'.cell (p := ⟨NL, k * 16 + 2, none⟩) (World.block_lt_of_cell? _ _ hHeld.2.2.1)).trans hHeld.2.2.1, (hb'.cell (p := ⟨NL, k * 16 + 3, none⟩) (World.block_lt_of_cell? _ _ hHeld.2.2.2.1)).trans hHeld.2.2.2.1, (hb'.cell (p := ⟨NL, k * 16 + 4, none⟩) (World.block_lt_of_cell? _ _ hHeld.2.2.2.2.1)).trans hHeld.2.2.2.2.1, (hb'.cell (p := ⟨NL, k * 16 + 5, none⟩) (World.block_lt_of_cell? _ _ hHeld.2.2.2.2.2.1)).trans hHeld.2.2.2.2.2.1, (hb'.cell (p := ⟨NL, k * 16 + 6, none⟩) (World.block_lt_of_cell? _ _ hHeld.2.2.2.2.2.2.1)).trans hHeld.2.2.2.2.2.2.1, (hb'.cell (p := ⟨NL, k * 16 + 7, none⟩) (World.block_lt_of_cell? _ _ hHeld.2.2.2.2.2.2.2.1)).trans hHeld.2.2.2.2.2.2.2.1, (hb'.cell (p := ⟨NL, k * 16 + 8, none⟩) (World.block_lt_of_cell? _ _ hHeld.2.2.2.2.2.2.2.2.1)).trans hHeld.2.2.2.2.2.2.2.2.1, (hb'.cell (p := ⟨NL, k * 16 + 9, none⟩) (World.block_lt_of_cell? _ _ hHeld.2.2.2.2.2.2.2.2.2.1)).trans hHeld.2.2.2.2.2.2.2.2.2.1, (hb'.cell (p := ⟨NL, k * 16 + 10, none⟩) (World.block_lt_of_cell? _ _ hHeld.2.2.2.2.2.2.2.2.2.2.1)).trans hHeld.2.2.2.2.2.2.2.2.2.2.1, (hb'.cell (p := ⟨NL, k * 16 + 11, none⟩) (World.block_lt_of_cell? _ _ hHeld.2.2.2.2.2.2.2.2.2.2.2.1)).trans hHeld.2.2.2.2.2.2.2.2.2.2.2.1, (hb'.cell (p := ⟨NL, k * 16 + 12, none⟩) (World.block_lt_of_cell? _ _ hHeld.2.2.2.2.2.2.2.2.2.2.2.2.1)).trans hHeld.2.2.2.2.2.2.2.2.2.2.2.2.1, (hb'.cell (p := ⟨NL, k * 16 + 13, none⟩) (World.block_lt_of_cell? _ _ hHeld.2.2.2.2.2.2.2.2.2.2.2.2.2.1)).trans hHeld.2.2.2.2.2.2.2.2.2.2.2.2.2.1, (hb'.cell (p := ⟨NL, k * 16 + 14, none⟩) (World.block_lt_of_cell? _ _ hHeld.2.2.2.2.2.2.2.2.2.2.2.2.2.2.1)).trans hHeld.2.2.2.2.2.2.2.2.2.2.2.2.2.2.1, (hb'.cell (p := ⟨NL, k * 16 + 15, none⟩) (World.block_lt_of_cell? _ _ hHeld.2.2.2.2.2.2.2.2.2.2.2.2.2.2.2.1)).trans hHeld.2.2.2.2.2.2.2.2.2.2.2.2.2.2.2.1, (hb'.cell (p := ⟨L, k, none⟩) (World.block_lt_of_cell? _ _ hHeld.2.2.2.2.2.2.2.2.2.2.2.2.2.2.2.2.1)).trans hHeld.2.2.2.2.2.2.2.2.2.2.2.2.2.2.2.2.1, (hb'.cell (p := ⟨TL, k, none⟩) (World.block_lt_of_cell? _ _ hHeld.2.2.2.2.2.2.2.2.2.2.2.2.2.2.2.2.2.1)).trans hHeld.2.2.2.2.2.2.2.2.2.2.2.2.2.2.2.2.2.1, hHeld.2.2.2.2.2.2.2.2.2.2.2.2.2.2.2.2.2.2.trans (hb'.mono hHeld.2.2.2.2.2.2.2.2.2.2.2.2.2.2.2.2.2.2.size)⟩
                clear hK K hHeld
                have hHeld := hHeld2
                clear hHeld2
                try simp only [Act.put, List.getElem_toArray, List.getElem_cons_succ, List.getElem_cons_zero, List.setIfInBounds_toArray, List.set_cons_zero, List.set_cons_succ]
                have HSwd := Lib.hid hHeld.2.2.2.2.2.2.2.2.2.2.2.2.2.2.2.2.2.2
                have Hps := Lib.hid hps
                clear hps hb'
                refine wpAnyT_take (i := 13) (v := ?_) rfl (by decide +kernel) (by decide +kernel) (by decide +kernel) (by decide +kernel) (by decide +kernel) (fun _ _ _ h => h) (Or.inl ⟨by rfl, ?_⟩) (by assumption) ?_
                rotate_left
                · intro w hSw; (try dsimp only at hSw); first | (go_simp; done) | (go_simp; with_reducible rfl)
                try simp only [Act.put, List.getElem_toArray, List.getElem_cons_succ, List.getElem_cons_zero, List.setIfInBounds_toArray, List.set_cons_zero, List.set_cons_succ]
                refine wpAnyT_take (i := 14) (v := ?_) rfl (by decide +kernel) (by decide +kernel) (by decide +kernel) (by decide +kernel) (by decide +kernel) (fun _ _ _ h => h) (Or.inl ⟨by rfl, ?_⟩) (by assumption) ?_
                rotate_left
                · intro w hSw; (try dsimp only at hSw); first | (go_simp; done) | (go_simp; with_reducible rfl)
                try simp only [Act.put, List.getElem_toArray, List.getElem_cons_succ, List.getElem_cons_zero, List.setIfInBounds_toArray, List.set_cons_zero, List.set_cons_succ]
                refine wpAnyT_take (i := 15) (v := ?_) rfl (by decide +kernel) (by decide +kernel) (by decide +kernel) (by decide +kernel) (by decide +kernel) (fun _ _ _ h => h) (Or.inl ⟨by rfl, ?_⟩) (by assumption) ?_
                rotate_left
                · intro w hSw; (try dsimp only at hSw); first | (go_simp; done) | (go_simp; with_reducible rfl)
                try simp only [Act.put, List.getElem_toArray, List.getElem_cons_succ, List.getElem_cons_zero, List.setIfInBounds_toArray, List.set_cons_zero, List.set_cons_succ]
                refine wpAnyT_take (i := 16) (v := ?_) rfl (by decide +kernel) (by decide +kernel) (by decide +kernel) (by decide +kernel) (by decide +kernel) (fun _ _ _ h => h) (Or.inl ⟨by rfl, ?_⟩) (by assumption) ?_
                rotate_left
                · intro w hSw; (try dsimp only at hSw); first | (go_simp; done) | (go_simp; with_reducible rfl)
                try simp only [Act.put, List.getElem_toArray, List.getElem_cons_succ, List.getElem_cons_zero, List.setIfInBounds_toArray, List.set_cons_zero, List.set_cons_succ]
                refine wpAnyT_last (i := 17) (by kernel_rfl) (by kernel_rfl) rfl (by kernel_rfl) (fun K hK => ?_)
                go_simp
                refine hK.out _ _ ?_
                clear hK K
                try simp only [Act.put, List.getElem_toArray, List.getElem_cons_succ, List.getElem_cons_zero, List.setIfInBounds_toArray, List.set_cons_zero, List.set_cons_succ]
                clear hHeld
                have HBX4 : Hid (Below wf.heap.size wf wd) := HBX3.out.trans (HSwd.out.mono HBX3.out.size)
                have HIK4 := Lib.hid (HIK3.out.of_below HSwd.out)
                clear HIK3 HSwd
                have hof21 := HOF.out.kept HBX4.out HLT.out.2.2
                obtain ⟨c0, c1, c2, c3, c4, c5, c6, c7, c8, c9, c10, c11, c12, c13, c14, c15⟩ := hof21
                simp only at c0 c1 c2 c3 c4 c5 c6 c7 c8 c9 c10 c11 c12 c13 c14 c15
                have cL := (HBX4.out.cell (p := ⟨L, k, none⟩) HLT.out.1).trans HCL.out
                have cT := (HBX4.out.cell (p := ⟨TL, k, none⟩) HLT.out.2.1).trans HCT.out
                go_upto_region 21 with fail
                refine wp_region_T (S := (fun w' => w'.cell? ⟨NL, k * 16, none⟩ = some (.int .i64 g0) ∧ w'.cell? ⟨NL, k * 16 + 1, none⟩ = some (.int .i64 g1) ∧ w'.cell? ⟨NL, k * 16 + 2, none⟩ = some (.int .i64 g2) ∧ w'.cell? ⟨NL, k * 16 + 3, none⟩ = some (.int .i64 g3) ∧ w'.cell? ⟨NL, k * 16 + 4, none⟩ = some (.int .i64 g4) ∧ w'.cell? ⟨NL, k * 16 + 5, none⟩ = some (.int .i64 g5) ∧ w'.cell? ⟨NL, k * 16 + 6, none⟩ = some (.int .i64 g6) ∧ w'.cell? ⟨NL, k * 16 + 7, none⟩ = some (.int .i64 g7) ∧ w'.cell? ⟨NL, k * 16 + 8, none⟩ = some (.int .i64 g8) ∧ w'.cell? ⟨NL, k * 16 + 9, none⟩ = some (.int .i64 g9) ∧ w'.cell? ⟨NL, k * 16 + 10, none⟩ = some (.int .i64 g10) ∧ w'.cell? ⟨NL, k * 16 + 11, none⟩ = some (.int .i64 g11) ∧ w'.cell? ⟨NL, k * 16 + 12, none⟩ = some (.int .i64 g12) ∧ w'.cell? ⟨NL, k * 16 + 13, none⟩ = some (.int .i64 g13) ∧ w'.cell? ⟨NL, k * 16 + 14, none⟩ = some (.int .i64 g14) ∧ w'.cell? ⟨NL, k * 16 + 15, none⟩ = some (.int .i64 g15) ∧ w'.cell? ⟨L, k, none⟩ = some u ∧ w'.cell? ⟨TL, k, none⟩ = some (.int .i64 tm) ∧ Below wd.heap.size wd w')) 17 (by kernel_rfl) (⟨c0, c1, c2, c3, c4, c5, c6, c7, c8, c9, c10, c11, c12, c13, c14, c15, cL, cT, (Below.refl _ _).drew⟩) (fun hHeld => ?_)
                clear c0 c1 c2 c3 c4 c5 c6 c7 c8 c9 c10 c11 c12 c13 c14 c15 cL cT
                refine wpAnyT_take (i := 0) (v := ?_) rfl (by decide +kernel) (by decide +kernel) (by decide +kernel) (by decide +kernel) (by decide +kernel) (fun _ _ _ h => h) (Or.inl ⟨by rfl, ?_⟩) (by assumption) ?_
                rotate_left
                · intro w hSw; (try dsimp only at hSw); first | (go_simp; done) | (go_simp; with_reducible rfl)
                try simp only [Act.put, List.getElem_toArray, List.getElem_cons_succ, List.getElem_cons_zero, List.setIfInBounds_toArray, List.set_cons_zero, List.set_cons_succ]
                refine wpAnyT_take (i := 1) (v := ?_) rfl (by decide +kernel) (by decide +kernel) (by decide +kernel) (by decide +kernel) (by decide +kernel) (fun _ _ _ h => h) (Or.inl ⟨by rfl, ?_⟩) (by assumption) ?_
                rotate_left
                · intro w hSw; (try dsimp only at hSw); first | (go_simp; done) | (go_simp; with_reducible rfl)
                try simp only [Act.put, List.getElem_toArray, List.getElem_cons_succ, List.getElem_cons_zero, List.setIfInBounds_toArray, List.set_cons_zero, List.set_cons_succ]
                refine wpAnyT_take (i := 2) (v := ?_) rfl (by decide +kernel) (by decide +kernel) (by decide +kernel) (by decide +kernel) (by decide +kernel) (fun _ _ _ h => h) (Or.inl ⟨by rfl, ?_⟩) (by assumption) ?_
                rotate_left
                · intro w hSw; (try dsimp only at hSw); first | (go_simp; done) | (go_simp; with_reducible rfl)
                try simp only [Act.put, List.getElem_toArray, List.getElem_cons_succ, List.getElem_cons_zero, List.setIfInBounds_toArray, List.set_cons_zero, List.set_cons_succ]
                refine wpAnyT_take (i := 3) (v := ?_) rfl (by decide +kernel) (by decide +kernel) (by decide +kernel) (by decide +kernel) (by decide +kernel) (fun _ _ _ h => h) (Or.inl ⟨by rfl, ?_⟩) (by assumption) ?_
                rotate_left
                · intro w hSw; (try dsimp only at hSw); first | (go_simp; done) | (go_simp; with_reducible rfl)
                try simp only [Act.put, List.getElem_toArray, List.getElem_cons_succ, List.getElem_cons_zero, List.setIfInBounds_toArray, List.set_cons_zero, List.set_cons_succ]
                refine wpAnyT_take (i := 4) (v := ?_) rfl (by decide +kernel) (by decide +kernel) (by decide +kernel) (by decide +kernel) (by decide +kernel) (fun _ _ _ h => h) (Or.inl ⟨by rfl, ?_⟩) (by assumption) ?_
                rotate_left
                · intro w hSw; (try dsimp only at hSw); first | (go_simp; done) | (go_simp; with_reducible rfl)
                try simp only [Act.put, List.getElem_toArray, List.getElem_cons_succ, List.getElem_cons_zero, List.setIfInBounds_toArray, List.set_cons_zero, List.set_cons_succ]
                refine wpAnyT_take (i := 5) (v := ?_) rfl (by decide +kernel) (by decide +kernel) (by decide +kernel) (by decide +kernel) (by decide +kernel) (fun _ _ _ h => h) (Or.inl ⟨by rfl, ?_⟩) (by assumption) ?_
                rotate_left
                · intro w hSw; (try dsimp only at hSw); first | (go_simp; done) | (go_simp; with_reducible rfl)
                try simp only [Act.put, List.getElem_toArray, List.getElem_cons_succ, List.getElem_cons_zero, List.setIfInBounds_toArray, List.set_cons_zero, List.set_cons_succ]
                refine wpAnyT_take (i := 6) (v := ?_) rfl (by decide +kernel) (by decide +kernel) (by decide +kernel) (by decide +kernel) (by decide +kernel) (fun _ _ _ h => h) (Or.inl ⟨by rfl, ?_⟩) (by assumption) ?_
                rotate_left
                · intro w hSw; (try dsimp only at hSw); first | (go_simp; done) | (go_simp; with_reducible rfl)
                try simp only [Act.put, List.getElem_toArray, List.getElem_cons_succ, List.getElem_cons_zero, List.setIfInBounds_toArray, List.set_cons_zero, List.set_cons_succ]
                refine wpAnyT_take (i := 7) (v := ?_) rfl (by decide +kernel) (by decide +kernel) (by decide +kernel) (by decide +kernel) (by decide +kernel) (fun _ _ _ h => h) (Or.inl ⟨by rfl, ?_⟩) (by assumption) ?_
                rotate_left
                · intro w hSw; (try dsimp only at hSw); first | (go_simp; done) | (go_simp; with_reducible rfl)
                try simp only [Act.put, List.getElem_toArray, List.getElem_cons_succ, List.getElem_cons_zero, List.setIfInBounds_toArray, List.set_cons_zero, List.set_cons_succ]
                refine wpAnyT_take (i := 8) (v := ?_) rfl (by decide +kernel) (by decide +kernel) (by decide +kernel) (by decide +kernel) (by decide +kernel) (fun _ _ _ h => h) (Or.inl ⟨by rfl, ?_⟩) (by assumption) ?_
                rotate_left
                · intro w hSw; (try dsimp only at hSw); first | (go_simp; done) | (go_simp; with_reducible rfl)
                try simp only [Act.put, List.getElem_toArray, List.getElem_cons_succ, List.getElem_cons_zero, List.setIfInBounds_toArray, List.set_cons_zero, List.set_cons_succ]
                refine wpAnyT_take (i := 9) (v := ?_) rfl (by decide +kernel) (by decide +kernel) (by decide +kernel) (by decide +kernel) (by decide +kernel) (fun _ _ _ h => h) (Or.inl ⟨by rfl, ?_⟩) (by assumption) ?_
                rotate_left
                · intro w hSw; (try dsimp only at hSw); first | (go_simp; done) | (go_simp; with_reducible rfl)
                try simp only [Act.put, List.getElem_toArray, List.getElem_cons_succ, List.getElem_cons_zero, List.setIfInBounds_toArray, List.set_cons_zero, List.set_cons_succ]
                refine wpAnyT_take (i := 10) (v := ?_) rfl (by decide +kernel) (by decide +kernel) (by decide +kernel) (by decide +kernel) (by decide +kernel) (fun _ _ _ h => h) (Or.inl ⟨by rfl, ?_⟩) (by assumption) ?_
                rotate_left
                · intro w hSw; (try dsimp only at hSw); first | (go_simp; done) | (go_simp; with_reducible rfl)
                try simp only [Act.put, List.getElem_toArray, List.getElem_cons_succ, List.getElem_cons_zero, List.setIfInBounds_toArray, List.set_cons_zero, List.set_cons_succ]
                refine wpAnyT_take (i := 11) (v := ?_) rfl (by decide +kernel) (by decide +kernel) (by decide +kernel) (by decide +kernel) (by decide +kernel) (fun _ _ _ h => h) (Or.inl ⟨by rfl, ?_⟩) (by assumption) ?_
                rotate_left
                · intro w hSw; (try dsimp only at hSw); first | (go_simp; done) | (go_simp; with_reducible rfl)
                try simp only [Act.put, List.getElem_toArray, List.getElem_cons_succ, List.getElem_cons_zero, List.setIfInBounds_toArray, List.set_cons_zero, List.set_cons_succ]
                refine wpAnyT_one (i := 12) (by kernel_rfl) rfl (fun K hK => ?_)
                go_simp
                (refine (rset_any _ lk _ _ _ _ _ _ _ _ _ _ _ _ _ _ _ _ tm _ (HIK4.out.of_below hHeld.2.2.2.2.2.2.2.2.2.2.2.2.2.2.2.2.2.2)).mono ?_; rintro e we ⟨qs, rfl, hqs, hb'⟩; rw [HE2.out])
                refine hK.out _ _ ?_ (fun hHeld2 => ?_)
                · (try dsimp only); exact ⟨(hb'.cell (p := ⟨NL, k * 16, none⟩) (World.block_lt_of_cell? _ _ hHeld.1)).trans hHeld.1, (hb'.cell (p := ⟨NL, k * 16 + 1, none⟩) (World.block_lt_of_cell? _ _ hHeld.2.1)).trans hHeld.2.1, (hb'.cell (p := ⟨NL, k * 16 + 2, none⟩) (World.block_lt_of_cell? _ _ hHeld.2.2.1)).trans hHeld.2.2.1, (hb'.cell (p := ⟨NL, k * 16 + 3, none⟩) (World.block_lt_of_cell? _ _ hHeld.2.2.2.1)).trans hHeld.2.2.2.1, (hb'.cell (p := ⟨NL, k * 16 + 4, none⟩) (World.block_lt_of_cell? _ _ hHeld.2.2.2.2.1)).trans hHeld.2.2.2.2.1, (hb'.cell (p := ⟨NL, k * 16 + 5, none⟩) (World.block_lt_of_cell? _ _ hHeld.2.2.2.2.2.1)).trans hHeld.2.2.2.2.2.1, (hb'.cell (p := ⟨NL, k * 16 + 6, none⟩) (World.block_lt_of_cell? _ _ hHeld.2.2.2.2.2.2.1)).trans hHeld.2.2.2.2.2.2.1, (hb'.cell (p := ⟨NL, k * 16 + 7, none⟩) (World.block_lt_of_cell? _ _ hHeld.2.2.2.2.2.2.2.1)).trans hHeld.2.2.2.2.2.2.2.1, (hb'.cell (p := ⟨NL, k * 16 + 8, none⟩) (World.block_lt_of_cell? _ _ hHeld.2.2.2.2.2.2.2.2.1)).trans hHeld.2.2.2.2.2.2.2.2.1, (hb'.cell (p := ⟨NL, k * 16 + 9, none⟩) (World.block_lt_of_cell? _ _ hHeld.2.2.2.2.2.2.2.2.2.1)).trans hHeld.2.2.2.2.2.2.2.2.2.1, (hb'.cell (p := ⟨NL, k * 16 + 10, none⟩) (World.block_lt_of_cell? _ _ hHeld.2.2.2.2.2.2.2.2.2.2.1)).trans hHeld.2.2.2.2.2.2.2.2.2.2.1, (hb'.cell (p := ⟨NL, k * 16 + 11, none⟩) (World.block_lt_of_cell? _ _ hHeld.2.2.2.2.2.2.2.2.2.2.2.1)).trans hHeld.2.2.2.2.2.2.2.2.2.2.2.1, (hb'.cell (p := ⟨NL, k * 16 + 12, none⟩) (World.block_lt_of_cell? _ _ hHeld.2.2.2.2.2.2.2.2.2.2.2.2.1)).trans hHeld.2.2.2.2.2.2.2.2.2.2.2.2.1, (hb'.cell (p := ⟨NL, k * 16 + 13, none⟩) (World.block_lt_of_cell? _ _ hHeld.2.2.2.2.2.2.2.2.2.2.2.2.2.1)).trans hHeld.2.2.2.2.2.2.2.2.2.2.2.2.2.1, (hb'.cell (p := ⟨NL, k * 16 + 14, none⟩) (World.block_lt_of_cell? _ _ hHeld.2.2.2.2.2.2.2.2.2.2.2.2.2.2.1)).trans hHeld.2.2.2.2.2.2.2.2.2.2.2.2.2.2.1, (hb'.cell (p := ⟨NL, k * 16 + 15, none⟩) (World.block_lt_of_cell? _ _ hHeld.2.2.2.2.2.2.2.2.2.2.2.2.2.2.2.1)).trans hHeld.2.2.2.2.2.2.2.2.2.2.2.2.2.2.2.1, (hb'.cell (p := ⟨L, k, none⟩) (World.block_lt_of_cell? _ _ hHeld.2.2.2.2.2.2.2.2.2.2.2.2.2.2.2.2.1)).trans hHeld.2.2.2.2.2.2.2.2.2.2.2.2.2.2.2.2.1, (hb'.cell (p := ⟨TL, k, none⟩) (World.block_lt_of_cell? _ _ hHeld.2.2.2.2.2.2.2.2.2.2.2.2.2.2.2.2.2.1)).trans hHeld.2.2.2.2.2.2.2.2.2.2.2.2.2.2.2.2.2.1, hHeld.2.2.2.2.2.2.2.2.2.2.2.2.2.2.2.2.2.2.trans (hb'.mono hHeld.2.2.2.2.2.2.2.2.2.2.2.2.2.2.2.2.2.2.size)⟩
                clear hK K hHeld
                have hHeld := hHeld2
                clear hHeld2
                try simp only [Act.put, List.getElem_toArray, List.getElem_cons_succ, List.getElem_cons_zero, List.setIfInBounds_toArray, List.set_cons_zero, List.set_cons_succ]
                have HSwe := Lib.hid hHeld.2.2.2.2.2.2.2.2.2.2.2.2.2.2.2.2.2.2
                have Hqs := Lib.hid hqs
                clear hqs hb'
                refine wpAnyT_take (i := 13) (v := ?_) rfl (by decide +kernel) (by decide +kernel) (by decide +kernel) (by decide +kernel) (by decide +kernel) (fun _ _ _ h => h) (Or.inl ⟨by rfl, ?_⟩) (by assumption) ?_
                rotate_left
                · intro w hSw; (try dsimp only at hSw); first | (go_simp; done) | (go_simp; with_reducible rfl)
                try simp only [Act.put, List.getElem_toArray, List.getElem_cons_succ, List.getElem_cons_zero, List.setIfInBounds_toArray, List.set_cons_zero, List.set_cons_succ]
                refine wpAnyT_take (i := 14) (v := ?_) rfl (by decide +kernel) (by decide +kernel) (by decide +kernel) (by decide +kernel) (by decide +kernel) (fun _ _ _ h => h) (Or.inl ⟨by rfl, ?_⟩) (by assumption) ?_
                rotate_left
                · intro w hSw; (try dsimp only at hSw); first | (go_simp; done) | (go_simp; with_reducible rfl)
                try simp only [Act.put, List.getElem_toArray, List.getElem_cons_succ, List.getElem_cons_zero, List.setIfInBounds_toArray, List.set_cons_zero, List.set_cons_succ]
                refine wpAnyT_take (i := 15) (v := ?_) rfl (by decide +kernel) (by decide +kernel) (by decide +kernel) (by decide +kernel) (by decide +kernel) (fun _ _ _ h => h) (Or.inl ⟨by rfl, ?_⟩) (by assumption) ?_
                rotate_left
                · intro w hSw; (try dsimp only at hSw); first | (go_simp; done) | (go_simp; with_reducible rfl)
                try simp only [Act.put, List.getElem_toArray, List.getElem_cons_succ, List.getElem_cons_zero, List.setIfInBounds_toArray, List.set_cons_zero, List.set_cons_succ]
                refine wpAnyT_take (i := 16) (v := ?_) rfl (by decide +kernel) (by decide +kernel) (by decide +kernel) (by decide +kernel) (by decide +kernel) (fun _ _ _ h => h) (Or.inl ⟨by rfl, ?_⟩) (by assumption) ?_
                rotate_left
                · intro w hSw; (try dsimp only at hSw); first | (go_simp; done) | (go_simp; with_reducible rfl)
                try simp only [Act.put, List.getElem_toArray, List.getElem_cons_succ, List.getElem_cons_zero, List.setIfInBounds_toArray, List.set_cons_zero, List.set_cons_succ]
                refine wpAnyT_last (i := 17) (by kernel_rfl) (by kernel_rfl) rfl (by kernel_rfl) (fun K hK => ?_)
                go_simp
                refine hK.out _ _ ?_
                clear hK K
                try simp only [Act.put, List.getElem_toArray, List.getElem_cons_succ, List.getElem_cons_zero, List.setIfInBounds_toArray, List.set_cons_zero, List.set_cons_succ]
                clear hHeld
                have HBX5 : Hid (Below wf.heap.size wf we) := HBX4.out.trans (HSwe.out.mono HBX4.out.size)
                have Hps2 := Lib.hid (Hps.out.of_below HSwe.out)
                clear HIK4 HSwe Hps HBX3 HBX4 HE2
                go_wp2_with fail
                refine (equal_same _ _ _ _ Hps2.out Hqs.out).mono ?_
                rintro e wz ⟨rfl, n3, rfl⟩
                clear Hps2 Hqs
                go_wp2
                go_roundw
                case rel => exact ⟨k + 1, by omega, by go_num, HBX5.out.trans ((Joins.below_draws _ _ _).mono HBX5.out.size)⟩
                case measure => simp [intOf]; omega
            · obtain rfl : k = 3 := by omega
              as_aux_lemma =>
                go_wp2_with fail
                refine (awake_any _).mono ?_
                rintro e w23 ⟨rfl, hb⟩
                have HW23 : Hid (Below w.heap.size w w23) := (HWF.out.trans (HBX0.out.mono HWF.out.size)).trans (hb.mono ((HWF.out.trans (HBX0.out.mono HWF.out.size)).size))
                clear hb
                go_wp2
                go_ret
                exact ⟨rfl, HW23.out⟩
theorem walk_AnimationAdvances (v0 : Value) (l0 : List Anim) (v1 : Value) (p : Anim) (v2 : Value) (now : Int) (v3 : Value) (xs : List Int) (w : World) (h0 : IsAnims w v0 l0) (h1 : InAnim v1 p) (h2 : v2 = .int .i64 now ∧ (Lit.int .i64 now).wf = true) (h3 : InInts w v3 xs) :
    Calls Try.prog 11 #[v0, v1, v2, v3] w (True_ w) := by
  obtain ⟨rfl, -⟩ := h2
  unfold InAnim at h1
  subst h1
  have hv := h0
  obtain ⟨a, cap, rfl, k1, k2, k3⟩ := h0
  rw [List.length_map] at hv ⊢
  by_cases h5 : l0.length ≤ 5
  · exact advlaw_core a cap _ l0 _ _ _ _ _ _ _ _ _ _ _ _ _ _ _ _ now v3 xs w hv rfl h5 h3
  · exact advlaw_long a cap _ _ _ _ _ _ _ _ _ _ _ _ _ _ _ _ _ now v3 w (by omega)
end Go.Proofs.Ytfcffmjmohkpoaa

