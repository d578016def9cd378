/- Tracks of package grid: for all arguments. -/
import Derived.Test.YtadkkkdecejkeaaLeast
import Derived.Test.YtadkkkdecejkeaaRows3
import Derived.Test.YtadkkkdecejkeaaClampP
import Derived.Test.YtadkkkdecejkeaaTwo
import Derived.Test.YtadkkkdecejkeaaAwake19
namespace Go.Proofs.Ytadkkkdecejkeaa
open Go.RowKit
attribute [local go_sem ↓] Go.wp_at_zero Go.wp_at_succ
set_option linter.unusedVariables false
set_option linter.unusedSimpArgs false

theorem blk_put {w : World} {L : Nat} {o : Obj} (h : w.heap[L]? = some o) (o' : Obj) : (w.alloc o').heap[L]? = some o := (Below.heap_alloc _ _ _ (Array.getElem?_eq_some_iff.1 h).1).trans h
theorem blk_keep {w w' : World} {L : Nat} {row : Option Nat} {o : Obj} (h : w.heap[L]? = some o) (hg : w.grownBy w' row) (hn : some L ≠ row) : w'.heap[L]? = some o := (hg.block L (Array.getElem?_eq_some_iff.1 h).1 hn).trans h
/-- Tracks has returned: the sizes, and the error. -/
def Tracked (av gp : Int) (l it : List Rec) (w : World) (e : Ending) (w' : World) : Prop := ∃ v, e = .returned (.tuple #[v, .int .i64 (gErr av gp l it)]) ∧ IsInts w' v (trkL av gp l it) ∧ Below w.heap.size w w'
set_option maxHeartbeats 4000000 in
set_option maxRecDepth 100000 in
theorem tracks_no (v vi : Value) (av gp : Int) (l it : List Rec) (w : World) (hv : IsRecs 2 w v l) (hi : InRecs 4 w vi it) (hE : gErr av gp l it ≠ 0) : Calls Try.prog 16 #[.int .i64 av, .int .i64 gp, v, vi] w (Tracked av gp l it w) := by
  have HV := Lib.hid hv
  have HI := Lib.hid hi
  have HR : Hid (trkL av gp l it = []) := by show _ = _; unfold trkL; rw [if_neg hE]
  obtain ⟨E, hE2⟩ : ∃ E, gErr av gp l it = E := ⟨_, rfl⟩
  have HE := Lib.hid hE2
  rw [hE2] at hE
  have e1 : (E != 0) = true := by simpa using hE
  clear hE hE2 hv hi
  go_enter Try.func16, Try.ntmps16
  go_wp2_with fail
  refine (gvalid_any _ _ av gp l it _ HV.out HI.out).mono ?_
  rw [HE.out]
  rintro e w1 ⟨rfl, hb1⟩
  go_wp2
  go_ret2
  exact ⟨.slice none 0 0, by rw [HE.out]; rfl, by rw [HR.out]; exact IsInts.nil _, hb1⟩

theorem own_nats {H : Nat} {w : World} {v : Value} {O : List Nat} {c : Nat} (h : w.ownsRow H 3 1 v c (O.map natV)) (hc : O.length = c) : ∃ oa oc, v = .slice oa c oc ∧ (0 < c → ∃ ob oo, oa = some ⟨ob, oo, none⟩ ∧ H ≤ ob ∧ ob < w.heap.size ∧ ∀ j, j < c → w.cell? ⟨ob, oo + j, none⟩ = some (.int .i64 ((gn O j : Nat) : Int))) := by
  obtain ⟨oa, oc, rfl⟩ := own_form h
  refine ⟨oa, oc, rfl, fun hp => ?_⟩
  have hI : IsInts w (.slice oa c oc) (O.map fun x : Nat => (x : Int)) := by
    have h2 := h
    rw [show O.map natV = (O.map fun x : Nat => (x : Int)).map (Value.int .i64) by rw [List.map_map]; rfl] at h2
    have hl : (O.map fun x : Nat => (x : Int)).length = c := by rw [List.length_map]; exact hc
    rw [← hl] at h2 ⊢
    exact ownsRow_isInts h2
  obtain ⟨oa', oc', hoe, -, -, o3⟩ := hI
  have hl : (O.map fun x : Nat => (x : Int)).length = c := by rw [List.length_map]; exact hc
  rw [hl] at o3 hoe
  obtain ⟨rfl, rfl⟩ : oa' = oa ∧ oc' = oc := by simp at hoe; exact ⟨hoe.1.symm, hoe.2.symm⟩
  obtain ⟨ob, oo, rfl, hlt, hcell⟩ := o3 hp
  refine ⟨ob, oo, rfl, (h.lt ob rfl).1, hlt, fun j hj => ?_⟩
  rw [hcell j hj]
  have hjl : j < O.length := by rw [hc]; exact hj
  simp [gz, gn, hjl]
theorem own_fresh {H e sz n : Nat} {w : World} {v : Value} {xs : List Value} (h : w.ownsRow H e sz v n xs) : freshV H v := by
  rcases h.2 with ⟨rfl, _⟩ | ⟨g, cap, cur, rfl, hg, _⟩
  · exact freshV.nil _ _ _
  · exact freshV.mk hg
theorem ResolvedN_eq {av gp : Int} {l : List Rec} {w : World} (h : flexErr av gp l = 0) : ResolvedN av gp l w = fun e w' => ∃ v, e = .returned (.tuple #[v, .int .i64 0]) ∧ IsInts w' v (resL av gp l) ∧ Below w.heap.size w w' ∧ freshV w.heap.size v := by unfold ResolvedN; rw [h]
theorem SharedN_eq {total : Int} {ws : List Int} {w : World} (h : shareErr total ws = 0) : SharedN total ws w = fun e w' => ∃ v, e = .returned (.tuple #[v, .int .i64 0]) ∧ IsInts w' v (shareParts total ws) ∧ Below w.heap.size w w' ∧ freshV w.heap.size v := by unfold SharedN; rw [h]
set_option maxHeartbeats 4000000 in
set_option maxRecDepth 100000 in
/-- A literal list of one element of a row, in the region that appends. -/
theorem step_flex1 {ops : Array Oper} {t : TypeId} {s : String} {e : Array Edge} {K : Act → World → Prop} {Q : Exit → Act → World → Prop} {E : Prop} {u0 u1 u2 u3 u4 u5 u6 u7 u8 u9 u10 u11 u12 u13 u14 u15 u16 u17 u18 u19 u20 u21 u22 u23 u24 u25 u26 u27 u28 u29 u30 u31 u32 u33 u34 u35 u36 u37 u38 u39 u40 u41 u42 u43 u44 u45 u46 u47 u48 u49 u50 u51 u52 u53 u54 u55 u56 u57 u58 u59 u60 u61 u62 u63 u64 u65 u66 u67 u68 u69 u70 u71 u72 u73 u74 u75 u76 u77 u78 u79 u80 u81 u82 u83 u84 u85 u86 u87 u88 u89 u90 u91 u92 u93 u94 u95 u96 u97 u98 u99 u100 u101 u102 u103 u104 u105 u106 u107 u108 u109 u110 u111 u112 u113 u114 u115 u116 u117 u118 u119 u120 u121 u122 u123 u124 u125 u126 u127 u128 u129 u130 u131 u132 u133 u134 u135 u136 u137 u138 u139 u140 u141 u142 u143 u144 u145 u146 u147 u148 u149 u150 u151 u152 u153 u154 u155 u156 u157 u159 u160 u161 u162 u163 u164 u165 u166 u167 u168 u169 u170 u171 u172 u173 u174 u175 u176 u177 u178 u179 u180 u181 u182 u183 u184 u185 u186 u187 : Value} {a0 a1 a2 a3 a4 : Int} {w : World}
    (h : K ⟨#[u0, u1, u2, u3, u4, u5, u6, u7, u8, u9, u10, u11, u12, u13, u14, u15, u16, u17, u18, u19, u20, u21, u22, u23, u24, u25, u26, u27, u28, u29, u30, u31, u32, u33, u34, u35, u36, u37, u38, u39, u40, u41, u42, u43, u44, u45, u46, u47, u48, u49, u50, u51, u52, u53, u54, u55, u56, u57, u58, u59, u60, u61, u62, u63, u64, u65, u66, u67, u68, u69, u70, u71, u72, u73, u74, u75, u76, u77, u78, u79, u80, u81, u82, u83, u84, u85, u86, u87, u88, u89, u90, u91, u92, u93, u94, u95, u96, u97, u98, u99, u100, u101, u102, u103, u104, u105, u106, u107, u108, u109, u110, u111, u112, u113, u114, u115, u116, u117, u118, u119, u120, u121, u122, u123, u124, u125, u126, u127, u128, u129, u130, u131, u132, u133, u134, u135, u136, u137, u138, u139, u140, u141, u142, u143, u144, u145, u146, u147, u148, u149, u150, u151, u152, u153, u154, u155, u156, u157, .agg #[.int .i64 a0, .int .i64 a1, .int .i64 a2, .int .i64 a3, .int .i64 a4], .slice (some ⟨w.heap.size, 0, none⟩) 1 1, u160, u161, u162, u163, u164, u165, u166, u167, u168, u169, u170, u171, u172, u173, u174, u175, u176, u177, u178, u179, u180, u181, u182, u183, u184, u185, u186, u187], []⟩ (w.alloc (.cells #[.int .i64 a0, .int .i64 a1, .int .i64 a2, .int .i64 a3, .int .i64 a4] 60))) :
    if Region.wanted (⟨some 159, .buildSlice 58 1 #[(0, .tmp 158)], t, s, e, none⟩ : Oper) (yielded ops #[u0, u1, u2, u3, u4, u5, u6, u7, u8, u9, u10, u11, u12, u13, u14, u15, u16, u17, u18, u19, u20, u21, u22, u23, u24, u25, u26, u27, u28, u29, u30, u31, u32, u33, u34, u35, u36, u37, u38, u39, u40, u41, u42, u43, u44, u45, u46, u47, u48, u49, u50, u51, u52, u53, u54, u55, u56, u57, u58, u59, u60, u61, u62, u63, u64, u65, u66, u67, u68, u69, u70, u71, u72, u73, u74, u75, u76, u77, u78, u79, u80, u81, u82, u83, u84, u85, u86, u87, u88, u89, u90, u91, u92, u93, u94, u95, u96, u97, u98, u99, u100, u101, u102, u103, u104, u105, u106, u107, u108, u109, u110, u111, u112, u113, u114, u115, u116, u117, u118, u119, u120, u121, u122, u123, u124, u125, u126, u127, u128, u129, u130, u131, u132, u133, u134, u135, u136, u137, u138, u139, u140, u141, u142, u143, u144, u145, u146, u147, u148, u149, u150, u151, u152, u153, u154, u155, u156, u157, .agg #[.int .i64 a0, .int .i64 a1, .int .i64 a2, .int .i64 a3, .int .i64 a4], u159, u160, u161, u162, u163, u164, u165, u166, u167, u168, u169, u170, u171, u172, u173, u174, u175, u176, u177, u178, u179, u180, u181, u182, u183, u184, u185, u186, u187]) = true then Oper.wp Try.prog (⟨some 159, .buildSlice 58 1 #[(0, .tmp 158)], t, s, e, none⟩ : Oper) ⟨#[u0, u1, u2, u3, u4, u5, u6, u7, u8, u9, u10, u11, u12, u13, u14, u15, u16, u17, u18, u19, u20, u21, u22, u23, u24, u25, u26, u27, u28, u29, u30, u31, u32, u33, u34, u35, u36, u37, u38, u39, u40, u41, u42, u43, u44, u45, u46, u47, u48, u49, u50, u51, u52, u53, u54, u55, u56, u57, u58, u59, u60, u61, u62, u63, u64, u65, u66, u67, u68, u69, u70, u71, u72, u73, u74, u75, u76, u77, u78, u79, u80, u81, u82, u83, u84, u85, u86, u87, u88, u89, u90, u91, u92, u93, u94, u95, u96, u97, u98, u99, u100, u101, u102, u103, u104, u105, u106, u107, u108, u109, u110, u111, u112, u113, u114, u115, u116, u117, u118, u119, u120, u121, u122, u123, u124, u125, u126, u127, u128, u129, u130, u131, u132, u133, u134, u135, u136, u137, u138, u139, u140, u141, u142, u143, u144, u145, u146, u147, u148, u149, u150, u151, u152, u153, u154, u155, u156, u157, .agg #[.int .i64 a0, .int .i64 a1, .int .i64 a2, .int .i64 a3, .int .i64 a4], u159, u160, u161, u162, u163, u164, u165, u166, u167, u168, u169, u170, u171, u172, u173, u174, u175, u176, u177, u178, u179, u180, u181, u182, u183, u184, u185, u186, u187], []⟩ w K Q else E := by
  rw [if_pos (by simp [Region.wanted])]
  obtain ⟨G, hG⟩ : ∃ G, K ⟨#[u0, u1, u2, u3, u4, u5, u6, u7, u8, u9, u10, u11, u12, u13, u14, u15, u16, u17, u18, u19, u20, u21, u22, u23, u24, u25, u26, u27, u28, u29, u30, u31, u32, u33, u34, u35, u36, u37, u38, u39, u40, u41, u42, u43, u44, u45, u46, u47, u48, u49, u50, u51, u52, u53, u54, u55, u56, u57, u58, u59, u60, u61, u62, u63, u64, u65, u66, u67, u68, u69, u70, u71, u72, u73, u74, u75, u76, u77, u78, u79, u80, u81, u82, u83, u84, u85, u86, u87, u88, u89, u90, u91, u92, u93, u94, u95, u96, u97, u98, u99, u100, u101, u102, u103, u104, u105, u106, u107, u108, u109, u110, u111, u112, u113, u114, u115, u116, u117, u118, u119, u120, u121, u122, u123, u124, u125, u126, u127, u128, u129, u130, u131, u132, u133, u134, u135, u136, u137, u138, u139, u140, u141, u142, u143, u144, u145, u146, u147, u148, u149, u150, u151, u152, u153, u154, u155, u156, u157, .agg #[.int .i64 a0, .int .i64 a1, .int .i64 a2, .int .i64 a3, .int .i64 a4], .slice (some ⟨w.heap.size, 0, none⟩) 1 1, u160, u161, u162, u163, u164, u165, u166, u167, u168, u169, u170, u171, u172, u173, u174, u175, u176, u177, u178, u179, u180, u181, u182, u183, u184, u185, u186, u187], []⟩ (w.alloc (.cells #[.int .i64 a0, .int .i64 a1, .int .i64 a2, .int .i64 a3, .int .i64 a4] 60)) = G := ⟨_, rfl⟩
  rw [hG] at h
  go_simp
  exact h
set_option maxHeartbeats 20000000 in
set_option maxRecDepth 100000 in
theorem tracks_ok (a ia : Option Addr) (cap n icap q : Nat) (av gp : Int) (l it : List Rec) (w : World) (HN : Hid (l.length = n)) (HQ : Hid (it.length = q)) (hv : IsRecs 2 w (.slice a n cap) l) (hi : InRecs 4 w (.slice ia q icap) it) (hE : gErr av gp l it = 0) :
    Calls Try.prog 16 #[.int .i64 av, .int .i64 gp, .slice a n cap, .slice ia q icap] w (Tracked av gp l it w) := by
  obtain ⟨i0, hi0, hz0, hz1, hz2⟩ := info_parts info_int1
  obtain ⟨f0, hf0, hf1, hf2, hf3⟩ := info_parts info_flex
  have HV := Lib.hid hv
  have HI := Lib.hid hi
  have HE := Lib.hid hE
  obtain ⟨e1, e2, e3, e4, e5, e6⟩ := gErr_ok hE
  have H3 : Hid (0 < n → ∃ b off, a = some ⟨b, off, none⟩ ∧ b < w.heap.size ∧ ∀ i, i < n → ∀ j, j < 2 → w.cell? ⟨b, off + i * 2 + j, none⟩ = some (.int .i64 (gf l i j))) := by
    obtain ⟨a', cap', k1, _, _, k3⟩ := hv
    simp only [Value.slice.injEq] at k1
    obtain ⟨rfl, _, rfl⟩ := k1
    rw [HN.out] at k3; exact k3
  have HSZ : Hid (Sizes l.length (leastL l it gp) (mostL l it gp)) := sizes_of (lenB_iff.1 e4) e1 e2 e5 e6
  have HAV := Lib.hid (lenB_iff.1 e3)
  have HGP := Lib.hid (lenB_iff.1 e4)
  have HTK := Lib.hid e5
  have HH24 := Lib.hid e1
  have HFR := Lib.hid (HSZ.out.free_le HAV.out HGP.out e1)
  have HRES : Hid (trkL av gp l it = putAt (grown l (leastL l it gp) (mostL l it gp) av gp) (fracs l) (fracP l (grown l (leastL l it gp) (mostL l it gp) av gp) av gp) (fracs l).length) := by show _ = _; unfold trkL; rw [if_pos hE]
  have hn' : (n : Int) ≤ 24 := by have := HN.out; omega
  clear hv hi hE e1 e2 e3 e4 e5 e6
  go_enter Try.func16, Try.ntmps16
  go_wp2_with fail
  refine (gvalid_any _ _ av gp l it _ HV.out HI.out).mono ?_
  rw [HE.out]
  rintro e w1 ⟨rfl, hb1⟩
  have HV1 := Lib.hid (HV.out.of_below hb1)
  have HI1 := Lib.hid (HI.out.1.of_below hb1)
  have HB1 := Lib.hid hb1
  clear hb1
  go_wp2_with fail
  refine (demands_of a ia cap n icap q av gp l it _ HN HQ HV1.out HI1.out HE.out).1.mono ?_
  rintro e w2 ⟨L, M, rfl, hL, hM, hne, hl0, hm0, hb2⟩
  have HB2 : Hid (Below w.heap.size w w2) := HB1.out.trans (hb2.mono HB1.out.size)
  obtain ⟨ls, hls⟩ : ∃ x, leastL l it gp = x := ⟨_, rfl⟩
  obtain ⟨ms, hms⟩ : ∃ x, mostL l it gp = x := ⟨_, rfl⟩
  rw [hls] at hL HSZ HRES HFR
  rw [hms] at hM HSZ HRES
  have HL := Lib.hid hL
  have HM := Lib.hid hM
  have HNE := Lib.hid hne
  have HL0 : Hid (w.heap.size ≤ L) := Nat.le_trans HB1.out.size hl0
  have HM0 : Hid (w.heap.size ≤ M) := Nat.le_trans HB1.out.size hm0
  have HLL : Hid (ls.length = n) := by show _ = _; rw [HSZ.out.l, HN.out]
  have HLM : Hid (ms.length = n) := by show _ = _; rw [HSZ.out.m, HN.out]
  obtain ⟨sp, hsp⟩ : ∃ x, spTo av gp n = x := ⟨_, rfl⟩
  have HSP := Lib.hid hsp
  have HFRE : Hid (freeT av gp ls = sp - sumTo ls n) := by show _ = _; unfold freeT; rw [HLL.out, hsp]
  have hfr := HFR.out
  rw [HN.out, hsp] at hfr
  obtain ⟨fr, hfre⟩ : ∃ x, freeT av gp ls = x := ⟨_, rfl⟩
  have HFE := Lib.hid hfre
  rw [hfre] at hfr HFRE
  obtain ⟨hfr0, hfr1, hfr2, hsp0, hsp1⟩ := hfr
  obtain ⟨hav0, hav1⟩ := HAV.out
  clear hL hM hne hl0 hm0 hb2 hls hms hsp hfre HV1 HI1 HB1 HV HI HFR
  go_upto_region 5 with fail
  go_cut [13] (fun s wx => s = .int .i64 sp ∧ wx = w2)
  case first =>
    as_aux_lemma =>
      by_cases hp : 0 < n
      · have hp' : (1 : Int) ≤ (n : Int) := by omega
        have hm := mul_bd (a := gp) (b := (n : Int) - 1) (m := 1048576) (k := 23) HGP.out.1 (by omega) HGP.out.2 (by omega)
        have hs : av - gp * ((n : Int) - 1) = sp := by rw [← HSP.out]; unfold spTo; rw [show ((n - 1 : Nat) : Int) = (n : Int) - 1 by omega]
        obtain ⟨G, hG⟩ : ∃ G, gp * ((n : Int) - 1) = G := ⟨_, rfl⟩
        rw [hG] at hm hs
        have hw1 : IntKind.i64.wrap ((n : Int) - 1) = (n : Int) - 1 := IntWalk.i64_in _ (by omega)
        have hw2 : IntKind.i64.wrap (gp * ((n : Int) - 1)) = G := by rw [hG]; exact IntWalk.i64_in _ (by omega)
        have hw3 : IntKind.i64.wrap (av - G) = sp := by rw [hs]; exact IntWalk.i64_in _ (by omega)
        have hnn : ¬ ((n : Int) - 1 < 0) := by omega
        clear hG
        go_wp2
        go_meet
        exact ⟨rfl, rfl⟩
      · obtain rfl : n = 0 := by omega
        have hs : av = sp := by rw [← HSP.out]; simp [spTo]
        have hw3 : IntKind.i64.wrap av = av := IntWalk.i64_in _ (by omega)
        go_wp2
        go_meet
        exact ⟨by first | rfl | rw [hs], rfl⟩
  case rest =>
    obtain ⟨rfl, hwx⟩ := hcut
    subst hwx
    obtain ⟨w2, rfl⟩ : ∃ x : World, x = wc := ⟨_, rfl⟩
    have HSI : Hid (IsInts w2 (.slice (some ⟨L, 0, none⟩) n n) ls) := by
      have h := HL.out.isInts (by rw [HLL.out]; unfold maxLen; omega)
      rw [HLL.out] at h; exact h
    have HSM : Hid (Calls Try.prog 30 #[.slice (some ⟨L, 0, none⟩) n n] w2 fun e w' => e = .returned (.int .i64 (sumTo ls n)) ∧ w2 = w') := by
      have h := gsum_any _ _ w2 HSI.out (sizes_sum HSZ.out.lb HLL.out (by rw [← HN.out]; exact HH24.out))
      rw [HLL.out] at h; exact h
    have hw4 : IntKind.i64.wrap (sp - sumTo ls n) = fr := by rw [← HFRE.out]; exact IntWalk.i64_in _ (by omega)
    obtain ⟨H, hH⟩ : ∃ H, w2.heap.size = H := ⟨_, rfl⟩
    have HH := Lib.hid hH
    have HLH : Hid (L < H ∧ M < H) := by show _ ∧ _; rw [← hH]; exact ⟨HL.out.lt, HM.out.lt⟩
    have HWH : Hid (w.heap.size ≤ H) := by show _ ≤ _; rw [← hH]; exact HB2.out.size
    obtain ⟨fa, hfa⟩ : ∃ f, msk l 1 0 n = f := ⟨_, rfl⟩
    obtain ⟨ff, hff⟩ : ∃ f, msk l 2 0 n = f := ⟨_, rfl⟩
    have HAU : Hid (autos l = opensTo fa n) := by show _ = _; unfold autos; rw [sel_eq, HN.out, hfa]
    have HFA : Hid (fracs l = opensTo ff n) := by show _ = _; unfold fracs; rw [sel_eq, HN.out, hff]
    have HKA : Hid (∀ k, k < n → gb fa k = decide (gf l k 0 ≠ 1)) := fun k hk => by rw [← hfa]; exact msk_in hk (Nat.zero_le _)
    have HKF : Hid (∀ k, k < n → gb ff k = decide (gf l k 0 ≠ 2)) := fun k hk => by rw [← hff]; exact msk_in hk (Nat.zero_le _)
    have HRK : Hid (∀ k, k < n → gb fa k = false → (opensTo fa k).length < (autos l).length ∧ gn (autos l) (opensTo fa k).length = k) := fun k hk hg => by rw [HAU.out]; exact opensTo_rank hk hg
    clear hH hfa hff
    go_wp2_with (go_at_call 30; refine HSM.out.mono ?_; rintro e w' ⟨rfl, rfl⟩)
    clear hw4
    go_loopw [15, 16, 17, 61] (fun u15 u16 u17 i wr => ∃ k : Nat, k ≤ n ∧ i = .int .i64 k ∧ Rows3 H u15 u16 u17 (opensTo fa k).length (opensTo fa k).length (opensTo ff k).length ((opensTo fa k).map natV) ((autoW l ls ms (opensTo fa k).length).map (Value.int .i64)) ((opensTo ff k).map natV) wr ∧ Below H w2 wr) (fun _ _ _ i _ => n - (intOf i).toNat)
    case atStart => exact ⟨0, Nat.zero_le _, rfl, Rows3.nil (by rw [HH.out]; exact Nat.le_refl _), Below.refl _ _⟩
    case round =>
      obtain ⟨k, hk, rfl, hr, hbl⟩ := hrel
      have HR := Lib.hid hr
      have HB := Lib.hid hbl
      clear hr hbl
      by_cases hkn : k < n
      ·
        as_aux_lemma =>
          obtain ⟨b, off, rfl, hlt, hcell⟩ := H3.out (by omega)
          have HBW : Hid (Below w.heap.size w wr) := HB2.out.trans (HB.out.mono HWH.out)
          have k0 := (HBW.out.cell (p := ⟨b, off + k * 2 + 0, none⟩) hlt).trans (hcell k hkn 0 (by omega))
          have k1 := (HBW.out.cell (p := ⟨b, off + k * 2 + 1, none⟩) hlt).trans (hcell k hkn 1 (by omega))
          rw [Nat.add_zero] at k0
          have hka := HKA.out k hkn
          have hkf := HKF.out k hkn
          have HRKK : Hid (gb fa k = false → gn (autos l) (opensTo fa k).length = k) := fun h => (HRK.out k hkn h).2
          obtain ⟨q0, hq0⟩ : ∃ q, gf l k 0 = q := ⟨_, rfl⟩
          obtain ⟨q1, hq1⟩ : ∃ q, gf l k 1 = q := ⟨_, rfl⟩
          rw [hq0] at k0 hka hkf
          rw [hq1] at k1
          have HKAA := Lib.hid hka
          have HKFF := Lib.hid hkf
          have hca := opensTo_le fa k
          have hcf := opensTo_le ff k
          obtain ⟨ca, hcae⟩ : ∃ c, (opensTo fa k).length = c := ⟨_, rfl⟩
          obtain ⟨cf, hcfe⟩ : ∃ c, (opensTo ff k).length = c := ⟨_, rfl⟩
          obtain ⟨AL, hAL⟩ : ∃ x, (opensTo fa k).map natV = x := ⟨_, rfl⟩
          obtain ⟨BL, hBL⟩ : ∃ x, (autoW l ls ms ca).map (Value.int .i64) = x := ⟨_, rfl⟩
          obtain ⟨CL, hCL⟩ : ∃ x, (opensTo ff k).map natV = x := ⟨_, rfl⟩
          rw [hcae] at HR hca HRKK
          rw [hcfe] at HR hcf
          rw [hAL, hBL, hCL] at HR
          have HCAE := Lib.hid hcae
          have HCFE := Lib.hid hcfe
          have HALE := Lib.hid hAL
          have HBLE := Lib.hid hBL
          have HCLE := Lib.hid hCL
          have hkn' : (k : Int) < (n : Int) := by omega
          have hk0 : (0 : Int) ≤ (k : Int) := by omega
          have HR5 := Lib.hid (HR.out.alloc (.cells #[.int .i64 q0, .int .i64 q1] 42))
          have HB5 : Hid (Below H w2 (wr.alloc (.cells #[.int .i64 q0, .int .i64 q1] 42))) := HB.out.alloc HR.out.hw _
          clear hcell hlt hq0 hq1 hka hkf hcae hcfe hAL hBL hCL
          by_cases c1 : q0 = 1
          ·
            as_aux_lemma =>
              have HONA : Hid (opensTo fa (k + 1) = opensTo fa k ++ [k]) := opensTo_no (by rw [HKAA.out, c1]; rfl)
              have HONF : Hid (opensTo ff (k + 1) = opensTo ff k) := opensTo_yes (by rw [HKFF.out, c1]; rfl)
              have HGN : Hid (gn (autos l) ca = k) := HRKK.out (by rw [HKAA.out, c1]; rfl)
              have d1 : (q0 == 1) = true := by simpa using c1
              obtain ⟨x, hx⟩ : ∃ x, gz ls k = x := ⟨_, rfl⟩
              obtain ⟨y, hy⟩ : ∃ x, gz ms k = x := ⟨_, rfl⟩
              have hxb := HSZ.out.lb k (by rw [HLL.out]; exact hkn)
              have hyb := HSZ.out.mb k (by rw [HLM.out]; exact hkn)
              rw [hx] at hxb
              rw [hy] at hyb
              obtain ⟨om, hom⟩ : ∃ o, y - x = o := ⟨_, rfl⟩
              have hwsub : IntKind.i64.wrap (y - x) = om := by rw [← hom]; exact IntWalk.i64_in _ (by omega)
              have HCC : Hid (∀ W, Below H w2 W → W.cell? ⟨M, k, none⟩ = some (.int .i64 y) ∧ W.cell? ⟨L, k, none⟩ = some (.int .i64 x)) := fun W hW => by
                have cm := (HM.out.of_below hW HLH.out.2).cell (i := k) (by rw [HLM.out]; exact hkn)
                have cl := (HL.out.of_below hW HLH.out.1).cell (i := k) (by rw [HLL.out]; exact hkn)
                rw [hy] at cm
                rw [hx] at cl
                exact ⟨cm, cl⟩
              have HNEXT : Hid (∀ u v W, Rows3 H u v u17 (ca + 1) (ca + 1) cf (AL ++ [natV k]) (BL ++ [.int .i64 om]) CL W → Rows3 H u v u17 (opensTo fa (k + 1)).length (opensTo fa (k + 1)).length (opensTo ff (k + 1)).length ((opensTo fa (k + 1)).map natV) ((autoW l ls ms (opensTo fa (k + 1)).length).map (Value.int .i64)) ((opensTo ff (k + 1)).map natV) W) := fun u v W h => by
                rw [HONA.out, HONF.out, List.length_append, HCAE.out, HCFE.out, List.map_append, HALE.out, HCLE.out, List.length_singleton, autoW_succ, List.map_append, HBLE.out, HGN.out, hx, hy]
                simp only [List.map_cons, List.map_nil]
                rw [hom]
                exact h
              clear hx hy hom hxb hyb c1
              go_upto_region 13 with fail
              obtain ⟨W5, hW5⟩ : ∃ W, wr.alloc (.cells #[.int .i64 q0, .int .i64 q1] 42) = W := ⟨_, rfl⟩
              rw [hW5] at HR5 HB5 ⊢
              clear hW5 k0 k1 HR HB HBW d1
              -- DRAWN13
              refine wp_region_T (S := (fun w' => w'.cell? ⟨M, k, none⟩ = some (.int .i64 y) ∧ w'.cell? ⟨L, k, none⟩ = some (.int .i64 x))) 17 (by kernel_rfl) (HCC.out _ HB5.out.drew) (fun hHeld => ?_)
              have HRW0 := Lib.hid HR5.out.drew
              have HBW0 := Lib.hid HB5.out.drew
              obtain ⟨W0, hW0⟩ : ∃ x, W5.drew = x := ⟨_, rfl⟩
              rw [hW0] at HRW0 HBW0 hHeld ⊢
              clear hW0 HR5 HB5
              refine wpAnyT_take (i := 0) (v := ?_) rfl (by decide +kernel) (by decide +kernel) (by decide +kernel) (by decide +kernel) (by decide +kernel) (fun _ _ _ h => h) (Or.inl ⟨by rfl, ?_⟩) (by assumption) ?_
              rotate_left
              · intro w hSw; (try dsimp only at hSw); first | (go_simp; done) | (go_simp; with_reducible rfl)
              try simp only [Act.put, List.getElem_toArray, List.getElem_cons_succ, List.getElem_cons_zero, List.setIfInBounds_toArray, List.set_cons_zero, List.set_cons_succ]
              refine wpAnyT_take (i := 1) (v := ?_) rfl (by decide +kernel) (by decide +kernel) (by decide +kernel) (by decide +kernel) (by decide +kernel) (fun _ _ _ h => h) (Or.inl ⟨by rfl, ?_⟩) (by assumption) ?_
              rotate_left
              · intro w hSw; (try dsimp only at hSw); first | (go_simp; done) | (go_simp; with_reducible rfl)
              try simp only [Act.put, List.getElem_toArray, List.getElem_cons_succ, List.getElem_cons_zero, List.setIfInBounds_toArray, List.set_cons_zero, List.set_cons_succ]
              refine wpAnyT_take (i := 4) (v := ?_) rfl (by decide +kernel) (by decide +kernel) (by decide +kernel) (by decide +kernel) (by decide +kernel) (fun _ _ _ h => h) (Or.inl ⟨by rfl, ?_⟩) (by assumption) ?_
              rotate_left
              · intro w hSw; (try dsimp only at hSw); first | (go_simp; done) | (go_simp; with_reducible rfl)
              try simp only [Act.put, List.getElem_toArray, List.getElem_cons_succ, List.getElem_cons_zero, List.setIfInBounds_toArray, List.set_cons_zero, List.set_cons_succ]
              refine wpAnyT_take (i := 5) (v := ?_) rfl (by decide +kernel) (by decide +kernel) (by decide +kernel) (by decide +kernel) (by decide +kernel) (fun _ _ _ h => h) (Or.inl ⟨by rfl, ?_⟩) (by assumption) ?_
              rotate_left
              · intro w hSw; (try dsimp only at hSw); first | (go_simp; done) | (go_simp; with_reducible rfl)
              try simp only [Act.put, List.getElem_toArray, List.getElem_cons_succ, List.getElem_cons_zero, List.setIfInBounds_toArray, List.set_cons_zero, List.set_cons_succ]
              refine wpAnyT_take (i := 6) (v := ?_) rfl (by decide +kernel) (by decide +kernel) (by decide +kernel) (by decide +kernel) (by decide +kernel) (fun _ _ _ h => h) (Or.inl ⟨by rfl, ?_⟩) (by assumption) ?_
              rotate_left
              · intro w hSw; (try dsimp only at hSw); first | (go_simp; done) | (go_simp; with_reducible rfl)
              try simp only [Act.put, List.getElem_toArray, List.getElem_cons_succ, List.getElem_cons_zero, List.setIfInBounds_toArray, List.set_cons_zero, List.set_cons_succ]
              refine wpAnyT_take (i := 7) (v := ?_) rfl (by decide +kernel) (by decide +kernel) (by decide +kernel) (by decide +kernel) (by decide +kernel) (fun _ _ _ h => h) (Or.inl ⟨by rfl, ?_⟩) (by assumption) ?_
              rotate_left
              · intro w hSw; (try dsimp only at hSw); first | (go_simp; done) | (go_simp; with_reducible rfl)
              try simp only [Act.put, List.getElem_toArray, List.getElem_cons_succ, List.getElem_cons_zero, List.setIfInBounds_toArray, List.set_cons_zero, List.set_cons_succ]
              refine wpAnyT_take (i := 8) (v := ?_) rfl (by decide +kernel) (by decide +kernel) (by decide +kernel) (by decide +kernel) (by decide +kernel) (fun _ _ _ h => h) (Or.inl ⟨by rfl, ?_⟩) (by assumption) ?_
              rotate_left
              · intro w hSw; (try dsimp only at hSw); first | (go_simp; done) | (go_simp; with_reducible rfl)
              try simp only [Act.put, List.getElem_toArray, List.getElem_cons_succ, List.getElem_cons_zero, List.setIfInBounds_toArray, List.set_cons_zero, List.set_cons_succ]
              refine wpAnyT_take (i := 9) (v := ?_) rfl (by decide +kernel) (by decide +kernel) (by decide +kernel) (by decide +kernel) (by decide +kernel) (fun _ _ _ h => h) (Or.inl ⟨by rfl, ?_⟩) (by assumption) ?_
              rotate_left
              · intro w hSw; (try dsimp only at hSw); first | (go_simp; done) | (go_simp; with_reducible rfl)
              try simp only [Act.put, List.getElem_toArray, List.getElem_cons_succ, List.getElem_cons_zero, List.setIfInBounds_toArray, List.set_cons_zero, List.set_cons_succ]
              refine wpAnyT_take (i := 10) (v := ?_) rfl (by decide +kernel) (by decide +kernel) (by decide +kernel) (by decide +kernel) (by decide +kernel) (fun _ _ _ h => h) (Or.inl ⟨by rfl, ?_⟩) (by assumption) ?_
              rotate_left
              · intro w hSw; (try dsimp only at hSw); first | (go_simp; done) | (go_simp; with_reducible rfl)
              try simp only [Act.put, List.getElem_toArray, List.getElem_cons_succ, List.getElem_cons_zero, List.setIfInBounds_toArray, List.set_cons_zero, List.set_cons_succ]
              refine wpAnyT_take (i := 11) (v := ?_) rfl (by decide +kernel) (by decide +kernel) (by decide +kernel) (by decide +kernel) (by decide +kernel) (fun _ _ _ h => h) (Or.inl ⟨by rfl, ?_⟩) (by assumption) ?_
              rotate_left
              · intro w hSw; (try dsimp only at hSw); first | (go_simp; done) | (go_simp; with_reducible rfl)
              try simp only [Act.put, List.getElem_toArray, List.getElem_cons_succ, List.getElem_cons_zero, List.setIfInBounds_toArray, List.set_cons_zero, List.set_cons_succ]
              refine wpAnyT_take (i := 12) (v := ?_) rfl (by decide +kernel) (by decide +kernel) (by decide +kernel) (by decide +kernel) (by decide +kernel) (fun _ _ _ h => h) (Or.inl ⟨by rfl, ?_⟩) (by assumption) ?_
              rotate_left
              · intro w hSw; (try dsimp only at hSw); first | (go_simp; done) | (go_simp; with_reducible rfl)
              try simp only [Act.put, List.getElem_toArray, List.getElem_cons_succ, List.getElem_cons_zero, List.setIfInBounds_toArray, List.set_cons_zero, List.set_cons_succ]
              refine wpAnyT_take (i := 13) (v := ?_) rfl (by decide +kernel) (by decide +kernel) (by decide +kernel) (by decide +kernel) (by decide +kernel) (fun _ _ _ h => h) (Or.inl ⟨by rfl, ?_⟩) (by assumption) ?_
              rotate_left
              · intro w hSw; (try dsimp only at hSw); first | (go_simp; done) | (go_simp; with_reducible rfl)
              try simp only [Act.put, List.getElem_toArray, List.getElem_cons_succ, List.getElem_cons_zero, List.setIfInBounds_toArray, List.set_cons_zero, List.set_cons_succ]
              refine wpAnyT_two (i := 2) (j := 14) (by kernel_rfl) rfl rfl (fun K hK => ?_) (fun K hK => ?_)
              ·
                go_simp
                refine hK.out _ _ ?_ (fun hHeld2 => ?_)
                · (try dsimp only); exact HCC.out _ (HBW0.out.alloc (by have := HRW0.out.hw; omega) _)
                clear hK K hHeld
                have hHeld := hHeld2
                clear hHeld2
                try simp only [Act.put, List.getElem_toArray, List.getElem_cons_succ, List.getElem_cons_zero, List.setIfInBounds_toArray, List.set_cons_zero, List.set_cons_succ]
                have HRWa := Lib.hid (HRW0.out.alloc (.cells #[.int .i64 (k : Int)] 3))
                have HBWa : Hid (Below H w2 (W0.alloc (.cells #[.int .i64 (k : Int)] 3))) := HBW0.out.alloc (by have := HRW0.out.hw; omega) _
                have HNA : Hid ((W0.alloc (.cells #[.int .i64 (k : Int)] 3)).heap[W0.heap.size]? = some (.cells #[.int .i64 (k : Int)] 3 (0, 0))) := heap_alloc_new W0 _
                obtain ⟨NA, hNA⟩ : ∃ x, W0.heap.size = x := ⟨_, rfl⟩
                obtain ⟨Wa, hnew⟩ : ∃ x, W0.alloc (.cells #[.int .i64 (k : Int)] 3) = x := ⟨_, rfl⟩
                rw [hnew] at HRWa HBWa hHeld  ⊢
                rw [hnew, hNA] at HNA
                try rw [hNA]
                clear hnew hNA
                refine wpAnyT_two (i := 3) (j := 14) (by kernel_rfl) rfl rfl (fun K hK => ?_) (fun K hK => ?_)
                ·
                  (refine step_append_lies _ (by rfl) _ _ _ (by rfl) H 3 i0 _ 1 8 Try.underlying26 hi0 hz0 hz1 hz2 rfl (by omega) u15 ca AL (by rfl) HRWa.out.oa ⟨NA, 0, none⟩ 1 1 [natV k] (by rfl) (by rfl) (World.news_of_block (cs := #[natV k]) (t := 3) (fr := (0, 0)) HNA.out) (by simp [natV, Value.oneCell']) (by omega) (by unfold maxLen; omega) (by omega) HRWa.out.hw _ rfl ?_; intro gw3 capw3 w3 hown hgrow hat hlt; have HRw3 := Lib.hid (HRWa.out.appA hgrow hown hat); have HBw3 : Hid (Below H w2 w3) := HBWa.out.grown hgrow HRWa.out.hw (fun q hq => (HRWa.out.oa.lt q hq).1); have HGw3 := Lib.hid hgrow; clear hown hgrow hat hlt)
                  refine hK.out _ _ ?_ (fun hHeld2 => ?_)
                  · (try dsimp only); exact HCC.out _ HBw3.out
                  clear hK K hHeld
                  have hHeld := hHeld2
                  clear hHeld2
                  try simp only [Act.put, List.getElem_toArray, List.getElem_cons_succ, List.getElem_cons_zero, List.setIfInBounds_toArray, List.set_cons_zero, List.set_cons_succ]
                  refine wpAnyT_one (i := 14) (by kernel_rfl) rfl (fun K hK => ?_)
                  go_simp
                  refine hK.out _ _ ?_ (fun hHeld2 => ?_)
                  · (try dsimp only); exact HCC.out _ (HBw3.out.alloc (by have := HRw3.out.hw; omega) _)
                  clear hK K hHeld
                  have hHeld := hHeld2
                  clear hHeld2
                  try simp only [Act.put, List.getElem_toArray, List.getElem_cons_succ, List.getElem_cons_zero, List.setIfInBounds_toArray, List.set_cons_zero, List.set_cons_succ]
                  have HRWb := Lib.hid (HRw3.out.alloc (.cells #[.int .i64 om] 3))
                  have HBWb : Hid (Below H w2 (w3.alloc (.cells #[.int .i64 om] 3))) := HBw3.out.alloc (by have := HRw3.out.hw; omega) _
                  have HNB : Hid ((w3.alloc (.cells #[.int .i64 om] 3)).heap[w3.heap.size]? = some (.cells #[.int .i64 om] 3 (0, 0))) := heap_alloc_new w3 _
                  obtain ⟨NB, hNB⟩ : ∃ x, w3.heap.size = x := ⟨_, rfl⟩
                  obtain ⟨Wb, hnew⟩ : ∃ x, w3.alloc (.cells #[.int .i64 om] 3) = x := ⟨_, rfl⟩
                  rw [hnew] at HRWb HBWb hHeld  ⊢
                  rw [hnew, hNB] at HNB
                  try rw [hNB]
                  clear hnew hNB
                  refine wpAnyT_one (i := 15) (by kernel_rfl) rfl (fun K hK => ?_)
                  (refine step_append_lies _ (by rfl) _ _ _ (by rfl) H 3 i0 _ 1 8 Try.underlying26 hi0 hz0 hz1 hz2 rfl (by omega) u16 ca BL (by rfl) HRWb.out.ob ⟨NB, 0, none⟩ 1 1 [.int .i64 om] (by rfl) (by rfl) (World.news_of_block (cs := #[.int .i64 om]) (t := 3) (fr := (0, 0)) HNB.out) (by simp [natV, Value.oneCell']) (by omega) (by unfold maxLen; omega) (by omega) HRWb.out.hw _ rfl ?_; intro gw4 capw4 w4 hown hgrow hat hlt; have HRw4 := Lib.hid (HRWb.out.appB hgrow hown hat); have HBw4 : Hid (Below H w2 w4) := HBWb.out.grown hgrow HRWb.out.hw (fun q hq => (HRWb.out.ob.lt q hq).1); have HGw4 := Lib.hid hgrow; clear hown hgrow hat hlt)
                  refine hK.out _ _ ?_ (fun hHeld2 => ?_)
                  · (try dsimp only); exact HCC.out _ HBw4.out
                  clear hK K hHeld
                  have hHeld := hHeld2
                  clear hHeld2
                  try simp only [Act.put, List.getElem_toArray, List.getElem_cons_succ, List.getElem_cons_zero, List.setIfInBounds_toArray, List.set_cons_zero, List.set_cons_succ]
                  have HRN := Lib.hid (HNEXT.out _ _ _ HRw4.out)
                  refine wpAnyT_take (i := 16) (v := ?_) rfl (by decide +kernel) (by decide +kernel) (by decide +kernel) (by decide +kernel) (by decide +kernel) (fun _ _ _ h => h) (Or.inl ⟨by rfl, ?_⟩) (by assumption) ?_
                  rotate_left
                  · intro w hSw; (try dsimp only at hSw); first | (go_simp; done) | (go_simp; with_reducible rfl)
                  try simp only [Act.put, List.getElem_toArray, List.getElem_cons_succ, List.getElem_cons_zero, List.setIfInBounds_toArray, List.set_cons_zero, List.set_cons_succ]
                  refine wpAnyT_last (i := 17) (by kernel_rfl) (by kernel_rfl) rfl (by kernel_rfl) (fun K hK => ?_)
                  go_simp
                  refine hK.out _ _ ?_
                  clear hK K
                  try simp only [Act.put, List.getElem_toArray, List.getElem_cons_succ, List.getElem_cons_zero, List.setIfInBounds_toArray, List.set_cons_zero, List.set_cons_succ]
                  clear hHeld
                  go_wp2
                  go_roundw
                  case rel => exact ⟨k + 1, by omega, by go_num, HRN.out, HBw4.out⟩
                  case measure => simp [intOf]; omega
                ·
                  go_simp
                  refine hK.out _ _ ?_ (fun hHeld2 => ?_)
                  · (try dsimp only); exact HCC.out _ (HBWa.out.alloc (by have := HRWa.out.hw; omega) _)
                  clear hK K hHeld
                  have hHeld := hHeld2
                  clear hHeld2
                  try simp only [Act.put, List.getElem_toArray, List.getElem_cons_succ, List.getElem_cons_zero, List.setIfInBounds_toArray, List.set_cons_zero, List.set_cons_succ]
                  have HRWb := Lib.hid (HRWa.out.alloc (.cells #[.int .i64 om] 3))
                  have HBWb : Hid (Below H w2 (Wa.alloc (.cells #[.int .i64 om] 3))) := HBWa.out.alloc (by have := HRWa.out.hw; omega) _
                  have HNB : Hid ((Wa.alloc (.cells #[.int .i64 om] 3)).heap[Wa.heap.size]? = some (.cells #[.int .i64 om] 3 (0, 0))) := heap_alloc_new Wa _
                  have HNAWb := Lib.hid (blk_put HNA.out (.cells #[.int .i64 om] 3))
                  have HNBU : Hid (∀ x, u15.ownBlock = some x → x < Wa.heap.size) := fun x hx => (HRWa.out.oa.lt x hx).2
                  obtain ⟨NB, hNB⟩ : ∃ x, Wa.heap.size = x := ⟨_, rfl⟩
                  obtain ⟨Wb, hnew⟩ : ∃ x, Wa.alloc (.cells #[.int .i64 om] 3) = x := ⟨_, rfl⟩
                  rw [hnew] at HRWb HBWb hHeld HNAWb ⊢
                  rw [hnew, hNB] at HNB
                  rw [hNB] at HNBU
                  try rw [hNB]
                  clear hnew hNB
                  clear HNA
                  have HNA := Lib.hid HNAWb.out
                  clear HNAWb
                  refine wpAnyT_one (i := 3) (by kernel_rfl) rfl (fun K hK => ?_)
                  (refine step_append_lies _ (by rfl) _ _ _ (by rfl) H 3 i0 _ 1 8 Try.underlying26 hi0 hz0 hz1 hz2 rfl (by omega) u15 ca AL (by rfl) HRWb.out.oa ⟨NA, 0, none⟩ 1 1 [natV k] (by rfl) (by rfl) (World.news_of_block (cs := #[natV k]) (t := 3) (fr := (0, 0)) HNA.out) (by simp [natV, Value.oneCell']) (by omega) (by unfold maxLen; omega) (by omega) HRWb.out.hw _ rfl ?_; intro gw3 capw3 w3 hown hgrow hat hlt; have HRw3 := Lib.hid (HRWb.out.appA hgrow hown hat); have HBw3 : Hid (Below H w2 w3) := HBWb.out.grown hgrow HRWb.out.hw (fun q hq => (HRWb.out.oa.lt q hq).1); have HGw3 := Lib.hid hgrow; clear hown hgrow hat hlt)
                  refine hK.out _ _ ?_ (fun hHeld2 => ?_)
                  · (try dsimp only); exact HCC.out _ HBw3.out
                  clear hK K hHeld
                  have hHeld := hHeld2
                  clear hHeld2
                  try simp only [Act.put, List.getElem_toArray, List.getElem_cons_succ, List.getElem_cons_zero, List.setIfInBounds_toArray, List.set_cons_zero, List.set_cons_succ]
                  have HNB3 := Lib.hid (blk_keep HNB.out HGw3.out (fun e => by have := HNBU.out _ e.symm; omega))
                  clear HNB
                  have HNB := Lib.hid HNB3.out
                  refine wpAnyT_one (i := 15) (by kernel_rfl) rfl (fun K hK => ?_)
                  (refine step_append_lies _ (by rfl) _ _ _ (by rfl) H 3 i0 _ 1 8 Try.underlying26 hi0 hz0 hz1 hz2 rfl (by omega) u16 ca BL (by rfl) HRw3.out.ob ⟨NB, 0, none⟩ 1 1 [.int .i64 om] (by rfl) (by rfl) (World.news_of_block (cs := #[.int .i64 om]) (t := 3) (fr := (0, 0)) HNB.out) (by simp [natV, Value.oneCell']) (by omega) (by unfold maxLen; omega) (by omega) HRw3.out.hw _ rfl ?_; intro gw4 capw4 w4 hown hgrow hat hlt; have HRw4 := Lib.hid (HRw3.out.appB hgrow hown hat); have HBw4 : Hid (Below H w2 w4) := HBw3.out.grown hgrow HRw3.out.hw (fun q hq => (HRw3.out.ob.lt q hq).1); have HGw4 := Lib.hid hgrow; clear hown hgrow hat hlt)
                  refine hK.out _ _ ?_ (fun hHeld2 => ?_)
                  · (try dsimp only); exact HCC.out _ HBw4.out
                  clear hK K hHeld
                  have hHeld := hHeld2
                  clear hHeld2
                  try simp only [Act.put, List.getElem_toArray, List.getElem_cons_succ, List.getElem_cons_zero, List.setIfInBounds_toArray, List.set_cons_zero, List.set_cons_succ]
                  have HRN := Lib.hid (HNEXT.out _ _ _ HRw4.out)
                  refine wpAnyT_take (i := 16) (v := ?_) rfl (by decide +kernel) (by decide +kernel) (by decide +kernel) (by decide +kernel) (by decide +kernel) (fun _ _ _ h => h) (Or.inl ⟨by rfl, ?_⟩) (by assumption) ?_
                  rotate_left
                  · intro w hSw; (try dsimp only at hSw); first | (go_simp; done) | (go_simp; with_reducible rfl)
                  try simp only [Act.put, List.getElem_toArray, List.getElem_cons_succ, List.getElem_cons_zero, List.setIfInBounds_toArray, List.set_cons_zero, List.set_cons_succ]
                  refine wpAnyT_last (i := 17) (by kernel_rfl) (by kernel_rfl) rfl (by kernel_rfl) (fun K hK => ?_)
                  go_simp
                  refine hK.out _ _ ?_
                  clear hK K
                  try simp only [Act.put, List.getElem_toArray, List.getElem_cons_succ, List.getElem_cons_zero, List.setIfInBounds_toArray, List.set_cons_zero, List.set_cons_succ]
                  clear hHeld
                  go_wp2
                  go_roundw
                  case rel => exact ⟨k + 1, by omega, by go_num, HRN.out, HBw4.out⟩
                  case measure => simp [intOf]; omega
              ·
                go_simp
                refine hK.out _ _ ?_ (fun hHeld2 => ?_)
                · (try dsimp only); exact HCC.out _ (HBW0.out.alloc (by have := HRW0.out.hw; omega) _)
                clear hK K hHeld
                have hHeld := hHeld2
                clear hHeld2
                try simp only [Act.put, List.getElem_toArray, List.getElem_cons_succ, List.getElem_cons_zero, List.setIfInBounds_toArray, List.set_cons_zero, List.set_cons_succ]
                have HRWa := Lib.hid (HRW0.out.alloc (.cells #[.int .i64 om] 3))
                have HBWa : Hid (Below H w2 (W0.alloc (.cells #[.int .i64 om] 3))) := HBW0.out.alloc (by have := HRW0.out.hw; omega) _
                have HNB : Hid ((W0.alloc (.cells #[.int .i64 om] 3)).heap[W0.heap.size]? = some (.cells #[.int .i64 om] 3 (0, 0))) := heap_alloc_new W0 _
                have HNBU : Hid (∀ x, u15.ownBlock = some x → x < W0.heap.size) := fun x hx => (HRW0.out.oa.lt x hx).2
                obtain ⟨NB, hNB⟩ : ∃ x, W0.heap.size = x := ⟨_, rfl⟩
                obtain ⟨Wa, hnew⟩ : ∃ x, W0.alloc (.cells #[.int .i64 om] 3) = x := ⟨_, rfl⟩
                rw [hnew] at HRWa HBWa hHeld  ⊢
                rw [hnew, hNB] at HNB
                rw [hNB] at HNBU
                try rw [hNB]
                clear hnew hNB
                refine wpAnyT_one (i := 2) (by kernel_rfl) rfl (fun K hK => ?_)
                go_simp
                refine hK.out _ _ ?_ (fun hHeld2 => ?_)
                · (try dsimp only); exact HCC.out _ (HBWa.out.alloc (by have := HRWa.out.hw; omega) _)
                clear hK K hHeld
                have hHeld := hHeld2
                clear hHeld2
                try simp only [Act.put, List.getElem_toArray, List.getElem_cons_succ, List.getElem_cons_zero, List.setIfInBounds_toArray, List.set_cons_zero, List.set_cons_succ]
                have HRWb := Lib.hid (HRWa.out.alloc (.cells #[.int .i64 (k : Int)] 3))
                have HBWb : Hid (Below H w2 (Wa.alloc (.cells #[.int .i64 (k : Int)] 3))) := HBWa.out.alloc (by have := HRWa.out.hw; omega) _
                have HNA : Hid ((Wa.alloc (.cells #[.int .i64 (k : Int)] 3)).heap[Wa.heap.size]? = some (.cells #[.int .i64 (k : Int)] 3 (0, 0))) := heap_alloc_new Wa _
                have HNBWb := Lib.hid (blk_put HNB.out (.cells #[.int .i64 (k : Int)] 3))
                obtain ⟨NA, hNA⟩ : ∃ x, Wa.heap.size = x := ⟨_, rfl⟩
                obtain ⟨Wb, hnew⟩ : ∃ x, Wa.alloc (.cells #[.int .i64 (k : Int)] 3) = x := ⟨_, rfl⟩
                rw [hnew] at HRWb HBWb hHeld HNBWb ⊢
                rw [hnew, hNA] at HNA
                try rw [hNA]
                clear hnew hNA
                clear HNB
                have HNB := Lib.hid HNBWb.out
                clear HNBWb
                refine wpAnyT_one (i := 3) (by kernel_rfl) rfl (fun K hK => ?_)
                (refine step_append_lies _ (by rfl) _ _ _ (by rfl) H 3 i0 _ 1 8 Try.underlying26 hi0 hz0 hz1 hz2 rfl (by omega) u15 ca AL (by rfl) HRWb.out.oa ⟨NA, 0, none⟩ 1 1 [natV k] (by rfl) (by rfl) (World.news_of_block (cs := #[natV k]) (t := 3) (fr := (0, 0)) HNA.out) (by simp [natV, Value.oneCell']) (by omega) (by unfold maxLen; omega) (by omega) HRWb.out.hw _ rfl ?_; intro gw3 capw3 w3 hown hgrow hat hlt; have HRw3 := Lib.hid (HRWb.out.appA hgrow hown hat); have HBw3 : Hid (Below H w2 w3) := HBWb.out.grown hgrow HRWb.out.hw (fun q hq => (HRWb.out.oa.lt q hq).1); have HGw3 := Lib.hid hgrow; clear hown hgrow hat hlt)
                refine hK.out _ _ ?_ (fun hHeld2 => ?_)
                · (try dsimp only); exact HCC.out _ HBw3.out
                clear hK K hHeld
                have hHeld := hHeld2
                clear hHeld2
                try simp only [Act.put, List.getElem_toArray, List.getElem_cons_succ, List.getElem_cons_zero, List.setIfInBounds_toArray, List.set_cons_zero, List.set_cons_succ]
                have HNB3 := Lib.hid (blk_keep HNB.out HGw3.out (fun e => by have := HNBU.out _ e.symm; omega))
                clear HNB
                have HNB := Lib.hid HNB3.out
                refine wpAnyT_one (i := 15) (by kernel_rfl) rfl (fun K hK => ?_)
                (refine step_append_lies _ (by rfl) _ _ _ (by rfl) H 3 i0 _ 1 8 Try.underlying26 hi0 hz0 hz1 hz2 rfl (by omega) u16 ca BL (by rfl) HRw3.out.ob ⟨NB, 0, none⟩ 1 1 [.int .i64 om] (by rfl) (by rfl) (World.news_of_block (cs := #[.int .i64 om]) (t := 3) (fr := (0, 0)) HNB.out) (by simp [natV, Value.oneCell']) (by omega) (by unfold maxLen; omega) (by omega) HRw3.out.hw _ rfl ?_; intro gw4 capw4 w4 hown hgrow hat hlt; have HRw4 := Lib.hid (HRw3.out.appB hgrow hown hat); have HBw4 : Hid (Below H w2 w4) := HBw3.out.grown hgrow HRw3.out.hw (fun q hq => (HRw3.out.ob.lt q hq).1); have HGw4 := Lib.hid hgrow; clear hown hgrow hat hlt)
                refine hK.out _ _ ?_ (fun hHeld2 => ?_)
                · (try dsimp only); exact HCC.out _ HBw4.out
                clear hK K hHeld
                have hHeld := hHeld2
                clear hHeld2
                try simp only [Act.put, List.getElem_toArray, List.getElem_cons_succ, List.getElem_cons_zero, List.setIfInBounds_toArray, List.set_cons_zero, List.set_cons_succ]
                have HRN := Lib.hid (HNEXT.out _ _ _ HRw4.out)
                refine wpAnyT_take (i := 16) (v := ?_) rfl (by decide +kernel) (by decide +kernel) (by decide +kernel) (by decide +kernel) (by decide +kernel) (fun _ _ _ h => h) (Or.inl ⟨by rfl, ?_⟩) (by assumption) ?_
                rotate_left
                · intro w hSw; (try dsimp only at hSw); first | (go_simp; done) | (go_simp; with_reducible rfl)
                try simp only [Act.put, List.getElem_toArray, List.getElem_cons_succ, List.getElem_cons_zero, List.setIfInBounds_toArray, List.set_cons_zero, List.set_cons_succ]
                refine wpAnyT_last (i := 17) (by kernel_rfl) (by kernel_rfl) rfl (by kernel_rfl) (fun K hK => ?_)
                go_simp
                refine hK.out _ _ ?_
                clear hK K
                try simp only [Act.put, List.getElem_toArray, List.getElem_cons_succ, List.getElem_cons_zero, List.setIfInBounds_toArray, List.set_cons_zero, List.set_cons_succ]
                clear hHeld
                go_wp2
                go_roundw
                case rel => exact ⟨k + 1, by omega, by go_num, HRN.out, HBw4.out⟩
                case measure => simp [intOf]; omega
              -- ENDDRAWN13
          · have HONA : Hid (opensTo fa (k + 1) = opensTo fa k) := opensTo_yes (by rw [HKAA.out]; simpa using c1)
            have d1 : (q0 == 1) = false := by simpa using c1
            by_cases c2 : q0 = 2
            · have HONF : Hid (opensTo ff (k + 1) = opensTo ff k ++ [k]) := opensTo_no (by rw [HKFF.out, c2]; rfl)
              have d2 : (q0 == 2) = true := by simpa using c2
              clear c1 c2
              as_aux_lemma =>
                go_wp2_with (at_builtin; refine wpList_append_lies _ rfl _ _ 26 rfl H 3 i0 _ 1 8 Try.underlying26 hi0 hz0 hz1 hz2 rfl (by omega) _ cf CL rfl (HR5.out.oc.alloc _) ⟨wr.heap.size + 1, 0, none⟩ 1 1 [natV k] rfl rfl (World.news_of_block (cs := #[natV k]) (t := 3) (fr := (0, 0)) (by have := heap_alloc_new (wr.alloc (.cells #[.int .i64 q0, .int .i64 q1] 42)) (.cells #[natV k] 3); rwa [World.size_alloc] at this)) (by simp [natV, Value.oneCell']) (by omega) (by unfold maxLen; omega) (by omega) (by have := HR5.out.hw; simp at this; simp; omega) _ rfl ?_; intro gg cap' w6 hown6 hgrow6 hat6 hlt6; have HR6 := Lib.hid ((HR5.out.alloc (.cells #[natV k] 3)).appC hgrow6 hown6 hat6); have HB6 : Hid (Below H w2 w6) := (HB5.out.alloc HR5.out.hw _).grown hgrow6 (HR5.out.alloc (.cells #[natV k] 3)).hw (fun q hq => (HR5.out.oc.lt q hq).1); clear hown6 hgrow6 hat6 hlt6)
                go_roundw
                case rel => exact ⟨k + 1, by omega, by go_num, by rw [HONA.out, HONF.out, HCAE.out, HALE.out, HBLE.out, List.length_append, HCFE.out, List.map_append, HCLE.out]; exact HR6.out, HB6.out⟩
                case measure => simp [intOf]; omega
            · have HONF : Hid (opensTo ff (k + 1) = opensTo ff k) := opensTo_yes (by rw [HKFF.out]; simpa using c2)
              have d2 : (q0 == 2) = false := by simpa using c2
              clear c1 c2
              go_wp2_with fail
              go_roundw
              case rel => exact ⟨k + 1, by omega, by go_num, by rw [HONA.out, HONF.out, HCAE.out, HALE.out, HBLE.out, HCFE.out, HCLE.out]; exact HR5.out, HB5.out⟩
              case measure => simp [intOf]; omega
      · obtain rfl : k = n := by omega
        as_aux_lemma =>
          obtain ⟨w3, rfl⟩ : ∃ x : World, x = wr := ⟨_, rfl⟩
          rw [← HAU.out, ← HFA.out] at HR
          obtain ⟨U, hU⟩ : ∃ x, autos l = x := ⟨_, rfl⟩
          obtain ⟨F, hF⟩ : ∃ x, fracs l = x := ⟨_, rfl⟩
          have HUE := Lib.hid hU
          have HFEQ := Lib.hid hF
          obtain ⟨ca, hca⟩ : ∃ c, U.length = c := ⟨_, rfl⟩
          obtain ⟨cf, hcf⟩ : ∃ c, F.length = c := ⟨_, rfl⟩
          have HCA := Lib.hid hca
          have HCF := Lib.hid hcf
          have hcak : ca ≤ k := by rw [← hca, ← hU, ← HN.out]; exact autos_le l
          have hcfk : cf ≤ k := by rw [← hcf, ← hF, ← HN.out]; exact fracs_le l
          rw [hU, hF, hca, hcf] at HR
          rw [hF, hcf] at HRES
          have HUI : Hid (∀ j, j < ca → gn U j < k) := fun j hj => by rw [← hU, ← HN.out]; exact (autos_mem (by rw [hU, hca]; exact hj)).1
          have HFI : Hid (∀ j, j < cf → gn F j < k) := fun j hj => by rw [← hF, ← HN.out]; exact (fracs_mem (by rw [hF, hcf]; exact hj)).1
          have HPAR : Hid (0 < fr → (fr < sumTo (autoW l ls ms ca) ca → shareErr fr (autoW l ls ms ca) = 0) ∧ (autoP l ls ms fr).length = ca ∧ (∀ j, j < ca → 0 ≤ gz (autoP l ls ms fr) j ∧ gz (autoP l ls ms fr) j ≤ 134217728)) := fun h => by
            have h2 := HSZ.out.parts (free := fr) h (by omega) HH24.out
            rw [hU, hca] at h2
            exact ⟨h2.1, h2.2.1, h2.2.2.1⟩
          have HAP : Hid (autoP l ls ms fr = if fr < sumTo (autoW l ls ms ca) ca then shareParts fr (autoW l ls ms ca) else autoW l ls ms ca) := by show _ = _; unfold autoP; rw [hU, hca]
          have HGR : Hid (grown l ls ms av gp = if 0 < fr then addAt ls U (autoP l ls ms fr) ca else ls) := by show _ = _; unfold grown; rw [HFE.out, hU, hca]
          have HADB : Hid (0 < fr → ∀ j, j ≤ ca → szTo (addAt ls U (autoP l ls ms fr) j) 268435456) := fun h j hj => by
            have h2 := autoAdd_bd (l := l) (s := ls) (P := autoP l ls ms fr) (b := 134217728) (d := 134217728) HSZ.out.lb HSZ.out.l.symm (by omega) (by rw [hU, hca]; exact (HPAR.out h).2.2) j (by rw [hU, hca]; exact hj)
            rw [hU] at h2; exact h2
          clear hU hF hca hcf
          have HUO : Hid (∃ oa oc, u15 = .slice oa ca oc ∧ (0 < ca → ∃ ob oo, oa = some ⟨ob, oo, none⟩ ∧ H ≤ ob ∧ ob < w3.heap.size ∧ ∀ j, j < ca → w3.cell? ⟨ob, oo + j, none⟩ = some (.int .i64 ((gn U j : Nat) : Int)))) := own_nats HR.out.oa HCA.out
          have HFO : Hid (∃ oa oc, u17 = .slice oa cf oc ∧ (0 < cf → ∃ ob oo, oa = some ⟨ob, oo, none⟩ ∧ H ≤ ob ∧ ob < w3.heap.size ∧ ∀ j, j < cf → w3.cell? ⟨ob, oo + j, none⟩ = some (.int .i64 ((gn F j : Nat) : Int)))) := own_nats HR.out.oc HCF.out
          have HWI : Hid (IsInts w3 u16 (autoW l ls ms ca)) := by
            have h := HR.out.ob
            have hl : (autoW l ls ms ca).length = ca := autoW_len _ _ _ _
            have h2 : w3.ownsRow H 3 1 u16 (autoW l ls ms ca).length ((autoW l ls ms ca).map (Value.int .i64)) := by rw [hl]; exact h
            exact ownsRow_isInts h2
          have HWF : Hid (freshV H u16) := own_fresh HR.out.ob
          have HH3 : Hid (H ≤ w3.heap.size) := HR.out.hw
          obtain ⟨oa15, oc15, rfl, HU4⟩ := HUO.out
          have HUX := Lib.hid HU4
          obtain ⟨oa17, oc17, rfl, HF4⟩ := HFO.out
          have HFX := Lib.hid HF4
          have HL3 : Hid (OwnI w3 L ls) := HL.out.of_below HB.out HLH.out.1
          have HBW3 : Hid (Below w.heap.size w w3) := HB2.out.trans (HB.out.mono HWH.out)
          clear HU4 HF4 HUO HFO HR HB HKA HKF HRK HAU HFA HSI HSM
          go_upto_if 94 with fail
          go_cut [] (fun wx => OwnI wx L (grown l ls ms av gp) ∧ Turn L L w3 wx)
          case first =>
            as_aux_lemma =>
              by_cases hf : 0 < fr
              · have HGR2 : Hid (grown l ls ms av gp = addAt ls U (autoP l ls ms fr) ca) := by show _ = _; rw [HGR.out, if_pos hf]
                obtain ⟨hpe, hpl, hpb⟩ := HPAR.out hf
                have HPE := Lib.hid hpe
                have HPB := Lib.hid hpb
                have HPL := Lib.hid hpl
                have HAB := Lib.hid (HADB.out hf)
                clear hpe hpl hpb
                obtain ⟨S, hS⟩ : ∃ S, sumTo (autoW l ls ms ca) ca = S := ⟨_, rfl⟩
                have HSS := Lib.hid hS
                rw [hS] at HAP HPE
                have HSM2 : Hid (Calls Try.prog 30 #[u16] w3 fun e w' => e = .returned (.int .i64 S) ∧ w3 = w') := by
                  have hl : (autoW l ls ms ca).length = ca := autoW_len _ _ _ _
                  have h := gsum_any _ _ w3 HWI.out (fun j hj => by
                    rw [hl] at hj
                    have h2 := szTo_sum (s := autoW l ls ms ca) (b := 134217728) (fun i hi => by rw [hl] at hi; exact HSZ.out.weight (m := ca) (by rw [HUE.out, HCA.out]; exact Nat.le_refl _) hi) j (by rw [hl]; exact hj)
                    omega)
                  rw [hl, hS] at h; exact h
                clear hS
                go_upto_if 98 with (go_at_call 30; refine HSM2.out.mono ?_; rintro e w' ⟨rfl, rfl⟩)
                go_cut [16] (fun s16 wx => IsInts wx s16 (autoP l ls ms fr) ∧ freshV H s16 ∧ Below w3.heap.size w3 wx)
                case first =>
                  as_aux_lemma =>
                    by_cases hs : fr < S
                    · have hap : autoP l ls ms fr = shareParts fr (autoW l ls ms ca) := by rw [HAP.out, if_pos hs]
                      have hee := HPE.out hs
                      go_wp2_with (go_at_call 31; refine (share_new _ fr (autoW l ls ms ca) _ HWI.out).mono ?_; rw [SharedN_eq hee]; rintro e w4 ⟨v4, rfl, hv4, hb4, hf4⟩)
                      go_meet
                      exact ⟨by rw [hap]; exact hv4, fun a m c e => Nat.le_trans HH3.out (hf4 a m c e), hb4⟩
                    · have hap : autoP l ls ms fr = autoW l ls ms ca := by rw [HAP.out, if_neg hs]
                      go_wp2
                      go_meet
                      exact ⟨by rw [hap]; exact HWI.out, HWF.out, Below.refl _ _⟩
                case rest =>
                  obtain ⟨hp4, hf4, hb4⟩ := hcut
                  obtain ⟨w4, rfl⟩ : ∃ x : World, x = wc := ⟨_, rfl⟩
                  have HB4 := Lib.hid hb4
                  have HF4 := Lib.hid hf4
                  obtain ⟨P, hP⟩ : ∃ P, autoP l ls ms fr = P := ⟨_, rfl⟩
                  rw [hP] at hp4 HPB HPL HAB HGR2
                  obtain ⟨pa, pc, rfl, p1, p2, p3⟩ := hp4
                  rw [HPL.out] at p1 p3 ⊢
                  have P3 := Lib.hid p3
                  have HL4 : Hid (OwnI w4 L ls) := HL3.out.of_below hb4 HL3.out.lt
                  have HT4 : Hid (Turn L L w3 w4) := Turn.of_below hb4
                  clear hP p1 p2 p3 hf4 hb4
                  go_wp2_with fail
                  obtain ⟨w5, rfl⟩ : ∃ x : World, x = w4 := ⟨_, rfl⟩
                  go_loopw [107] (fun ii wr => ∃ j : Nat, j ≤ ca ∧ ii = .int .i64 j ∧ OwnI wr L (addAt ls U P j) ∧ Turn L L w5 wr) (fun ii _ => ca - (intOf ii).toNat)
                  case atStart => exact ⟨0, Nat.zero_le _, rfl, HL4.out, Turn.of_below (Below.refl _ _)⟩
                  case round =>
                    obtain ⟨j, hj, rfl, hoj, htj⟩ := hrel
                    have HOJ := Lib.hid hoj
                    have HTJ := Lib.hid htj
                    clear hoj htj
                    by_cases hjc : j < ca
                    ·
                      as_aux_lemma =>
                        obtain ⟨ob, oo, rfl, hob, hobl, hocell⟩ := HUX.out (by omega)
                        obtain ⟨pb, po, rfl, hplt, hpcell⟩ := P3.out (by omega)
                        have HPN : Hid (pb ≠ L) := by have h1 : H ≤ pb := HF4.out _ _ _ rfl; have h2 := HLH.out.1; show pb ≠ L; omega
                        have HON : Hid (ob ≠ L) := by have h2 := HLH.out.1; show ob ≠ L; omega
                        have co := (HTJ.out.cell (p := ⟨ob, oo + j, none⟩) (Nat.lt_of_lt_of_le hobl HB4.out.size) HON.out HON.out).trans ((HB4.out.cell (p := ⟨ob, oo + j, none⟩) hobl).trans (hocell j hjc))
                        have cp := (HTJ.out.cell (p := ⟨pb, po + j, none⟩) hplt HPN.out HPN.out).trans (hpcell j hjc)
                        have hon := HUI.out j hjc
                        have hpj := HPB.out j hjc
                        have HAN : Hid (addAt ls U P (j + 1) = (addAt ls U P j).set (gn U j) (gz (addAt ls U P j) (gn U j) + gz P j)) := rfl
                        obtain ⟨o, ho⟩ : ∃ o, gn U j = o := ⟨_, rfl⟩
                        rw [ho] at co hon HAN
                        have hlen : (addAt ls U P j).length = k := by rw [addAt_len, HLL.out]
                        have cs := HOJ.out.cell (i := o) (by rw [hlen]; exact hon)
                        have fs := HOJ.out.free o
                        have hsb := HAB.out j (by omega) o (by rw [hlen]; exact hon)
                        obtain ⟨x, hx⟩ : ∃ x, gz (addAt ls U P j) o = x := ⟨_, rfl⟩
                        obtain ⟨p, hp⟩ : ∃ p, gz P j = p := ⟨_, rfl⟩
                        rw [hx] at cs hsb HAN
                        rw [hp] at cp hpj HAN
                        have hjc' : (j : Int) < (ca : Int) := by omega
                        have hj0 : (0 : Int) ≤ (j : Int) := by omega
                        have ho0 : (0 : Int) ≤ (o : Int) := by omega
                        have hon' : (o : Int) < (k : Int) := by omega
                        have hwx : IntKind.i64.wrap (x + p) = x + p := IntWalk.i64_in _ (by omega)
                        have HO5 : Hid (OwnI (wr.setCell ⟨L, o, none⟩ (.int .i64 (x + p))) L (addAt ls U P (j + 1))) := by
                          show OwnI _ _ _
                          rw [HAN.out]; exact HOJ.out.set o _
                        have HT5 : Hid (Turn L L w5 (wr.setCell ⟨L, o, none⟩ (.int .i64 (x + p)))) := HTJ.out.trans (Turn.set wr (.inl rfl) o _)
                        clear ho hx hp hpj hsb hlen hocell hpcell hplt hobl hob
                        go_wp2_with fail
                        go_region
                        all_goals
                          go_wp2
                          go_roundw
                          case rel => exact ⟨j + 1, by omega, by go_num, HO5.out, HT5.out.drew⟩
                          case measure => simp [intOf]; omega
                    · obtain rfl : j = ca := by omega
                      go_wp2
                      go_meet
                      exact ⟨by rw [HGR2.out]; exact HOJ.out, HT4.out.trans HTJ.out⟩
              · have HGR2 : Hid (grown l ls ms av gp = ls) := by show _ = _; rw [HGR.out, if_neg hf]
                have d0 : decide (0 < fr) = false := by simpa using hf
                go_wp2
                go_meet
                exact ⟨by rw [HGR2.out]; exact HL3.out, Turn.of_below (Below.refl _ _)⟩
          case rest =>
            as_aux_lemma =>
              obtain ⟨hg4, ht4⟩ := hcut
              obtain ⟨w4, rfl⟩ : ∃ x : World, x = wc := ⟨_, rfl⟩
              obtain ⟨GS, hGS⟩ : ∃ x, grown l ls ms av gp = x := ⟨_, rfl⟩
              have HGSL : Hid (GS.length = k) := by show _ = _; rw [← hGS, grown_len, HLL.out]
              have HGSB : Hid (szTo GS 268435456) := by show szTo _ _; rw [← hGS]; exact HSZ.out.grown HAV.out HGP.out HH24.out
              rw [hGS] at hg4 HRES
              have HG4 := Lib.hid hg4
              obtain ⟨H4, hH4⟩ : ∃ x, w4.heap.size = x := ⟨_, rfl⟩
              have HH4 := Lib.hid hH4
              have HHH : Hid (H ≤ H4 ∧ w.heap.size ≤ H4 ∧ L < H4) := by
                have h1 := ht4.size
                have h2 := HH3.out
                have h3 := HBW3.out.size
                have h4 := HG4.out.lt
                rw [hH4] at h1 h4
                exact ⟨by omega, by omega, h4⟩
              have HBW4 : Hid (Below w.heap.size w w4) := HBW3.out.trans (ht4.low HL0.out HL0.out HBW3.out.size)
              have HFX4 : Hid (0 < cf → ∃ ob oo, oa17 = some ⟨ob, oo, none⟩ ∧ ob < H4 ∧ ob ≠ L ∧ ∀ j, j < cf → w4.cell? ⟨ob, oo + j, none⟩ = some (.int .i64 ((gn F j : Nat) : Int))) := fun h => by
                obtain ⟨ob, oo, h1, h2, h3, h4⟩ := HFX.out h
                have h5 := ht4.size
                have h6 := HLH.out.1
                rw [hH4] at h5
                have h7 : ob ≠ L := by omega
                exact ⟨ob, oo, h1, by omega, h7, fun j hj => (ht4.cell (p := ⟨ob, oo + j, none⟩) h3 h7 h7).trans (h4 j hj)⟩
              have HNB : Hid (∀ j, j ≤ k → 0 ≤ nonF l GS j ∧ nonF l GS j ≤ 268435456 * (j : Int)) := fun j hj => nonF_bd HGSB.out j (by rw [HGSL.out]; exact hj)
              clear hg4 ht4 hGS hH4 HFX HUX HPAR HAP HGR HADB HUI HWI HWF HL3 HBW3 HH3
              go_wp2_with fail
              go_loopw [22, 126] (fun s i wr => ∃ j : Nat, j ≤ k ∧ i = .int .i64 j ∧ s = .int .i64 (sp - nonF l GS j) ∧ Below H4 w4 wr) (fun _ i _ => k - (intOf i).toNat)
              case atStart => exact ⟨0, Nat.zero_le _, rfl, by simp [nonF], Below.refl _ _⟩
              case round =>
                obtain ⟨j, hj, rfl, rfl, hbl⟩ := hrel
                have HB := Lib.hid hbl
                have hnb := HNB.out j hj
                obtain ⟨NF, hNF⟩ : ∃ x, nonF l GS j = x := ⟨_, rfl⟩
                have HNF := Lib.hid hNF
                rw [hNF] at hnb
                rw [hNF]
                clear hbl hNF
                by_cases hjn : j < k
                ·
                  as_aux_lemma =>
                    obtain ⟨b, off, rfl, hlt, hcell⟩ := H3.out (by omega)
                    have HBW : Hid (Below w.heap.size w wr) := HBW4.out.trans (HB.out.mono HHH.out.2.1)
                    have k0 := (HBW.out.cell (p := ⟨b, off + j * 2 + 0, none⟩) hlt).trans (hcell j hjn 0 (by omega))
                    have k1 := (HBW.out.cell (p := ⟨b, off + j * 2 + 1, none⟩) hlt).trans (hcell j hjn 1 (by omega))
                    rw [Nat.add_zero] at k0
                    have HNN : Hid (nonF l GS (j + 1) = if gf l j 0 = 2 then nonF l GS j else nonF l GS j + gz GS j) := rfl
                    have hnb1 := HNB.out (j + 1) hjn
                    obtain ⟨q0, hq0⟩ : ∃ q, gf l j 0 = q := ⟨_, rfl⟩
                    obtain ⟨q1, hq1⟩ : ∃ q, gf l j 1 = q := ⟨_, rfl⟩
                    rw [hq0] at k0 HNN
                    rw [hq1] at k1
                    rw [HNF.out] at HNN
                    have HBA : Hid (Below H4 w4 (wr.alloc (.cells #[.int .i64 q0, .int .i64 q1] 42))) := HB.out.alloc (by have := HB.out.size; have := HH4.out; omega) _
                    have cs := (HG4.out.of_below HBA.out HHH.out.2.2).cell (i := j) (by rw [HGSL.out]; exact hjn)
                    have hsb := HGSB.out j (by rw [HGSL.out]; exact hjn)
                    obtain ⟨x, hx⟩ : ∃ x, gz GS j = x := ⟨_, rfl⟩
                    rw [hx] at cs HNN hsb
                    have hjn' : (j : Int) < (k : Int) := by omega
                    have hj0 : (0 : Int) ≤ (j : Int) := by omega
                    clear hcell hlt hq0 hq1 hx
                    by_cases c2 : q0 = 2
                    · rw [if_pos c2] at HNN
                      have d2 : (q0 != 2) = false := by simpa using c2
                      clear c2
                      go_wp2_with fail
                      go_roundw
                      case rel => exact ⟨j + 1, by omega, by go_num, by rw [HNN.out], HBA.out⟩
                      case measure => simp [intOf]; omega
                    · rw [if_neg c2] at HNN
                      have d2 : (q0 != 2) = true := by simpa using c2
                      have hw : IntKind.i64.wrap (sp - NF - x) = sp - NF - x := IntWalk.i64_in _ (by omega)
                      clear c2
                      go_wp2_with fail
                      go_roundw
                      case rel => exact ⟨j + 1, by omega, by go_num, by rw [HNN.out]; congr 1; omega, HBA.out⟩
                      case measure => simp [intOf]; omega
                · obtain rfl : j = k := by omega
                  as_aux_lemma =>
                    obtain ⟨w5, rfl⟩ : ∃ x : World, x = wr := ⟨_, rfl⟩
                    obtain ⟨R, hR⟩ : ∃ R, sp - NF = R := ⟨_, rfl⟩
                    have HRT : Hid (restT l GS av gp = R) := by show _ = _; unfold restT; rw [HN.out, HSP.out, HNF.out, hR]
                    rw [hR]
                    have hrb : -8589934592 ≤ R ∧ R ≤ 8589934592 := by omega
                    obtain ⟨H5, hH5⟩ : ∃ x, w5.heap.size = x := ⟨_, rfl⟩
                    have HH5 := Lib.hid hH5
                    have H45 : Hid (H4 ≤ H5) := by have := HB.out.size; rw [HH4.out, hH5] at this; exact this
                    have HG5 : Hid (OwnI w5 L GS) := HG4.out.of_below HB.out HHH.out.2.2
                    have HBW5 : Hid (Below w.heap.size w w5) := HBW4.out.trans (HB.out.mono HHH.out.2.1)
                    have HFX5 : Hid (0 < cf → ∃ ob oo, oa17 = some ⟨ob, oo, none⟩ ∧ ob < H5 ∧ ob ≠ L ∧ ∀ j, j < cf → w5.cell? ⟨ob, oo + j, none⟩ = some (.int .i64 ((gn F j : Nat) : Int))) := fun h => by
                      obtain ⟨ob, oo, h1, h2, h3, h4⟩ := HFX4.out h
                      exact ⟨ob, oo, h1, Nat.lt_of_lt_of_le h2 H45.out, h3, fun j hj => (HB.out.cell (p := ⟨ob, oo + j, none⟩) h2).trans (h4 j hj)⟩
                    have hcf24 : (cf : Int) ≤ 24 := by omega
                    clear hR hH5 HB HFX4 HBW4 HG4 HNF hnb
                    go_wp2_with fail
                    go_loopw [25, 143] (fun u i wr => ∃ m : Nat, m ≤ cf ∧ i = .int .i64 m ∧ wr.ownsRow H5 60 5 u m (recCells (flexL l GS m)) ∧ Below H5 w5 wr) (fun _ i _ => cf - (intOf i).toNat)
                    case atStart => exact ⟨0, Nat.zero_le _, rfl, World.ownsRow_nil _ _ _ _, Below.refl _ _⟩
                    case round =>
                      obtain ⟨m, hm, rfl, hO, hbl⟩ := hrel
                      have HO := Lib.hid hO
                      have HB := Lib.hid hbl
                      clear hO hbl
                      have HSZW : Hid (H5 ≤ wr.heap.size) := by have := HB.out.size; rw [HH5.out] at this; exact this
                      by_cases hmc : m < cf
                      ·
                        as_aux_lemma =>
                          obtain ⟨ob, oo, rfl, hob, hobL, hocell⟩ := HFX5.out (by omega)
                          have co := (HB.out.cell (p := ⟨ob, oo + m, none⟩) hob).trans (hocell m hmc)
                          have hon := HFI.out m hmc
                          have HFN : Hid (recCells (flexL l GS (m + 1)) = recCells (flexL l GS m) ++ (flexOf l GS (gn (fracs l) m)).map (Value.int .i64)) := by show _ = _; rw [flexL_succ, recCells_append]; simp [recCells]
                          rw [HFEQ.out] at HFN
                          obtain ⟨o, ho⟩ : ∃ o, gn F m = o := ⟨_, rfl⟩
                          rw [ho] at co hon HFN
                          have HFO : Hid (flexOf l GS o = [0, if 1048576 < gz GS o then 1048576 else gz GS o, 1048576, gf l o 1, 0]) := rfl
                          obtain ⟨b, off, rfl, hlt, hcell⟩ := H3.out (by omega)
                          have HBW : Hid (Below w.heap.size w wr) := HBW5.out.trans (HB.out.mono (by rw [← HH5.out]; exact HBW5.out.size))
                          have k1 := (HBW.out.cell (p := ⟨b, off + o * 2 + 1, none⟩) hlt).trans (hcell o hon 1 (by omega))
                          have cs := (HG5.out.of_below HB.out (Nat.lt_of_lt_of_le HHH.out.2.2 H45.out)).cell (i := o) (by rw [HGSL.out]; exact hon)
                          obtain ⟨q1, hq1⟩ : ∃ q, gf l o 1 = q := ⟨_, rfl⟩
                          obtain ⟨x, hx⟩ : ∃ x, gz GS o = x := ⟨_, rfl⟩
                          rw [hq1] at k1 HFO
                          rw [hx] at cs HFO
                          have HFM : Hid (∀ v, [0, v, 1048576, q1, 0].map (Value.int .i64) = [.int .i64 0, .int .i64 v, .int .i64 1048576, .int .i64 q1, .int .i64 0]) := fun v => rfl
                          have hmc' : (m : Int) < (cf : Int) := by omega
                          have hm0 : (0 : Int) ≤ (m : Int) := by omega
                          have ho0 : (0 : Int) ≤ (o : Int) := by omega
                          have hon' : (o : Int) < (j : Int) := by omega
                          have HCC : Hid (∀ W, Below H5 w5 W → W.cell? ⟨L, o, none⟩ = some (.int .i64 x) ∧ W.cell? ⟨b, off + o * 2 + 1, none⟩ = some (.int .i64 q1)) := fun W hW => by
                            have c1 := (HG5.out.of_below hW (Nat.lt_of_lt_of_le HHH.out.2.2 H45.out)).cell (i := o) (by rw [HGSL.out]; exact hon)
                            rw [hx] at c1
                            have c2 := ((HBW5.out.trans (hW.mono (by rw [← HH5.out]; exact HBW5.out.size))).cell (p := ⟨b, off + o * 2 + 1, none⟩) hlt).trans (hcell o hon 1 (by omega))
                            rw [hq1] at c2
                            exact ⟨c1, c2⟩
                          clear ho hq1 hx hcell hocell
                          go_upto_region 36 with fail
                          by_cases hx : 1048576 < x
                          · rw [if_pos hx] at HFO
                            rw [HFO.out, HFM.out] at HFN
                            refine wp_region_T (S := (fun w' => w'.cell? ⟨L, o, none⟩ = some (.int .i64 x) ∧ w'.cell? ⟨b, off + o * 2 + 1, none⟩ = some (.int .i64 q1))) 14 (by kernel_rfl) (HCC.out _ HB.out.drew) (fun hHeld => ?_)
                            refine wpAnyT_take (i := 0) (v := ?_) rfl (by decide +kernel) (by decide +kernel) (by decide +kernel) (by decide +kernel) (by decide +kernel) (fun _ _ _ h => h) (Or.inl ⟨by rfl, ?_⟩) (by assumption) ?_
                            rotate_left
                            · intro w hSw; (try dsimp only at hSw); first | (go_simp; done) | (go_simp; with_reducible rfl)
                            try simp only [Act.put, List.getElem_toArray, List.getElem_cons_succ, List.getElem_cons_zero, List.setIfInBounds_toArray, List.set_cons_zero, List.set_cons_succ]
                            refine wpAnyT_take (i := 1) (v := ?_) rfl (by decide +kernel) (by decide +kernel) (by decide +kernel) (by decide +kernel) (by decide +kernel) (fun _ _ _ h => h) (Or.inl ⟨by rfl, ?_⟩) (by assumption) ?_
                            rotate_left
                            · intro w hSw; (try dsimp only at hSw); first | (go_simp; done) | (go_simp; with_reducible rfl)
                            try simp only [Act.put, List.getElem_toArray, List.getElem_cons_succ, List.getElem_cons_zero, List.setIfInBounds_toArray, List.set_cons_zero, List.set_cons_succ]
                            refine wpAnyT_take (i := 2) (v := ?_) rfl (by decide +kernel) (by decide +kernel) (by decide +kernel) (by decide +kernel) (by decide +kernel) (fun _ _ _ h => h) (Or.inl ⟨by rfl, ?_⟩) (by assumption) ?_
                            rotate_left
                            · intro w hSw; (try dsimp only at hSw); first | (go_simp; done) | (go_simp; with_reducible rfl)
                            try simp only [Act.put, List.getElem_toArray, List.getElem_cons_succ, List.getElem_cons_zero, List.setIfInBounds_toArray, List.set_cons_zero, List.set_cons_succ]
                            refine wpAnyT_take (i := 3) (v := ?_) rfl (by decide +kernel) (by decide +kernel) (by decide +kernel) (by decide +kernel) (by decide +kernel) (fun _ _ _ h => h) (Or.inl ⟨by rfl, ?_⟩) (by assumption) ?_
                            rotate_left
                            · intro w hSw; (try dsimp only at hSw); first | (go_simp; done) | (go_simp; with_reducible rfl)
                            try simp only [Act.put, List.getElem_toArray, List.getElem_cons_succ, List.getElem_cons_zero, List.setIfInBounds_toArray, List.set_cons_zero, List.set_cons_succ]
                            refine wpAnyT_take (i := 4) (v := ?_) rfl (by decide +kernel) (by decide +kernel) (by decide +kernel) (by decide +kernel) (by decide +kernel) (fun _ _ _ h => h) (Or.inl ⟨by rfl, ?_⟩) (by assumption) ?_
                            rotate_left
                            · intro w hSw; (try dsimp only at hSw); first | (go_simp; done) | (go_simp; with_reducible rfl)
                            try simp only [Act.put, List.getElem_toArray, List.getElem_cons_succ, List.getElem_cons_zero, List.setIfInBounds_toArray, List.set_cons_zero, List.set_cons_succ]
                            refine wpAnyT_take (i := 5) (v := ?_) rfl (by decide +kernel) (by decide +kernel) (by decide +kernel) (by decide +kernel) (by decide +kernel) (fun _ _ _ h => h) (Or.inl ⟨by rfl, ?_⟩) (by assumption) ?_
                            rotate_left
                            · intro w hSw; (try dsimp only at hSw); first | (go_simp; done) | (go_simp; with_reducible rfl)
                            try simp only [Act.put, List.getElem_toArray, List.getElem_cons_succ, List.getElem_cons_zero, List.setIfInBounds_toArray, List.set_cons_zero, List.set_cons_succ]
                            refine wpAnyT_take (i := 6) (v := ?_) rfl (by decide +kernel) (by decide +kernel) (by decide +kernel) (by decide +kernel) (by decide +kernel) (fun _ _ _ h => h) (Or.inl ⟨by rfl, ?_⟩) (by assumption) ?_
                            rotate_left
                            · intro w hSw; (try dsimp only at hSw); first | (go_simp; done) | (go_simp; with_reducible rfl)
                            try simp only [Act.put, List.getElem_toArray, List.getElem_cons_succ, List.getElem_cons_zero, List.setIfInBounds_toArray, List.set_cons_zero, List.set_cons_succ]
                            refine wpAnyT_take (i := 7) (v := ?_) rfl (by decide +kernel) (by decide +kernel) (by decide +kernel) (by decide +kernel) (by decide +kernel) (fun _ _ _ h => h) (Or.inl ⟨by rfl, ?_⟩) (by assumption) ?_
                            rotate_left
                            · intro w hSw; (try dsimp only at hSw); first | (go_simp; done) | (go_simp; with_reducible rfl)
                            try simp only [Act.put, List.getElem_toArray, List.getElem_cons_succ, List.getElem_cons_zero, List.setIfInBounds_toArray, List.set_cons_zero, List.set_cons_succ]
                            refine wpAnyT_take (i := 8) (v := ?_) rfl (by decide +kernel) (by decide +kernel) (by decide +kernel) (by decide +kernel) (by decide +kernel) (fun _ _ _ h => h) (Or.inl ⟨by rfl, ?_⟩) (by assumption) ?_
                            rotate_left
                            · intro w hSw; (try dsimp only at hSw); first | (go_simp; done) | (go_simp; with_reducible rfl)
                            try simp only [Act.put, List.getElem_toArray, List.getElem_cons_succ, List.getElem_cons_zero, List.setIfInBounds_toArray, List.set_cons_zero, List.set_cons_succ]
                            refine wpAnyT_take (i := 9) (v := ?_) rfl (by decide +kernel) (by decide +kernel) (by decide +kernel) (by decide +kernel) (by decide +kernel) (fun _ _ _ h => h) (Or.inl ⟨by rfl, ?_⟩) (by assumption) ?_
                            rotate_left
                            · intro w hSw; (try dsimp only at hSw); first | (go_simp; done) | (go_simp; with_reducible rfl)
                            try simp only [Act.put, List.getElem_toArray, List.getElem_cons_succ, List.getElem_cons_zero, List.setIfInBounds_toArray, List.set_cons_zero, List.set_cons_succ]
                            refine wpAnyT_take (i := 10) (v := ?_) rfl (by decide +kernel) (by decide +kernel) (by decide +kernel) (by decide +kernel) (by decide +kernel) (fun _ _ _ h => h) (Or.inl ⟨by rfl, ?_⟩) (by assumption) ?_
                            rotate_left
                            · intro w hSw; (try dsimp only at hSw); first | (go_simp; done) | (go_simp; with_reducible rfl)
                            try simp only [Act.put, List.getElem_toArray, List.getElem_cons_succ, List.getElem_cons_zero, List.setIfInBounds_toArray, List.set_cons_zero, List.set_cons_succ]
                            refine wpAnyT_take (i := 11) (v := ?_) rfl (by decide +kernel) (by decide +kernel) (by decide +kernel) (by decide +kernel) (by decide +kernel) (fun _ _ _ h => h) (Or.inl ⟨by rfl, ?_⟩) (by assumption) ?_
                            rotate_left
                            · intro w hSw; (try dsimp only at hSw); first | (go_simp; done) | (go_simp; with_reducible rfl)
                            try simp only [Act.put, List.getElem_toArray, List.getElem_cons_succ, List.getElem_cons_zero, List.setIfInBounds_toArray, List.set_cons_zero, List.set_cons_succ]
                            have HBN : Hid (Below H5 w5 (wr.drew.alloc (.cells #[.int .i64 0, .int .i64 1048576, .int .i64 1048576, .int .i64 q1, .int .i64 0] 60))) := HB.out.drew.alloc HSZW.out _
                            refine wpAnyT_one (i := 12) (by kernel_rfl) rfl (fun K hK => ?_)
                            (refine step_flex1 ?_)
                            refine hK.out _ _ ?_ (fun hHeld2 => ?_)
                            · (try dsimp only); exact HCC.out _ HBN.out
                            clear hK K hHeld
                            have hHeld := hHeld2
                            clear hHeld2
                            try simp only [Act.put, List.getElem_toArray, List.getElem_cons_succ, List.getElem_cons_zero, List.setIfInBounds_toArray, List.set_cons_zero, List.set_cons_succ]
                            refine wpAnyT_one (i := 13) (by kernel_rfl) rfl (fun K hK => ?_)
                            (refine step_append_lies _ (by rfl) _ _ _ (by rfl) H5 60 f0 _ 5 40 Try.underlying58 hf0 hf1 hf2 hf3 rfl (by omega) _ m (recCells (flexL l GS m)) (by rfl) ((show wr.drew.ownsRow H5 60 5 u25 m (recCells (flexL l GS m)) from HO.out).alloc _) ⟨wr.heap.size, 0, none⟩ 1 1 [.int .i64 0, .int .i64 1048576, .int .i64 1048576, .int .i64 q1, .int .i64 0] (by rfl) (by rfl) (World.news_of_block (cs := #[.int .i64 0, .int .i64 1048576, .int .i64 1048576, .int .i64 q1, .int .i64 0]) (t := 60) (fr := (0, 0)) (heap_alloc_new wr.drew _)) (by simp [Value.oneCell']) (by omega) (by unfold maxLen; omega) (by omega) (by have := HSZW.out; simp; omega) (wr.heap.size + 1) (by simp) ?_; intro gg cap' w8 hown8 hgrow8 hat8 hlt8; have HB8 : Hid (Below H5 w5 w8) := HBN.out.grown hgrow8 (by have := HSZW.out; simp; omega) (fun q hq => (HO.out.lt q hq).1); have HO8 := Lib.hid hown8; clear hown8 hgrow8 hat8 hlt8)
                            refine hK.out _ _ ?_ (fun hHeld2 => ?_)
                            · (try dsimp only); exact HCC.out _ HB8.out
                            clear hK K hHeld
                            have hHeld := hHeld2
                            clear hHeld2
                            try simp only [Act.put, List.getElem_toArray, List.getElem_cons_succ, List.getElem_cons_zero, List.setIfInBounds_toArray, List.set_cons_zero, List.set_cons_succ]
                            refine wpAnyT_last (i := 14) (by kernel_rfl) (by kernel_rfl) rfl (by kernel_rfl) (fun K hK => ?_)
                            go_simp
                            refine hK.out _ _ ?_
                            clear hK K
                            try simp only [Act.put, List.getElem_toArray, List.getElem_cons_succ, List.getElem_cons_zero, List.setIfInBounds_toArray, List.set_cons_zero, List.set_cons_succ]
                            clear hHeld
                            go_wp2
                            go_roundw
                            case rel => exact ⟨m + 1, by omega, by go_num, by rw [HFN.out]; exact HO8.out, HB8.out⟩
                            case measure => simp [intOf]; omega
                          · rw [if_neg hx] at HFO
                            rw [HFO.out, HFM.out] at HFN
                            refine wp_region_T (S := (fun w' => w'.cell? ⟨L, o, none⟩ = some (.int .i64 x) ∧ w'.cell? ⟨b, off + o * 2 + 1, none⟩ = some (.int .i64 q1))) 14 (by kernel_rfl) (HCC.out _ HB.out.drew) (fun hHeld => ?_)
                            refine wpAnyT_take (i := 0) (v := ?_) rfl (by decide +kernel) (by decide +kernel) (by decide +kernel) (by decide +kernel) (by decide +kernel) (fun _ _ _ h => h) (Or.inl ⟨by rfl, ?_⟩) (by assumption) ?_
                            rotate_left
                            · intro w hSw; (try dsimp only at hSw); first | (go_simp; done) | (go_simp; with_reducible rfl)
                            try simp only [Act.put, List.getElem_toArray, List.getElem_cons_succ, List.getElem_cons_zero, List.setIfInBounds_toArray, List.set_cons_zero, List.set_cons_succ]
                            refine wpAnyT_take (i := 1) (v := ?_) rfl (by decide +kernel) (by decide +kernel) (by decide +kernel) (by decide +kernel) (by decide +kernel) (fun _ _ _ h => h) (Or.inl ⟨by rfl, ?_⟩) (by assumption) ?_
                            rotate_left
                            · intro w hSw; (try dsimp only at hSw); first | (go_simp; done) | (go_simp; with_reducible rfl)
                            try simp only [Act.put, List.getElem_toArray, List.getElem_cons_succ, List.getElem_cons_zero, List.setIfInBounds_toArray, List.set_cons_zero, List.set_cons_succ]
                            refine wpAnyT_take (i := 2) (v := ?_) rfl (by decide +kernel) (by decide +kernel) (by decide +kernel) (by decide +kernel) (by decide +kernel) (fun _ _ _ h => h) (Or.inl ⟨by rfl, ?_⟩) (by assumption) ?_
                            rotate_left
                            · intro w hSw; (try dsimp only at hSw); first | (go_simp; done) | (go_simp; with_reducible rfl)
                            try simp only [Act.put, List.getElem_toArray, List.getElem_cons_succ, List.getElem_cons_zero, List.setIfInBounds_toArray, List.set_cons_zero, List.set_cons_succ]
                            refine wpAnyT_take (i := 3) (v := ?_) rfl (by decide +kernel) (by decide +kernel) (by decide +kernel) (by decide +kernel) (by decide +kernel) (fun _ _ _ h => h) (Or.inl ⟨by rfl, ?_⟩) (by assumption) ?_
                            rotate_left
                            · intro w hSw; (try dsimp only at hSw); first | (go_simp; done) | (go_simp; with_reducible rfl)
                            try simp only [Act.put, List.getElem_toArray, List.getElem_cons_succ, List.getElem_cons_zero, List.setIfInBounds_toArray, List.set_cons_zero, List.set_cons_succ]
                            refine wpAnyT_take (i := 4) (v := ?_) rfl (by decide +kernel) (by decide +kernel) (by decide +kernel) (by decide +kernel) (by decide +kernel) (fun _ _ _ h => h) (Or.inl ⟨by rfl, ?_⟩) (by assumption) ?_
                            rotate_left
                            · intro w hSw; (try dsimp only at hSw); first | (go_simp; done) | (go_simp; with_reducible rfl)
                            try simp only [Act.put, List.getElem_toArray, List.getElem_cons_succ, List.getElem_cons_zero, List.setIfInBounds_toArray, List.set_cons_zero, List.set_cons_succ]
                            refine wpAnyT_take (i := 5) (v := ?_) rfl (by decide +kernel) (by decide +kernel) (by decide +kernel) (by decide +kernel) (by decide +kernel) (fun _ _ _ h => h) (Or.inl ⟨by rfl, ?_⟩) (by assumption) ?_
                            rotate_left
                            · intro w hSw; (try dsimp only at hSw); first | (go_simp; done) | (go_simp; with_reducible rfl)
                            try simp only [Act.put, List.getElem_toArray, List.getElem_cons_succ, List.getElem_cons_zero, List.setIfInBounds_toArray, List.set_cons_zero, List.set_cons_succ]
                            refine wpAnyT_take (i := 6) (v := ?_) rfl (by decide +kernel) (by decide +kernel) (by decide +kernel) (by decide +kernel) (by decide +kernel) (fun _ _ _ h => h) (Or.inl ⟨by rfl, ?_⟩) (by assumption) ?_
                            rotate_left
                            · intro w hSw; (try dsimp only at hSw); first | (go_simp; done) | (go_simp; with_reducible rfl)
                            try simp only [Act.put, List.getElem_toArray, List.getElem_cons_succ, List.getElem_cons_zero, List.setIfInBounds_toArray, List.set_cons_zero, List.set_cons_succ]
                            refine wpAnyT_take (i := 7) (v := ?_) rfl (by decide +kernel) (by decide +kernel) (by decide +kernel) (by decide +kernel) (by decide +kernel) (fun _ _ _ h => h) (Or.inl ⟨by rfl, ?_⟩) (by assumption) ?_
                            rotate_left
                            · intro w hSw; (try dsimp only at hSw); first | (go_simp; done) | (go_simp; with_reducible rfl)
                            try simp only [Act.put, List.getElem_toArray, List.getElem_cons_succ, List.getElem_cons_zero, List.setIfInBounds_toArray, List.set_cons_zero, List.set_cons_succ]
                            refine wpAnyT_take (i := 8) (v := ?_) rfl (by decide +kernel) (by decide +kernel) (by decide +kernel) (by decide +kernel) (by decide +kernel) (fun _ _ _ h => h) (Or.inl ⟨by rfl, ?_⟩) (by assumption) ?_
                            rotate_left
                            · intro w hSw; (try dsimp only at hSw); first | (go_simp; done) | (go_simp; with_reducible rfl)
                            try simp only [Act.put, List.getElem_toArray, List.getElem_cons_succ, List.getElem_cons_zero, List.setIfInBounds_toArray, List.set_cons_zero, List.set_cons_succ]
                            refine wpAnyT_take (i := 9) (v := ?_) rfl (by decide +kernel) (by decide +kernel) (by decide +kernel) (by decide +kernel) (by decide +kernel) (fun _ _ _ h => h) (Or.inl ⟨by rfl, ?_⟩) (by assumption) ?_
                            rotate_left
                            · intro w hSw; (try dsimp only at hSw); first | (go_simp; done) | (go_simp; with_reducible rfl)
                            try simp only [Act.put, List.getElem_toArray, List.getElem_cons_succ, List.getElem_cons_zero, List.setIfInBounds_toArray, List.set_cons_zero, List.set_cons_succ]
                            refine wpAnyT_take (i := 10) (v := ?_) rfl (by decide +kernel) (by decide +kernel) (by decide +kernel) (by decide +kernel) (by decide +kernel) (fun _ _ _ h => h) (Or.inl ⟨by rfl, ?_⟩) (by assumption) ?_
                            rotate_left
                            · intro w hSw; (try dsimp only at hSw); first | (go_simp; done) | (go_simp; with_reducible rfl)
                            try simp only [Act.put, List.getElem_toArray, List.getElem_cons_succ, List.getElem_cons_zero, List.setIfInBounds_toArray, List.set_cons_zero, List.set_cons_succ]
                            refine wpAnyT_take (i := 11) (v := ?_) rfl (by decide +kernel) (by decide +kernel) (by decide +kernel) (by decide +kernel) (by decide +kernel) (fun _ _ _ h => h) (Or.inl ⟨by rfl, ?_⟩) (by assumption) ?_
                            rotate_left
                            · intro w hSw; (try dsimp only at hSw); first | (go_simp; done) | (go_simp; with_reducible rfl)
                            try simp only [Act.put, List.getElem_toArray, List.getElem_cons_succ, List.getElem_cons_zero, List.setIfInBounds_toArray, List.set_cons_zero, List.set_cons_succ]
                            have HBN : Hid (Below H5 w5 (wr.drew.alloc (.cells #[.int .i64 0, .int .i64 x, .int .i64 1048576, .int .i64 q1, .int .i64 0] 60))) := HB.out.drew.alloc HSZW.out _
                            refine wpAnyT_one (i := 12) (by kernel_rfl) rfl (fun K hK => ?_)
                            (refine step_flex1 ?_)
                            refine hK.out _ _ ?_ (fun hHeld2 => ?_)
                            · (try dsimp only); exact HCC.out _ HBN.out
                            clear hK K hHeld
                            have hHeld := hHeld2
                            clear hHeld2
                            try simp only [Act.put, List.getElem_toArray, List.getElem_cons_succ, List.getElem_cons_zero, List.setIfInBounds_toArray, List.set_cons_zero, List.set_cons_succ]
                            refine wpAnyT_one (i := 13) (by kernel_rfl) rfl (fun K hK => ?_)
                            (refine step_append_lies _ (by rfl) _ _ _ (by rfl) H5 60 f0 _ 5 40 Try.underlying58 hf0 hf1 hf2 hf3 rfl (by omega) _ m (recCells (flexL l GS m)) (by rfl) ((show wr.drew.ownsRow H5 60 5 u25 m (recCells (flexL l GS m)) from HO.out).alloc _) ⟨wr.heap.size, 0, none⟩ 1 1 [.int .i64 0, .int .i64 x, .int .i64 1048576, .int .i64 q1, .int .i64 0] (by rfl) (by rfl) (World.news_of_block (cs := #[.int .i64 0, .int .i64 x, .int .i64 1048576, .int .i64 q1, .int .i64 0]) (t := 60) (fr := (0, 0)) (heap_alloc_new wr.drew _)) (by simp [Value.oneCell']) (by omega) (by unfold maxLen; omega) (by omega) (by have := HSZW.out; simp; omega) (wr.heap.size + 1) (by simp) ?_; intro gg cap' w8 hown8 hgrow8 hat8 hlt8; have HB8 : Hid (Below H5 w5 w8) := HBN.out.grown hgrow8 (by have := HSZW.out; simp; omega) (fun q hq => (HO.out.lt q hq).1); have HO8 := Lib.hid hown8; clear hown8 hgrow8 hat8 hlt8)
                            refine hK.out _ _ ?_ (fun hHeld2 => ?_)
                            · (try dsimp only); exact HCC.out _ HB8.out
                            clear hK K hHeld
                            have hHeld := hHeld2
                            clear hHeld2
                            try simp only [Act.put, List.getElem_toArray, List.getElem_cons_succ, List.getElem_cons_zero, List.setIfInBounds_toArray, List.set_cons_zero, List.set_cons_succ]
                            refine wpAnyT_last (i := 14) (by kernel_rfl) (by kernel_rfl) rfl (by kernel_rfl) (fun K hK => ?_)
                            go_simp
                            refine hK.out _ _ ?_
                            clear hK K
                            try simp only [Act.put, List.getElem_toArray, List.getElem_cons_succ, List.getElem_cons_zero, List.setIfInBounds_toArray, List.set_cons_zero, List.set_cons_succ]
                            clear hHeld
                            go_wp2
                            go_roundw
                            case rel => exact ⟨m + 1, by omega, by go_num, by rw [HFN.out]; exact HO8.out, HB8.out⟩
                            case measure => simp [intOf]; omega
                      · obtain rfl : m = cf := by omega
                        as_aux_lemma =>
                          obtain ⟨hfe, hfl, hfb⟩ := fracP_ok (l := l) (s := GS) (av := av) (gp := gp) HTK.out HGSB.out (by rw [HGSL.out, HN.out]) HH24.out
                          rw [HRT.out, HFEQ.out, HCF.out] at hfe
                          rw [HFEQ.out, HCF.out] at hfl hfb
                          have HFP : Hid (fracP l GS av gp = resL (clampZ R 0 1048576) 0 (flexL l GS m)) := by show _ = _; unfold fracP; rw [HRT.out, HFEQ.out, HCF.out]
                          have HFE2 := Lib.hid hfe
                          have HFL := Lib.hid hfl
                          have HIR : Hid (IsRecs 5 wr u25 (flexL l GS m)) := ownsRow_isRecs HO.out (by rw [flexL_len]) (flexL_wide _ _ _)
                          clear hfe hfl hfb
                          go_wp2_with (go_at_call 26; refine (clamp_any _ _ _ _).mono ?_; rintro e w' ⟨rfl, rfl⟩)
                          refine (bres_new _ _ _ (flexL l GS m) _ HIR.out).mono ?_
                          rw [ResolvedN_eq HFE2.out]
                          rintro e w6 ⟨v6, rfl, hv6, hb6, hf6⟩
                          rw [← HFP.out] at hv6
                          obtain ⟨P, hP⟩ : ∃ P, fracP l GS av gp = P := ⟨_, rfl⟩
                          rw [hP] at hv6 HRES HFL
                          obtain ⟨pa, pc, rfl, p1, p2, p3⟩ := hv6
                          rw [HFL.out] at p1 p3 ⊢
                          have P3 := Lib.hid p3
                          have HF6 := Lib.hid hf6
                          have HB6 : Hid (Below H5 w5 w6) := HB.out.trans (hb6.mono HSZW.out)
                          have HG6 : Hid (OwnI w6 L GS) := HG5.out.of_below HB6.out (Nat.lt_of_lt_of_le HHH.out.2.2 H45.out)
                          have HBW6 : Hid (Below w.heap.size w w6) := HBW5.out.trans (HB6.out.mono (by rw [← HH5.out]; exact HBW5.out.size))
                          clear hP p1 p2 p3 hb6 hf6
                          go_wp2_with fail
                          obtain ⟨w7, rfl⟩ : ∃ x : World, x = w6 := ⟨_, rfl⟩
                          go_loopw [174] (fun ii wr => ∃ i : Nat, i ≤ m ∧ ii = .int .i64 i ∧ OwnI wr L (putAt GS F P i) ∧ Turn L L w7 wr) (fun ii _ => m - (intOf ii).toNat)
                          case atStart => exact ⟨0, Nat.zero_le _, rfl, HG6.out, Turn.of_below (Below.refl _ _)⟩
                          case round =>
                            obtain ⟨i, hi2, rfl, hoj, htj⟩ := hrel
                            have HOJ := Lib.hid hoj
                            have HTJ := Lib.hid htj
                            clear hoj htj
                            by_cases hic : i < m
                            ·
                              as_aux_lemma =>
                                obtain ⟨ob, oo, rfl, hob, hobL, hocell⟩ := HFX5.out (by omega)
                                obtain ⟨pb, po, rfl, hplt, hpcell⟩ := P3.out (by omega)
                                have HPN : Hid (pb ≠ L) := by have h1 := HF6.out _ _ _ rfl; have h2 := HSZW.out; have h3 := HHH.out.2.2; have h4 := H45.out; have h5 : H5 ≤ pb := Nat.le_trans h2 h1; show pb ≠ L; omega
                                have co := (HTJ.out.cell (p := ⟨ob, oo + i, none⟩) (Nat.lt_of_lt_of_le (by rw [HH5.out]; exact hob) HB6.out.size) hobL hobL).trans ((HB6.out.cell (p := ⟨ob, oo + i, none⟩) hob).trans (hocell i hic))
                                have cp := (HTJ.out.cell (p := ⟨pb, po + i, none⟩) hplt HPN.out HPN.out).trans (hpcell i hic)
                                have hon := HFI.out i hic
                                have HAN : Hid (putAt GS F P (i + 1) = (putAt GS F P i).set (gn F i) (gz P i)) := rfl
                                obtain ⟨o, ho⟩ : ∃ o, gn F i = o := ⟨_, rfl⟩
                                rw [ho] at co hon HAN
                                have hlen : (putAt GS F P i).length = j := by rw [putAt_len, HGSL.out]
                                have cs := HOJ.out.cell (i := o) (by rw [hlen]; exact hon)
                                have fs := HOJ.out.free o
                                obtain ⟨p, hp⟩ : ∃ p, gz P i = p := ⟨_, rfl⟩
                                rw [hp] at cp HAN
                                have hic' : (i : Int) < (m : Int) := by omega
                                have hi0' : (0 : Int) ≤ (i : Int) := by omega
                                have ho0 : (0 : Int) ≤ (o : Int) := by omega
                                have hon' : (o : Int) < (j : Int) := by omega
                                have HO5 : Hid (OwnI (wr.setCell ⟨L, o, none⟩ (.int .i64 p)) L (putAt GS F P (i + 1))) := by
                                  show OwnI _ _ _
                                  rw [HAN.out]; exact HOJ.out.set o _
                                have HT5 : Hid (Turn L L w7 (wr.setCell ⟨L, o, none⟩ (.int .i64 p))) := HTJ.out.trans (Turn.set wr (.inl rfl) o _)
                                clear ho hp hlen hocell hpcell hplt hob
                                go_wp2
                                go_roundw
                                case rel => exact ⟨i + 1, by omega, by go_num, HO5.out, HT5.out⟩
                                case measure => simp [intOf]; omega
                            · obtain rfl : i = m := by omega
                              have HFIN : Hid (IsInts wr (.slice (some ⟨L, 0, none⟩) j j) (trkL av gp l it)) := by
                                show IsInts _ _ _
                                rw [HRES.out]
                                have h := HOJ.out.isInts (by rw [putAt_len, HGSL.out]; unfold maxLen; omega)
                                rw [putAt_len, HGSL.out] at h; exact h
                              go_wp2
                              go_ret2
                              exact ⟨_, by rw [HE.out]; rfl, HFIN.out, HBW6.out.trans (HTJ.out.low HL0.out HL0.out HBW6.out.size)⟩
theorem tracks_any (v vi : Value) (av gp : Int) (l it : List Rec) (w : World) (hv : IsRecs 2 w v l) (hi : InRecs 4 w vi it) : Calls Try.prog 16 #[.int .i64 av, .int .i64 gp, v, vi] w (Tracked av gp l it w) := by
  by_cases hE : gErr av gp l it = 0
  · have hv2 := hv
    have hi2 := hi
    obtain ⟨a, cap, rfl, h1, h2, -⟩ := hv
    obtain ⟨⟨ia, icap, rfl, g1, g2, -⟩, -⟩ := hi
    exact tracks_ok a ia cap _ icap _ av gp l it w (Lib.hid rfl) (Lib.hid rfl) hv2 hi2 hE
  · exact tracks_no v vi av gp l it w hv hi hE
end Go.Proofs.Ytadkkkdecejkeaa

