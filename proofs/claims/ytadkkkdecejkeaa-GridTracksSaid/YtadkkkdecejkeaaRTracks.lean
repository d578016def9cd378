/- Tracks of the reference of package grid: for all arguments. -/
import Derived.Test.YtadkkkdecejkeaaRLeast
import Derived.Test.YtadkkkdecejkeaaTracks
import Derived.Test.YtadkkkdecejkeaaResR2
import Derived.Test.YtadkkkdecejkeaaRefShare
import Derived.Laws.OwnMore
import Derived.Deep.Onto
namespace Go.Proofs.Ytadkkkdecejkeaa
open Go.RowKit
attribute [local go_sem ↓] Go.wp_at_zero Go.wp_at_succ
set_option linter.unusedVariables false
set_option linter.unusedSimpArgs false

/-- Block L, with room for cap numbers, holds the numbers s; it is the call's own. -/
def OwnC (w : World) (cap L : Nat) (s : List Int) : Prop := w.ownsRow 0 3 1 (.slice (some ⟨L, 0, none⟩) s.length cap) s.length (s.map (Value.int .i64))
section
variable {w w' : World} {cap L : Nat} {s : List Int}
theorem OwnC.lt (h : OwnC w cap L s) : L < w.heap.size := (World.ownsRow.lt h L rfl).2
theorem OwnC.cell (h : OwnC w cap L s) {i : Nat} (hi : i < s.length) : w.cell? ⟨L, i, none⟩ = some (.int .i64 (gz s i)) := by
  rw [World.ownsRow.cellAt h i (by omega)]
  simp [gz, hi]
theorem OwnC.free (h : OwnC w cap L s) (i : Nat) : w.frozen? ⟨L, i, none⟩ = false := World.ownsRow.frozenAt h i
theorem OwnC.set (h : OwnC w cap L s) (i : Nat) (x : Int) : OwnC (w.setCell ⟨L, i, none⟩ (.int .i64 x)) cap L (s.set i x) := by
  have h2 := (World.ownsRow.stored h i (.int .i64 x)).1
  unfold OwnC
  rw [List.length_set, List.map_set]; exact h2
theorem OwnC.block (h : OwnC w cap L s) (hb : w'.heap[L]? = w.heap[L]?) : OwnC w' cap L s := by
  refine ⟨h.1, ?_⟩
  rcases h.2 with ⟨h1, _⟩ | ⟨g, c, cur, h1, h0, hg, rest⟩
  · simp at h1
  · obtain ⟨rfl, rfl⟩ : L = g ∧ cap = c := by simp at h1; exact h1
    exact .inr ⟨L, cap, cur, rfl, h0, hb.trans hg, rest⟩
theorem OwnC.turn {a b : Nat} (h : OwnC w cap L s) (ht : Turn a b w w') (ha : L ≠ a) (hb : L ≠ b) : OwnC w' cap L s := h.block (ht.block L h.lt ha hb)
theorem OwnC.of_below {B : Nat} (h : OwnC w cap L s) (hb : Below B w w') (hL : L < B) : OwnC w' cap L s := h.block (hb.block L hL)
theorem OwnC.isInts (h : OwnC w cap L s) : IsInts w (.slice (some ⟨L, 0, none⟩) s.length cap) s := ownsRow_isInts h
end
theorem grown_frac {l : List Rec} {ls ms : List Int} {av gp : Int} {i : Nat} (h : gf l i 0 = 2) : gz (grown l ls ms av gp) i = gz ls i := by
  unfold grown
  split
  · exact addAt_out fun j hj e => by
      have := (autos_mem hj).2
      rw [e] at this; omega
  · rfl
theorem rank_in {l : List Rec} {kd : Int} {n k : Nat} (hk : k < n) (h : gf l k 0 = kd) : (opensTo (msk l kd 0 n) k).length < (sel l kd 0 n).length ∧ gn (sel l kd 0 n) (opensTo (msk l kd 0 n) k).length = k := by
  rw [sel_eq]
  exact opensTo_rank hk (by rw [msk_in hk (Nat.zero_le _)]; simpa using h)
theorem rank_hit {l : List Rec} {kd : Int} {n k : Nat} (hk : k < n) (h : gf l k 0 = kd) : (opensTo (msk l kd 0 n) (k + 1)).length = (opensTo (msk l kd 0 n) k).length + 1 := by
  rw [opensTo_no (by rw [msk_in hk (Nat.zero_le _)]; simpa using h)]; simp
theorem rank_miss {l : List Rec} {kd : Int} {n k : Nat} (hk : k < n) (h : gf l k 0 ≠ kd) : (opensTo (msk l kd 0 n) (k + 1)).length = (opensTo (msk l kd 0 n) k).length := by
  rw [opensTo_yes (by rw [msk_in hk (Nat.zero_le _)]; simpa using h)]
theorem rank_all (l : List Rec) (kd : Int) (n : Nat) : (opensTo (msk l kd 0 n) n).length = (sel l kd 0 n).length := by rw [sel_eq]
/-- What is left for the tracks with fractions behind the first k tracks. -/
def rsTo (av gp : Int) (l : List Rec) (s : List Int) (k : Nat) : Int := spTo av gp k - nonF l s k
theorem rsTo_zero (av gp : Int) (l : List Rec) (s : List Int) : rsTo av gp l s 0 = av := by simp [rsTo, spTo, nonF]
theorem rsTo_succ (av gp : Int) (l : List Rec) (s : List Int) (k : Nat) : rsTo av gp l s (k + 1) = (if 0 < k then rsTo av gp l s k - gp else av) - (if gf l k 0 = 2 then 0 else gz s k) := by
  unfold rsTo
  by_cases h : 0 < k
  · rw [if_pos h, spTo_next _ _ _ h]
    simp only [nonF]
    split <;> omega
  · obtain rfl : k = 0 := by omega
    rw [if_neg h]
    simp only [nonF]
    rw [(spTo_one av gp).1]
    split <;> omega
theorem rsTo_bd {av gp : Int} {l : List Rec} {s : List Int} (ha : 0 ≤ av ∧ av ≤ 1048576) (hg : 0 ≤ gp ∧ gp ≤ 1048576) (hs : szTo s 268435456) (hn : s.length ≤ 24) {k : Nat} (hk : k ≤ s.length) : -8589934592 ≤ rsTo av gp l s k ∧ rsTo av gp l s k ≤ av := by
  have h1 := nonF_bd (l := l) hs k hk
  have h2 := mul_bd (a := gp) (b := ((k - 1 : Nat) : Int)) (m := 1048576) (k := 24) hg.1 (by omega) hg.2 (by omega)
  unfold rsTo spTo
  omega
/-- Which rank a track has among those of its kind. -/
theorem ranks (l : List Rec) (kd : Int) (n : Nat) : ∃ f : Nat → Nat, f 0 = 0 ∧ (∀ k, k < n → gf l k 0 = kd → f k < (sel l kd 0 n).length ∧ gn (sel l kd 0 n) (f k) = k ∧ f (k + 1) = f k + 1) ∧ (∀ k, k < n → gf l k 0 ≠ kd → f (k + 1) = f k) ∧ f n = (sel l kd 0 n).length ∧ ∀ k, f k ≤ k :=
  ⟨fun k => (opensTo (msk l kd 0 n) k).length, rfl, fun k hk h => ⟨(rank_in hk h).1, (rank_in hk h).2, rank_hit hk h⟩, fun k hk h => rank_miss hk h, rank_all l kd n, fun k => opensTo_le _ _⟩
theorem own_ints {H n : Nat} {w : World} {v : Value} {xs : List Int} (h : w.ownsRow H 3 1 v n (xs.map (Value.int .i64))) (hn : xs.length = n) : IsInts w v xs := by
  subst hn; exact ownsRow_isInts h
set_option maxHeartbeats 4000000 in
set_option maxRecDepth 100000 in
theorem rtracks_no (v vi : Value) (av gp : Int) (l it : List Rec) (w : World) (hv : IsRecs 2 w v l) (hi : InRecs 4 w vi it) (hE : gErr av gp l it ≠ 0) : Calls Try.prog 20 #[.int .i64 av, .int .i64 gp, v, vi] w (Tracked av gp l it w) := by
  have HV := Lib.hid hv
  have HI := Lib.hid hi
  have HR : Hid (trkL av gp l it = []) := by show _ = _; unfold trkL; rw [if_neg hE]
  obtain ⟨E, hE2⟩ : ∃ E, gErr av gp l it = E := ⟨_, rfl⟩
  have HE := Lib.hid hE2
  rw [hE2] at hE
  have e1 : (E != 0) = true := by simpa using hE
  clear hE hE2 hv hi
  go_enter Try.func20, Try.ntmps20
  go_wp2_with fail
  refine (rcheck_any _ _ av gp l it _ HV.out HI.out).mono ?_
  rw [HE.out]
  rintro e w1 ⟨rfl, hb1⟩
  go_wp2
  go_ret2
  exact ⟨.slice none 0 0, by rw [HE.out]; rfl, by rw [HR.out]; exact IsInts.nil _, hb1⟩
set_option maxHeartbeats 4000000 in
set_option maxRecDepth 100000 in
/-- A literal list of one element of a row, in the region that appends. -/
theorem step_flex2 {ops : Array Oper} {t : TypeId} {s : String} {e : Array Edge} {K : Act → World → Prop} {Q : Exit → Act → World → Prop} {E : Prop} {u0 u1 u2 u3 u4 u5 u6 u7 u8 u9 u10 u11 u12 u13 u14 u15 u16 u17 u18 u19 u20 u21 u22 u23 u24 u25 u26 u27 u28 u29 u30 u31 u32 u33 u34 u35 u36 u37 u38 u39 u40 u41 u42 u43 u44 u45 u46 u47 u48 u49 u50 u51 u52 u53 u54 u55 u56 u57 u58 u59 u60 u61 u62 u63 u64 u65 u66 u67 u68 u69 u70 u71 u72 u73 u74 u75 u76 u77 u78 u79 u80 u81 u82 u83 u84 u85 u86 u87 u88 u89 u90 u91 u92 u93 u94 u95 u96 u97 u98 u99 u100 u101 u102 u103 u104 u105 u106 u107 u108 u109 u110 u111 u112 u113 u114 u115 u116 u117 u118 u119 u120 u121 u122 u123 u124 u125 u126 u127 u128 u129 u130 u131 u132 u133 u134 u135 u136 u137 u138 u140 u141 u142 u143 u144 u145 u146 u147 u148 u149 u150 u151 u152 u153 u154 u155 u156 u157 u158 u159 u160 u161 u162 u163 u164 u165 u166 u167 u168 u169 u170 u171 u172 u173 u174 u175 u176 : Value} {a0 a1 a2 a3 a4 : Int} {w : World}
    (h : K ⟨#[u0, u1, u2, u3, u4, u5, u6, u7, u8, u9, u10, u11, u12, u13, u14, u15, u16, u17, u18, u19, u20, u21, u22, u23, u24, u25, u26, u27, u28, u29, u30, u31, u32, u33, u34, u35, u36, u37, u38, u39, u40, u41, u42, u43, u44, u45, u46, u47, u48, u49, u50, u51, u52, u53, u54, u55, u56, u57, u58, u59, u60, u61, u62, u63, u64, u65, u66, u67, u68, u69, u70, u71, u72, u73, u74, u75, u76, u77, u78, u79, u80, u81, u82, u83, u84, u85, u86, u87, u88, u89, u90, u91, u92, u93, u94, u95, u96, u97, u98, u99, u100, u101, u102, u103, u104, u105, u106, u107, u108, u109, u110, u111, u112, u113, u114, u115, u116, u117, u118, u119, u120, u121, u122, u123, u124, u125, u126, u127, u128, u129, u130, u131, u132, u133, u134, u135, u136, u137, u138, .agg #[.int .i64 a0, .int .i64 a1, .int .i64 a2, .int .i64 a3, .int .i64 a4], .slice (some ⟨w.heap.size, 0, none⟩) 1 1, u141, u142, u143, u144, u145, u146, u147, u148, u149, u150, u151, u152, u153, u154, u155, u156, u157, u158, u159, u160, u161, u162, u163, u164, u165, u166, u167, u168, u169, u170, u171, u172, u173, u174, u175, u176], []⟩ (w.alloc (.cells #[.int .i64 a0, .int .i64 a1, .int .i64 a2, .int .i64 a3, .int .i64 a4] 60))) :
    if Region.wanted (⟨some 140, .buildSlice 58 1 #[(0, .tmp 139)], t, s, e, none⟩ : Oper) (yielded ops #[u0, u1, u2, u3, u4, u5, u6, u7, u8, u9, u10, u11, u12, u13, u14, u15, u16, u17, u18, u19, u20, u21, u22, u23, u24, u25, u26, u27, u28, u29, u30, u31, u32, u33, u34, u35, u36, u37, u38, u39, u40, u41, u42, u43, u44, u45, u46, u47, u48, u49, u50, u51, u52, u53, u54, u55, u56, u57, u58, u59, u60, u61, u62, u63, u64, u65, u66, u67, u68, u69, u70, u71, u72, u73, u74, u75, u76, u77, u78, u79, u80, u81, u82, u83, u84, u85, u86, u87, u88, u89, u90, u91, u92, u93, u94, u95, u96, u97, u98, u99, u100, u101, u102, u103, u104, u105, u106, u107, u108, u109, u110, u111, u112, u113, u114, u115, u116, u117, u118, u119, u120, u121, u122, u123, u124, u125, u126, u127, u128, u129, u130, u131, u132, u133, u134, u135, u136, u137, u138, .agg #[.int .i64 a0, .int .i64 a1, .int .i64 a2, .int .i64 a3, .int .i64 a4], u140, u141, u142, u143, u144, u145, u146, u147, u148, u149, u150, u151, u152, u153, u154, u155, u156, u157, u158, u159, u160, u161, u162, u163, u164, u165, u166, u167, u168, u169, u170, u171, u172, u173, u174, u175, u176]) = true then Oper.wp Try.prog (⟨some 140, .buildSlice 58 1 #[(0, .tmp 139)], t, s, e, none⟩ : Oper) ⟨#[u0, u1, u2, u3, u4, u5, u6, u7, u8, u9, u10, u11, u12, u13, u14, u15, u16, u17, u18, u19, u20, u21, u22, u23, u24, u25, u26, u27, u28, u29, u30, u31, u32, u33, u34, u35, u36, u37, u38, u39, u40, u41, u42, u43, u44, u45, u46, u47, u48, u49, u50, u51, u52, u53, u54, u55, u56, u57, u58, u59, u60, u61, u62, u63, u64, u65, u66, u67, u68, u69, u70, u71, u72, u73, u74, u75, u76, u77, u78, u79, u80, u81, u82, u83, u84, u85, u86, u87, u88, u89, u90, u91, u92, u93, u94, u95, u96, u97, u98, u99, u100, u101, u102, u103, u104, u105, u106, u107, u108, u109, u110, u111, u112, u113, u114, u115, u116, u117, u118, u119, u120, u121, u122, u123, u124, u125, u126, u127, u128, u129, u130, u131, u132, u133, u134, u135, u136, u137, u138, .agg #[.int .i64 a0, .int .i64 a1, .int .i64 a2, .int .i64 a3, .int .i64 a4], u140, u141, u142, u143, u144, u145, u146, u147, u148, u149, u150, u151, u152, u153, u154, u155, u156, u157, u158, u159, u160, u161, u162, u163, u164, u165, u166, u167, u168, u169, u170, u171, u172, u173, u174, u175, u176], []⟩ w K Q else E := by
  rw [if_pos (by simp [Region.wanted])]
  obtain ⟨G, hG⟩ : ∃ G, K ⟨#[u0, u1, u2, u3, u4, u5, u6, u7, u8, u9, u10, u11, u12, u13, u14, u15, u16, u17, u18, u19, u20, u21, u22, u23, u24, u25, u26, u27, u28, u29, u30, u31, u32, u33, u34, u35, u36, u37, u38, u39, u40, u41, u42, u43, u44, u45, u46, u47, u48, u49, u50, u51, u52, u53, u54, u55, u56, u57, u58, u59, u60, u61, u62, u63, u64, u65, u66, u67, u68, u69, u70, u71, u72, u73, u74, u75, u76, u77, u78, u79, u80, u81, u82, u83, u84, u85, u86, u87, u88, u89, u90, u91, u92, u93, u94, u95, u96, u97, u98, u99, u100, u101, u102, u103, u104, u105, u106, u107, u108, u109, u110, u111, u112, u113, u114, u115, u116, u117, u118, u119, u120, u121, u122, u123, u124, u125, u126, u127, u128, u129, u130, u131, u132, u133, u134, u135, u136, u137, u138, .agg #[.int .i64 a0, .int .i64 a1, .int .i64 a2, .int .i64 a3, .int .i64 a4], .slice (some ⟨w.heap.size, 0, none⟩) 1 1, u141, u142, u143, u144, u145, u146, u147, u148, u149, u150, u151, u152, u153, u154, u155, u156, u157, u158, u159, u160, u161, u162, u163, u164, u165, u166, u167, u168, u169, u170, u171, u172, u173, u174, u175, u176], []⟩ (w.alloc (.cells #[.int .i64 a0, .int .i64 a1, .int .i64 a2, .int .i64 a3, .int .i64 a4] 60)) = G := ⟨_, rfl⟩
  rw [hG] at h
  go_simp
  exact h
set_option maxHeartbeats 20000000 in
set_option maxRecDepth 100000 in
theorem rtracks_ok (b off : Nat) (ia : Option Addr) (cap n icap q : Nat) (av gp : Int) (l it : List Rec) (w : World) (hp : 0 < n) (HN : Hid (l.length = n)) (HQ : Hid (it.length = q)) (hv : IsRecs 2 w (.slice (some ⟨b, off, none⟩) n cap) l) (hi : InRecs 4 w (.slice ia q icap) it) (hE : gErr av gp l it = 0) :
    Calls Try.prog 20 #[.int .i64 av, .int .i64 gp, .slice (some ⟨b, off, none⟩) n cap, .slice ia q icap] w (Tracked av gp l it w) := by
  obtain ⟨i0, hi0, hz0, hz1, hz2⟩ := info_parts info_int1
  obtain ⟨f0, hf0, hf1, hf2, hf3⟩ := info_parts info_flex
  have HV := Lib.hid hv
  have HI := Lib.hid hi
  have HE := Lib.hid hE
  have HP := Lib.hid hp
  obtain ⟨e1, e2, e3, e4, e5, e6⟩ := gErr_ok hE
  have H3 : Hid (b < w.heap.size ∧ ∀ i, i < n → ∀ j, j < 2 → w.cell? ⟨b, off + i * 2 + j, none⟩ = some (.int .i64 (gf l i j))) := by
    obtain ⟨a', cap', k1, _, _, k3⟩ := hv
    simp only [Value.slice.injEq] at k1
    obtain ⟨rfl, _, rfl⟩ := k1
    rw [HN.out] at k3
    obtain ⟨b', off', k4, k5, k6⟩ := k3 hp
    simp at k4
    obtain ⟨rfl, rfl⟩ := k4
    exact ⟨k5, k6⟩
  have HSZ : Hid (Sizes l.length (leastL l it gp) (mostL l it gp)) := sizes_of (lenB_iff.1 e4) e1 e2 e5 e6
  have HAV := Lib.hid (lenB_iff.1 e3)
  have HGP := Lib.hid (lenB_iff.1 e4)
  have HTK := Lib.hid e5
  have HH24 := Lib.hid e1
  have HFR := Lib.hid (HSZ.out.free_le HAV.out HGP.out e1)
  have HRES : Hid (trkL av gp l it = putAt (grown l (leastL l it gp) (mostL l it gp) av gp) (fracs l) (fracP l (grown l (leastL l it gp) (mostL l it gp) av gp) av gp) (fracs l).length) := by show _ = _; unfold trkL; rw [if_pos hE]
  have hn' : (n : Int) ≤ 24 := by have := HN.out; omega
  clear hv hi hE e1 e2 e3 e4 e5 e6 hp
  go_enter Try.func20, Try.ntmps20
  go_wp2_with fail
  refine (rcheck_any _ _ av gp l it _ HV.out HI.out).mono ?_
  rw [HE.out]
  rintro e w1 ⟨rfl, hb1⟩
  have HV1 := Lib.hid (HV.out.of_below hb1)
  have HI1 := Lib.hid (HI.out.1.of_below hb1)
  have HB1 := Lib.hid hb1
  clear hb1
  go_wp2_with fail
  refine (demands_of (some ⟨b, off, none⟩) ia cap n icap q av gp l it _ HN HQ HV1.out HI1.out HE.out).2.mono ?_
  rintro e w2 ⟨L, M, rfl, hL, hM, hne, hl0, hm0, hb2⟩
  have HB2 : Hid (Below w.heap.size w w2) := HB1.out.trans (hb2.mono HB1.out.size)
  obtain ⟨ls, hls⟩ : ∃ x, leastL l it gp = x := ⟨_, rfl⟩
  obtain ⟨ms, hms⟩ : ∃ x, mostL l it gp = x := ⟨_, rfl⟩
  rw [hls] at hL HSZ HRES HFR
  rw [hms] at hM HSZ HRES
  have HL := Lib.hid hL
  have HM := Lib.hid hM
  have HLL : Hid (ls.length = n) := by show _ = _; rw [HSZ.out.l, HN.out]
  have HLM : Hid (ms.length = n) := by show _ = _; rw [HSZ.out.m, HN.out]
  have hfr := HFR.out
  have HFRE : Hid (freeT av gp ls = av - (sumTo ls n + gp * ((n - 1 : Nat) : Int))) := by show _ = _; unfold freeT spTo; rw [HLL.out]; omega
  obtain ⟨fr, hfre⟩ : ∃ x, freeT av gp ls = x := ⟨_, rfl⟩
  have HFE := Lib.hid hfre
  rw [hfre] at hfr HFRE
  rw [HN.out] at hfr
  obtain ⟨hfr0, hfr1, -, -, -⟩ := hfr
  obtain ⟨hav0, hav1⟩ := HAV.out
  obtain ⟨hgp0, hgp1⟩ := HGP.out
  have hsum := szTo_sum HSZ.out.lb n (by rw [HLL.out]; exact Nat.le_refl _)
  have hmul := mul_bd (a := gp) (b := ((n - 1 : Nat) : Int)) (m := 1048576) (k := 24) hgp0 (by omega) hgp1 (by omega)
  obtain ⟨T, hT⟩ : ∃ T, sumTo ls n + gp * ((n - 1 : Nat) : Int) = T := ⟨_, rfl⟩
  have HT := Lib.hid hT
  have hTb : 0 ≤ T ∧ T ≤ 8589934592 := by rw [← hT]; omega
  rw [hT] at HFRE
  have hw4 : IntKind.i64.wrap (av - T) = fr := by rw [HFRE.out]; exact IntWalk.i64_in _ (by omega)
  have hP := HP.out
  obtain ⟨ra, ra0, raH, raM, raN, raB⟩ := ranks l 1 n
  obtain ⟨rf, rf0, rfH, rfM, rfN, rfB⟩ := ranks l 2 n
  have HUE : Hid (autos l = sel l 1 0 n) := by show _ = _; unfold autos; rw [HN.out]
  have HFQ : Hid (fracs l = sel l 2 0 n) := by show _ = _; unfold fracs; rw [HN.out]
  rw [← HUE.out] at raH raN
  rw [← HFQ.out] at rfH rfN
  have RA0 := Lib.hid ra0
  have RAH := Lib.hid raH
  have RAM := Lib.hid raM
  have RAN := Lib.hid raN
  have RAB := Lib.hid raB
  have RF0 := Lib.hid rf0
  have RFH := Lib.hid rfH
  have RFM := Lib.hid rfM
  have RFN := Lib.hid rfN
  have RFB := Lib.hid rfB
  have HNE2 : Hid (w2.heap.size = w2.heap.size) := rfl
  clear hL hM hl0 hm0 hb2 hls hms hfre HV1 HI1 HB1 HV HI HFR hsum hmul hT ra0 raH raM raN raB rf0 rfH rfM rfN rfB hne HNE2
  have HNEW : Hid (∀ j u, (ls.map (Value.int .i64))[j]? = some u → w2.cell? ((⟨L, 0, none⟩ : Addr).add j) = some u) := World.news_of_block (t := 3) (fr := (0, 0)) (cs := (ls.map (Value.int .i64)).toArray) HL.out
  have HONE : Hid (∀ u ∈ ls.map (Value.int .i64), u.oneCell' = true) := by
    show ∀ _ ∈ _, _
    intro u hu
    obtain ⟨x, -, rfl⟩ := List.mem_map.1 hu
    rfl
  have hlenm : (ls.map (Value.int .i64)).length = n * 1 := by rw [List.length_map, HLL.out, Nat.mul_one]
  go_wp2_with (at_builtin; refine wpList_append_lies _ rfl _ _ 26 rfl w2.heap.size 3 i0 _ 1 8 Try.underlying26 hi0 hz0 hz1 hz2 rfl (by omega) _ 0 [] rfl (World.ownsRow_nil _ _ _ _) ⟨L, 0, none⟩ n n (ls.map (Value.int .i64)) rfl hlenm HNEW.out HONE.out hP (by unfold maxLen; omega) (by omega) (Nat.le_refl _) _ rfl ?_; intro D capD w3 hown hgrow hat hlt; simp only [Nat.zero_add, List.nil_append] at hown ⊢; have HOW3 := Lib.hid hown; have HB3 : Hid (Below w2.heap.size w2 w3) := (Below.refl _ _).grown hgrow (Nat.le_refl _) (fun q hq => by cases hq); have HD : Hid (D = w2.heap.size) := hat.elim (fun h => (by cases h)) (fun h => h); have HDL : Hid (D < w3.heap.size) := hlt; clear hown hgrow hat hlt; skip)
  have HO3 : Hid (OwnC w3 capD D ls) := by
    show w3.ownsRow _ _ _ _ _ _
    rw [HLL.out]
    exact World.ownsRow.mono HOW3.out (Nat.zero_le _)
  have HL3 : Hid (OwnI w3 L ls) := HL.out.of_below HB3.out HL.out.lt
  have HM3 : Hid (OwnI w3 M ms) := HM.out.of_below HB3.out HM.out.lt
  have HSI : Hid (IsInts w3 (.slice (some ⟨L, 0, none⟩) n n) ls) := by
    have h := HL3.out.isInts (by rw [HLL.out]; unfold maxLen; omega)
    rw [HLL.out] at h; exact h
  have HTOT : Hid (Calls Try.prog 35 #[.int .i64 gp, .slice (some ⟨L, 0, none⟩) n n] w3 fun e w' => e = .returned (.int .i64 T) ∧ w3 = w') := by
    have h := rtotal_any _ gp _ w3 HSI.out HSZ.out.lb (by rw [HLL.out]; omega) HGP.out
    rw [HLL.out, HT.out] at h; exact h
  obtain ⟨H, hH⟩ : ∃ H, w3.heap.size = H := ⟨_, rfl⟩
  have HH := Lib.hid hH
  have HBW3 : Hid (Below w.heap.size w w3) := HB2.out.trans (HB3.out.mono HB2.out.size)
  have HLH : Hid (L < H ∧ M < H ∧ D < H ∧ L ≠ D ∧ w.heap.size ≤ D ∧ w.heap.size ≤ H) := by
    rw [← hH]
    have h1 := HL.out.lt
    have h2 := HD.out
    have h3 := HB2.out.size
    have h4 := HBW3.out.size
    exact ⟨HL3.out.lt, HM3.out.lt, HDL.out, by omega, by omega, h4⟩
  have HU0 : Hid (autoW l ls ms (ra 0) = []) := by show _ = _; rw [RA0.out]; rfl
  clear hH hlenm hP
  refine HTOT.out.mono ?_
  rintro e w' ⟨rfl, rfl⟩
  go_wp2_with fail
  clear hw4
  go_loopw [15, 16] (fun u i wr => ∃ k : Nat, k ≤ n ∧ i = .int .i64 k ∧ wr.ownsRow H 3 1 u (ra k) ((autoW l ls ms (ra k)).map (Value.int .i64)) ∧ Below H w3 wr) (fun _ i _ => n - (intOf i).toNat)
  case atStart => exact ⟨0, Nat.zero_le _, rfl, by rw [HU0.out, RA0.out]; exact World.ownsRow_nil _ _ _ _, Below.refl _ _⟩
  case round =>
    obtain ⟨k, hk, rfl, ho, hbl⟩ := hrel
    have HO := Lib.hid ho
    have HB := Lib.hid hbl
    clear ho hbl
    by_cases hkn : k < n
    ·
      as_aux_lemma =>
        have HBW : Hid (Below w.heap.size w wr) := HBW3.out.trans (HB.out.mono HLH.out.2.2.2.2.2)
        have k0 := (HBW.out.cell (p := ⟨b, off + k * 2 + 0, none⟩) H3.out.1).trans (H3.out.2 k hkn 0 (by omega))
        rw [Nat.add_zero] at k0
        have hca := RAB.out k
        have hRH := RAH.out k hkn
        have hRM := RAM.out k hkn
        obtain ⟨q0, hq0⟩ : ∃ q, gf l k 0 = q := ⟨_, rfl⟩
        rw [hq0] at k0 hRH hRM
        obtain ⟨ca, hcae⟩ : ∃ c, ra k = c := ⟨_, rfl⟩
        rw [hcae] at HO hca hRH hRM
        obtain ⟨AL, hAL⟩ : ∃ x, (autoW l ls ms ca).map (Value.int .i64) = x := ⟨_, rfl⟩
        have HALE := Lib.hid hAL
        rw [hAL] at HO
        have HWR : Hid (H ≤ wr.heap.size) := by have := HB.out.size; rw [HH.out] at this; exact this
        have hkn' : (k : Int) < (n : Int) := by omega
        have hk0 : (0 : Int) ≤ (k : Int) := by omega
        clear hq0 hcae hAL
        by_cases c1 : q0 = 1
        ·
          as_aux_lemma =>
            obtain ⟨-, hgn, hr1⟩ := hRH c1
            have d1 : (q0 == 1) = true := by simpa using c1
            have HR1 := Lib.hid hr1
            obtain ⟨x, hx⟩ : ∃ x, gz ls k = x := ⟨_, rfl⟩
            obtain ⟨y, hy⟩ : ∃ x, gz ms k = x := ⟨_, rfl⟩
            have hxb := HSZ.out.lb k (by rw [HLL.out]; exact hkn)
            have hyb := HSZ.out.mb k (by rw [HLM.out]; exact hkn)
            rw [hx] at hxb
            rw [hy] at hyb
            obtain ⟨om, hom⟩ : ∃ o, y - x = o := ⟨_, rfl⟩
            have hwsub : IntKind.i64.wrap (y - x) = om := by rw [← hom]; exact IntWalk.i64_in _ (by omega)
            have HCC : Hid (∀ W, Below H w3 W → W.cell? ⟨M, k, none⟩ = some (.int .i64 y) ∧ W.cell? ⟨L, k, none⟩ = some (.int .i64 x)) := fun W hW => by
              have cm := (HM3.out.of_below hW HLH.out.2.1).cell (i := k) (by rw [HLM.out]; exact hkn)
              have cl := (HL3.out.of_below hW HLH.out.1).cell (i := k) (by rw [HLL.out]; exact hkn)
              rw [hy] at cm
              rw [hx] at cl
              exact ⟨cm, cl⟩
            have HNX : Hid ((autoW l ls ms (ca + 1)).map (Value.int .i64) = AL ++ [.int .i64 om]) := by
              show _ = _
              rw [autoW_succ, List.map_append, HALE.out, hgn, hx, hy, hom]
              rfl
            have HBd : Hid (Below H w3 wr.drew) := HB.out.drew
            have HBN : Hid (Below H w3 (wr.drew.alloc (.cells #[.int .i64 om] 3))) := HB.out.drew.alloc HWR.out _
            clear hx hy hom hxb hyb c1 hr1 hgn hRH hRM
            go_upto_region 12 with fail
            clear k0 d1
            refine wp_region_T (S := (fun w' => w'.cell? ⟨M, k, none⟩ = some (.int .i64 y) ∧ w'.cell? ⟨L, k, none⟩ = some (.int .i64 x))) 12 (by kernel_rfl) (HCC.out _ HBd.out) (fun hHeld => ?_)
            refine wpAnyT_take (i := 0) (v := ?_) rfl (by decide +kernel) (by decide +kernel) (by decide +kernel) (by decide +kernel) (by decide +kernel) (fun _ _ _ h => h) (Or.inl ⟨by rfl, ?_⟩) (by assumption) ?_
            rotate_left
            · intro w hSw; (try dsimp only at hSw); first | (go_simp; done) | (go_simp; with_reducible rfl)
            try simp only [Act.put, List.getElem_toArray, List.getElem_cons_succ, List.getElem_cons_zero, List.setIfInBounds_toArray, List.set_cons_zero, List.set_cons_succ]
            refine wpAnyT_take (i := 1) (v := ?_) rfl (by decide +kernel) (by decide +kernel) (by decide +kernel) (by decide +kernel) (by decide +kernel) (fun _ _ _ h => h) (Or.inl ⟨by rfl, ?_⟩) (by assumption) ?_
            rotate_left
            · intro w hSw; (try dsimp only at hSw); first | (go_simp; done) | (go_simp; with_reducible rfl)
            try simp only [Act.put, List.getElem_toArray, List.getElem_cons_succ, List.getElem_cons_zero, List.setIfInBounds_toArray, List.set_cons_zero, List.set_cons_succ]
            refine wpAnyT_take (i := 2) (v := ?_) rfl (by decide +kernel) (by decide +kernel) (by decide +kernel) (by decide +kernel) (by decide +kernel) (fun _ _ _ h => h) (Or.inl ⟨by rfl, ?_⟩) (by assumption) ?_
            rotate_left
            · intro w hSw; (try dsimp only at hSw); first | (go_simp; done) | (go_simp; with_reducible rfl)
            try simp only [Act.put, List.getElem_toArray, List.getElem_cons_succ, List.getElem_cons_zero, List.setIfInBounds_toArray, List.set_cons_zero, List.set_cons_succ]
            refine wpAnyT_take (i := 3) (v := ?_) rfl (by decide +kernel) (by decide +kernel) (by decide +kernel) (by decide +kernel) (by decide +kernel) (fun _ _ _ h => h) (Or.inl ⟨by rfl, ?_⟩) (by assumption) ?_
            rotate_left
            · intro w hSw; (try dsimp only at hSw); first | (go_simp; done) | (go_simp; with_reducible rfl)
            try simp only [Act.put, List.getElem_toArray, List.getElem_cons_succ, List.getElem_cons_zero, List.setIfInBounds_toArray, List.set_cons_zero, List.set_cons_succ]
            refine wpAnyT_take (i := 4) (v := ?_) rfl (by decide +kernel) (by decide +kernel) (by decide +kernel) (by decide +kernel) (by decide +kernel) (fun _ _ _ h => h) (Or.inl ⟨by rfl, ?_⟩) (by assumption) ?_
            rotate_left
            · intro w hSw; (try dsimp only at hSw); first | (go_simp; done) | (go_simp; with_reducible rfl)
            try simp only [Act.put, List.getElem_toArray, List.getElem_cons_succ, List.getElem_cons_zero, List.setIfInBounds_toArray, List.set_cons_zero, List.set_cons_succ]
            refine wpAnyT_take (i := 5) (v := ?_) rfl (by decide +kernel) (by decide +kernel) (by decide +kernel) (by decide +kernel) (by decide +kernel) (fun _ _ _ h => h) (Or.inl ⟨by rfl, ?_⟩) (by assumption) ?_
            rotate_left
            · intro w hSw; (try dsimp only at hSw); first | (go_simp; done) | (go_simp; with_reducible rfl)
            try simp only [Act.put, List.getElem_toArray, List.getElem_cons_succ, List.getElem_cons_zero, List.setIfInBounds_toArray, List.set_cons_zero, List.set_cons_succ]
            refine wpAnyT_take (i := 6) (v := ?_) rfl (by decide +kernel) (by decide +kernel) (by decide +kernel) (by decide +kernel) (by decide +kernel) (fun _ _ _ h => h) (Or.inl ⟨by rfl, ?_⟩) (by assumption) ?_
            rotate_left
            · intro w hSw; (try dsimp only at hSw); first | (go_simp; done) | (go_simp; with_reducible rfl)
            try simp only [Act.put, List.getElem_toArray, List.getElem_cons_succ, List.getElem_cons_zero, List.setIfInBounds_toArray, List.set_cons_zero, List.set_cons_succ]
            refine wpAnyT_take (i := 7) (v := ?_) rfl (by decide +kernel) (by decide +kernel) (by decide +kernel) (by decide +kernel) (by decide +kernel) (fun _ _ _ h => h) (Or.inl ⟨by rfl, ?_⟩) (by assumption) ?_
            rotate_left
            · intro w hSw; (try dsimp only at hSw); first | (go_simp; done) | (go_simp; with_reducible rfl)
            try simp only [Act.put, List.getElem_toArray, List.getElem_cons_succ, List.getElem_cons_zero, List.setIfInBounds_toArray, List.set_cons_zero, List.set_cons_succ]
            refine wpAnyT_take (i := 8) (v := ?_) rfl (by decide +kernel) (by decide +kernel) (by decide +kernel) (by decide +kernel) (by decide +kernel) (fun _ _ _ h => h) (Or.inl ⟨by rfl, ?_⟩) (by assumption) ?_
            rotate_left
            · intro w hSw; (try dsimp only at hSw); first | (go_simp; done) | (go_simp; with_reducible rfl)
            try simp only [Act.put, List.getElem_toArray, List.getElem_cons_succ, List.getElem_cons_zero, List.setIfInBounds_toArray, List.set_cons_zero, List.set_cons_succ]
            refine wpAnyT_take (i := 9) (v := ?_) rfl (by decide +kernel) (by decide +kernel) (by decide +kernel) (by decide +kernel) (by decide +kernel) (fun _ _ _ h => h) (Or.inl ⟨by rfl, ?_⟩) (by assumption) ?_
            rotate_left
            · intro w hSw; (try dsimp only at hSw); first | (go_simp; done) | (go_simp; with_reducible rfl)
            try simp only [Act.put, List.getElem_toArray, List.getElem_cons_succ, List.getElem_cons_zero, List.setIfInBounds_toArray, List.set_cons_zero, List.set_cons_succ]
            refine wpAnyT_one (i := 10) (by kernel_rfl) rfl (fun K hK => ?_)
            go_simp
            refine hK.out _ _ ?_ (fun hHeld2 => ?_)
            · (try dsimp only); exact HCC.out _ HBN.out
            clear hK K hHeld
            have hHeld := hHeld2
            clear hHeld2
            try simp only [Act.put, List.getElem_toArray, List.getElem_cons_succ, List.getElem_cons_zero, List.setIfInBounds_toArray, List.set_cons_zero, List.set_cons_succ]
            refine wpAnyT_one (i := 11) (by kernel_rfl) rfl (fun K hK => ?_)
            (refine step_append_lies _ (by rfl) _ _ _ (by rfl) H 3 i0 _ 1 8 Try.underlying26 hi0 hz0 hz1 hz2 rfl (by omega) _ ca AL (by rfl) ((show wr.drew.ownsRow H 3 1 u15 ca AL from HO.out).alloc _) ⟨wr.heap.size, 0, none⟩ 1 1 [.int .i64 om] (by rfl) (by rfl) (World.news_of_block (cs := #[.int .i64 om]) (t := 3) (fr := (0, 0)) (heap_alloc_new wr.drew _)) (by simp [Value.oneCell']) (by omega) (by unfold maxLen; omega) (by omega) (by have := HWR.out; simp; omega) (wr.heap.size + 1) (by simp) ?_; intro gg cap' w8 hown8 hgrow8 hat8 hlt8; have HB8 : Hid (Below H w3 w8) := HBN.out.grown hgrow8 (by have := HWR.out; simp; omega) (fun q hq => (HO.out.lt q hq).1); have HO8 := Lib.hid hown8; clear hown8 hgrow8 hat8 hlt8)
            refine hK.out _ _ ?_ (fun hHeld2 => ?_)
            · (try dsimp only); exact HCC.out _ HB8.out
            clear hK K hHeld
            have hHeld := hHeld2
            clear hHeld2
            try simp only [Act.put, List.getElem_toArray, List.getElem_cons_succ, List.getElem_cons_zero, List.setIfInBounds_toArray, List.set_cons_zero, List.set_cons_succ]
            refine wpAnyT_last (i := 12) (by kernel_rfl) (by kernel_rfl) rfl (by kernel_rfl) (fun K hK => ?_)
            go_simp
            refine hK.out _ _ ?_
            clear hK K
            try simp only [Act.put, List.getElem_toArray, List.getElem_cons_succ, List.getElem_cons_zero, List.setIfInBounds_toArray, List.set_cons_zero, List.set_cons_succ]
            clear hHeld
            go_wp2
            go_roundw
            case rel => exact ⟨k + 1, by omega, by go_num, by rw [HR1.out, HNX.out]; exact HO8.out, HB8.out⟩
            case measure => simp [intOf]; omega
        · have d1 : (q0 == 1) = false := by simpa using c1
          have HR1 : Hid (ra (k + 1) = ca) := hRM c1
          clear hRM hRH c1
          go_wp2_with fail
          go_roundw
          case rel => exact ⟨k + 1, by omega, by go_num, by rw [HR1.out, HALE.out]; exact HO.out, HB.out⟩
          case measure => simp [intOf]; omega
    · obtain rfl : k = n := by omega
      as_aux_lemma =>
        obtain ⟨w4, rfl⟩ : ∃ x : World, x = wr := ⟨_, rfl⟩
        obtain ⟨U, hU⟩ : ∃ x, autos l = x := ⟨_, rfl⟩
        obtain ⟨F, hF⟩ : ∃ x, fracs l = x := ⟨_, rfl⟩
        rw [hU] at RAH RAN
        rw [hF] at RFH RFN HRES
        obtain ⟨ca, hca⟩ : ∃ c, U.length = c := ⟨_, rfl⟩
        obtain ⟨cf, hcf⟩ : ∃ c, F.length = c := ⟨_, rfl⟩
        rw [hca] at RAH RAN
        rw [hcf] at RFH RFN HRES
        rw [RAN.out] at HO
        have HUEQ := Lib.hid hU
        have HFEQ := Lib.hid hF
        have HCF := Lib.hid hcf
        have hcak : ca ≤ k := by rw [← RAN.out]; exact RAB.out k
        have hcfk : cf ≤ k := by rw [← RFN.out]; exact RFB.out k
        have HWI : Hid (IsInts w4 u15 (autoW l ls ms ca)) := own_ints HO.out (autoW_len _ _ _ _)
        have HWF : Hid (freshV H u15) := own_fresh HO.out
        have HH4 : Hid (H ≤ w4.heap.size) := by have := HB.out.size; rw [HH.out] at this; exact this
        have HPAR : Hid (0 < fr → (fr < sumTo (autoW l ls ms ca) ca → shareErr fr (autoW l ls ms ca) = 0) ∧ (autoP l ls ms fr).length = ca ∧ (∀ j, j < ca → 0 ≤ gz (autoP l ls ms fr) j ∧ gz (autoP l ls ms fr) j ≤ 134217728)) := fun h => by
          have h2 := HSZ.out.parts (free := fr) h (by omega) HH24.out
          rw [hU, hca] at h2
          exact ⟨h2.1, h2.2.1, h2.2.2.1⟩
        have HAP : Hid (autoP l ls ms fr = if fr < sumTo (autoW l ls ms ca) ca then shareParts fr (autoW l ls ms ca) else autoW l ls ms ca) := by show _ = _; unfold autoP; rw [hU, hca]
        have HGR : Hid (grown l ls ms av gp = if 0 < fr then addAt ls U (autoP l ls ms fr) ca else ls) := by show _ = _; unfold grown; rw [HFE.out, hU, hca]
        have HADB : Hid (0 < fr → ∀ j, j ≤ ca → szTo (addAt ls U (autoP l ls ms fr) j) 268435456) := fun h j hj => by
          have h2 := autoAdd_bd (l := l) (s := ls) (P := autoP l ls ms fr) (b := 134217728) (d := 134217728) HSZ.out.lb HSZ.out.l.symm (by omega) (by rw [hU, hca]; exact (HPAR.out h).2.2) j (by rw [hU, hca]; exact hj)
          rw [hU] at h2; exact h2
        have HWB : Hid (∀ j, j < ca → 0 ≤ gz (autoW l ls ms ca) j ∧ gz (autoW l ls ms ca) j ≤ 134217728) := fun j hj => HSZ.out.weight (m := ca) (by rw [hU, hca]; exact Nat.le_refl _) hj
        have HL4 : Hid (OwnI w4 L ls) := HL3.out.of_below HB.out HLH.out.1
        have HD4 : Hid (OwnC w4 capD D ls) := HO3.out.of_below HB.out HLH.out.2.2.1
        have HBW4 : Hid (Below w.heap.size w w4) := HBW3.out.trans (HB.out.mono HLH.out.2.2.2.2.2)
        have HC4 : Hid (∀ W, Turn D D w4 W → ∀ i, i < k → ∀ j, j < 2 → W.cell? ⟨b, off + i * 2 + j, none⟩ = some (.int .i64 (gf l i j))) := fun W hW i hi2 j hj => by
          have hb0 : b < w.heap.size := H3.out.1
          have hD0 := HLH.out.2.2.2.2.1
          exact (hW.cell (p := ⟨b, off + i * 2 + j, none⟩) (Nat.lt_of_lt_of_le hb0 HBW4.out.size) (by show b ≠ D; omega) (by show b ≠ D; omega)).trans ((HBW4.out.cell (p := ⟨b, off + i * 2 + j, none⟩) hb0).trans (H3.out.2 i hi2 j hj))
        clear hU hF hca hcf HB HO HOW3 HO3 HL3 HM3 HSI HTOT HBW3 HL HM
        go_upto_if 74 with fail
        go_cut [] (fun wx => OwnC wx capD D (grown l ls ms av gp) ∧ Turn D D w4 wx)
        case first =>
          as_aux_lemma =>
            by_cases hf : 0 < fr
            · have HGR2 : Hid (grown l ls ms av gp = addAt ls U (autoP l ls ms fr) ca) := by show _ = _; rw [HGR.out, if_pos hf]
              obtain ⟨hpe, hpl, hpb⟩ := HPAR.out hf
              have HPE := Lib.hid hpe
              have HPB := Lib.hid hpb
              have HPL := Lib.hid hpl
              have HAB := Lib.hid (HADB.out hf)
              clear hpe hpl hpb
              obtain ⟨S, hS⟩ : ∃ S, sumTo (autoW l ls ms ca) ca = S := ⟨_, rfl⟩
              rw [hS] at HAP HPE
              have HSM2 : Hid (Calls Try.prog 17 #[u15] w4 fun e w' => e = .returned (.int .i64 S) ∧ w4 = w') := by
                have hl : (autoW l ls ms ca).length = ca := autoW_len _ _ _ _
                have h := rsum_any _ _ w4 HWI.out (fun j hj => by
                  rw [hl] at hj
                  have h2 := szTo_sum (s := autoW l ls ms ca) (b := 134217728) (fun i hi => by rw [hl] at hi; exact HWB.out i hi) j (by rw [hl]; exact hj)
                  omega)
                rw [hl, hS] at h; exact h
              clear hS
              go_upto_if 79 with (go_at_call 17; refine HSM2.out.mono ?_; rintro e w' ⟨rfl, rfl⟩)
              go_cut [17] (fun s17 wx => IsInts wx s17 (autoP l ls ms fr) ∧ freshV H s17 ∧ Below w4.heap.size w4 wx)
              case first =>
                as_aux_lemma =>
                  by_cases hs : fr < S
                  · have hap : autoP l ls ms fr = shareParts fr (autoW l ls ms ca) := by rw [HAP.out, if_pos hs]
                    have hee := HPE.out hs
                    go_wp2_with (go_at_call 36; refine (rshare_new _ fr (autoW l ls ms ca) _ HWI.out).mono ?_; rw [SharedN_eq hee]; rintro e w4 ⟨v4, rfl, hv4, hb4, hf4⟩)
                    go_meet
                    exact ⟨by rw [hap]; exact hv4, fun a m c e => Nat.le_trans HH4.out (hf4 a m c e), hb4⟩
                  · have hap : autoP l ls ms fr = autoW l ls ms ca := by rw [HAP.out, if_neg hs]
                    go_wp2
                    go_meet
                    exact ⟨by rw [hap]; exact HWI.out, HWF.out, Below.refl _ _⟩
              case rest =>
                as_aux_lemma =>
                  obtain ⟨hp5, hf5, hb5⟩ := hcut
                  obtain ⟨w5, rfl⟩ : ∃ x : World, x = wc := ⟨_, rfl⟩
                  have HF5 := Lib.hid hf5
                  have HB5 := Lib.hid hb5
                  obtain ⟨P, hPp⟩ : ∃ P, autoP l ls ms fr = P := ⟨_, rfl⟩
                  rw [hPp] at hp5 HPB HPL HAB HGR2
                  obtain ⟨pa, pc, rfl, p1, p2, p3⟩ := hp5
                  rw [HPL.out] at p1 p3 ⊢
                  have P3 := Lib.hid p3
                  have HD5 : Hid (OwnC w5 capD D ls) := HD4.out.of_below hb5 HD4.out.lt
                  have HT5 : Hid (Turn D D w4 w5) := Turn.of_below hb5
                  clear hPp p1 p2 p3 hf5 hb5
                  go_wp2_with fail
                  obtain ⟨w6, rfl⟩ : ∃ x : World, x = w5 := ⟨_, rfl⟩
                  go_loopw [18, 19] (fun nn ii wr => ∃ j : Nat, j ≤ k ∧ ii = .int .i64 j ∧ nn = .int .i64 ((ra j : Nat) : Int) ∧ OwnC wr capD D (addAt ls U P (ra j)) ∧ Turn D D w6 wr) (fun _ ii _ => k - (intOf ii).toNat)
                  case atStart => exact ⟨0, Nat.zero_le _, rfl, by rw [RA0.out]; rfl, by rw [RA0.out]; exact HD5.out, Turn.of_below (Below.refl _ _)⟩
                  case round =>
                    obtain ⟨j, hj, rfl, rfl, hoj, htj⟩ := hrel
                    have HOJ := Lib.hid hoj
                    have HTJ := Lib.hid htj
                    clear hoj htj
                    by_cases hjk : j < k
                    ·
                      as_aux_lemma =>
                        have ck := HC4.out wr (HT5.out.trans HTJ.out) j hjk 0 (by omega)
                        rw [Nat.add_zero] at ck
                        have hRH := RAH.out j hjk
                        have hRM := RAM.out j hjk
                        obtain ⟨q0, hq0⟩ : ∃ q, gf l j 0 = q := ⟨_, rfl⟩
                        rw [hq0] at ck hRH hRM
                        obtain ⟨r, hr⟩ : ∃ r, ra j = r := ⟨_, rfl⟩
                        have HR := Lib.hid hr
                        rw [hr] at HOJ hRH hRM ⊢
                        have hjk' : (j : Int) < (k : Int) := by omega
                        have hj0 : (0 : Int) ≤ (j : Int) := by omega
                        clear hq0 hr
                        by_cases c1 : q0 = 1
                        · obtain ⟨hrc, hgn, hr1⟩ := hRH c1
                          have HR1 := Lib.hid hr1
                          have d1 : (q0 == 1) = true := by simpa using c1
                          obtain ⟨pb, po, hpa, hplt, hpcell⟩ := P3.out (by omega)
                          subst hpa
                          have HPN : Hid (pb ≠ D) := by have h1 : H ≤ pb := HF5.out _ _ _ rfl; have h2 := HLH.out.2.2.1; show pb ≠ D; omega
                          have cp := (HTJ.out.cell (p := ⟨pb, po + r, none⟩) hplt HPN.out HPN.out).trans (hpcell r hrc)
                          have hpj := HPB.out r hrc
                          have HAN : Hid (addAt ls U P (r + 1) = (addAt ls U P r).set j (gz (addAt ls U P r) j + gz P r)) := by
                            show _ = _
                            have e : addAt ls U P (r + 1) = (addAt ls U P r).set (gn U r) (gz (addAt ls U P r) (gn U r) + gz P r) := rfl
                            rw [e, hgn]
                          have hlen : (addAt ls U P r).length = k := by rw [addAt_len, HLL.out]
                          have cs := HOJ.out.cell (i := j) (by rw [hlen]; exact hjk)
                          have fs := HOJ.out.free j
                          have hsb := HAB.out r (by omega) j (by rw [hlen]; exact hjk)
                          obtain ⟨x, hx⟩ : ∃ x, gz (addAt ls U P r) j = x := ⟨_, rfl⟩
                          obtain ⟨p, hp⟩ : ∃ p, gz P r = p := ⟨_, rfl⟩
                          rw [hx] at cs hsb HAN
                          rw [hp] at cp hpj HAN
                          have hr0 : (0 : Int) ≤ (r : Int) := by omega
                          have hrc' : (r : Int) < (ca : Int) := by omega
                          have hwx : IntKind.i64.wrap (x + p) = x + p := IntWalk.i64_in _ (by omega)
                          have HO5 : Hid (OwnC (wr.setCell ⟨D, j, none⟩ (.int .i64 (x + p))) capD D (addAt ls U P (r + 1))) := by
                            show OwnC _ _ _ _
                            rw [HAN.out]; exact HOJ.out.set j _
                          have HT6 : Hid (Turn D D w6 (wr.setCell ⟨D, j, none⟩ (.int .i64 (x + p)))) := HTJ.out.trans (Turn.set wr (.inl rfl) j _)
                          clear hx hp hpj hsb hlen hgn hpcell hplt c1 hRH hRM hr1
                          go_wp2_with fail
                          go_region
                          all_goals
                            go_wp2
                            go_roundw
                            case rel => exact ⟨j + 1, by omega, by go_num, by rw [HR1.out]; go_num, by rw [HR1.out]; exact HO5.out, HT6.out.drew⟩
                            case measure => simp [intOf]; omega
                        · have HR1 : Hid (ra (j + 1) = r) := hRM c1
                          have d1 : (q0 == 1) = false := by simpa using c1
                          clear c1 hRH hRM
                          go_wp2_with fail
                          go_roundw
                          case rel => exact ⟨j + 1, by omega, by go_num, by rw [HR1.out], by rw [HR1.out]; exact HOJ.out, HTJ.out⟩
                          case measure => simp [intOf]; omega
                    · obtain rfl : j = k := by omega
                      have HFIN : Hid (OwnC wr capD D (grown l ls ms av gp)) := by show OwnC _ _ _ _; rw [HGR2.out, ← RAN.out]; exact HOJ.out
                      go_wp2
                      go_meet
                      exact ⟨HFIN.out, HT5.out.trans HTJ.out⟩
            · have HGR2 : Hid (grown l ls ms av gp = ls) := by show _ = _; rw [HGR.out, if_neg hf]
              have d0 : decide (0 < fr) = false := by simpa using hf
              go_wp2
              go_meet
              exact ⟨by rw [HGR2.out]; exact HD4.out, Turn.of_below (Below.refl _ _)⟩
        case rest =>
          as_aux_lemma =>
            obtain ⟨hg5, ht5⟩ := hcut
            obtain ⟨w5, rfl⟩ : ∃ x : World, x = wc := ⟨_, rfl⟩
            obtain ⟨GS, hGS⟩ : ∃ x, grown l ls ms av gp = x := ⟨_, rfl⟩
            have HGSL : Hid (GS.length = k) := by show _ = _; rw [← hGS, grown_len, HLL.out]
            have HGSB : Hid (szTo GS 268435456) := by show szTo _ _; rw [← hGS]; exact HSZ.out.grown HAV.out HGP.out HH24.out
            have HGF : Hid (∀ i, gf l i 0 = 2 → gz GS i = gz ls i) := fun i hi2 => by rw [← hGS]; exact grown_frac hi2
            rw [hGS] at hg5 HRES
            have HG5 := Lib.hid hg5
            have HT5 := Lib.hid ht5
            obtain ⟨H5, hH5⟩ : ∃ x, w5.heap.size = x := ⟨_, rfl⟩
            have HH5 := Lib.hid hH5
            have HHH : Hid (H ≤ H5 ∧ w.heap.size ≤ H5 ∧ D < H5 ∧ L < H5 ∧ b < H5) := by
              have h1 := ht5.size
              have h2 := HH4.out
              have h3 := HLH.out
              have h4 := HG5.out.lt
              have h5 := H3.out.1
              have h6 := HBW4.out.size
              rw [hH5] at h1 h4
              exact ⟨by omega, by omega, h4, by omega, by omega⟩
            have HL5 : Hid (OwnI w5 L ls) := (HT5.out.block L HL4.out.lt HLH.out.2.2.2.1 HLH.out.2.2.2.1).trans HL4.out
            have HBW5 : Hid (Below w.heap.size w w5) := HBW4.out.trans (ht5.low HLH.out.2.2.2.2.1 HLH.out.2.2.2.2.1 HBW4.out.size)
            have HC5 : Hid (∀ W, Below H5 w5 W → ∀ i, i < k → ∀ j, j < 2 → W.cell? ⟨b, off + i * 2 + j, none⟩ = some (.int .i64 (gf l i j))) := fun W hW i hi2 j hj => (hW.cell (p := ⟨b, off + i * 2 + j, none⟩) HHH.out.2.2.2.2).trans (HC4.out w5 HT5.out i hi2 j hj)
            have HRB : Hid (∀ j, j ≤ k → -8589934592 ≤ rsTo av gp l GS j ∧ rsTo av gp l GS j ≤ av) := fun j hj => rsTo_bd HAV.out HGP.out HGSB.out (by rw [HGSL.out, ← HN.out]; exact HH24.out) (by rw [HGSL.out]; exact hj)
            have HF0 : Hid (flexL l GS (rf 0) = []) := by show _ = _; rw [RF0.out]; rfl
            have HR0 : Hid (rsTo av gp l GS 0 = av) := rsTo_zero _ _ _ _
            clear hg5 ht5 hGS hH5 HPAR HAP HGR HADB HWI HWF HL4 HBW4 HH4 HD4 HC4 HWB HT5
            go_wp2_with fail
            go_loopw [20, 21, 22] (fun s u i wr => ∃ j : Nat, j ≤ k ∧ i = .int .i64 j ∧ s = .int .i64 (rsTo av gp l GS j) ∧ wr.ownsRow H5 60 5 u (rf j) (recCells (flexL l GS (rf j))) ∧ Below H5 w5 wr) (fun _ _ i _ => k - (intOf i).toNat)
            case atStart => exact ⟨0, Nat.zero_le _, rfl, by rw [HR0.out], by rw [HF0.out, RF0.out]; exact World.ownsRow_nil _ _ _ _, Below.refl _ _⟩
            case round =>
              obtain ⟨j, hj, rfl, rfl, ho, hbl⟩ := hrel
              have HO := Lib.hid ho
              have HB := Lib.hid hbl
              clear ho hbl
              have hrb := HRB.out j hj
              by_cases hjk : j < k
              ·
                as_aux_lemma =>
                  have k0 := HC5.out wr HB.out j hjk 0 (by omega)
                  have k1 := HC5.out wr HB.out j hjk 1 (by omega)
                  rw [Nat.add_zero] at k0
                  have hcf := RFB.out j
                  have hRH := RFH.out j hjk
                  have hRM := RFM.out j hjk
                  have hGF := HGF.out j
                  have hsuc := rsTo_succ av gp l GS j
                  have hrb1 := HRB.out (j + 1) hjk
                  have hgb := HGSB.out j (by rw [HGSL.out]; exact hjk)
                  have hR0 := HR0.out
                  have HFO0 : Hid (flexOf l GS j = [0, if 1048576 < gz GS j then 1048576 else gz GS j, 1048576, gf l j 1, 0]) := rfl
                  obtain ⟨q0, hq0⟩ : ∃ q, gf l j 0 = q := ⟨_, rfl⟩
                  obtain ⟨q1, hq1⟩ : ∃ q, gf l j 1 = q := ⟨_, rfl⟩
                  rw [hq0] at k0 hRH hRM hsuc hGF
                  rw [hq1] at k1 HFO0
                  obtain ⟨R, hR⟩ : ∃ R, rsTo av gp l GS j = R := ⟨_, rfl⟩
                  have HRR := Lib.hid hR
                  rw [hR] at hsuc hrb ⊢
                  obtain ⟨X, hX⟩ : ∃ X, (if 0 < j then R - gp else av) = X := ⟨_, rfl⟩
                  rw [hX] at hsuc
                  have HX := Lib.hid hX
                  obtain ⟨rj, hrj⟩ : ∃ r, rf j = r := ⟨_, rfl⟩
                  rw [hrj] at HO hcf hRH hRM
                  have HWR : Hid (H5 ≤ wr.heap.size) := by have := HB.out.size; rw [HH5.out] at this; exact this
                  have HSUC := Lib.hid hsuc
                  have HRH := Lib.hid hRH
                  have HRM := Lib.hid hRM
                  have HGF2 := Lib.hid hGF
                  have HRJ0 : Hid (j = 0 → R = av) := fun h => by rw [← hR, h]; exact hR0
                  have hjk' : (j : Int) < (k : Int) := by omega
                  have hj0 : (0 : Int) ≤ (j : Int) := by omega
                  have hXb : -17179869184 ≤ X ∧ X ≤ 17179869184 := by
                    rw [← hX]
                    split <;> omega
                  have hrl := hcf
                  clear hq0 hq1 hR hX hrj hsuc hRH hRM hGF hR0
                  go_upto_if 118 with fail
                  go_cut [20] (fun s wx => s = .int .i64 X ∧ wx = wr)
                  case first =>
                    as_aux_lemma =>
                      have hx := HX.out
                      by_cases hjp : 0 < j
                      · rw [if_pos hjp] at hx
                        have e1 : (0 : Int) < (j : Int) := by omega
                        have e2 : decide ((0 : Int) < (j : Int)) = true := by simpa using hjp
                        have e3 : decide (0 < j) = true := by simpa using hjp
                        have hw : IntKind.i64.wrap (R - gp) = X := by rw [← hx]; exact IntWalk.i64_in _ (by omega)
                        clear hx k0 k1
                        go_wp2
                        go_meet
                        exact ⟨rfl, rfl⟩
                      · rw [if_neg hjp] at hx
                        have e1 : ¬ (0 : Int) < (j : Int) := by omega
                        have e2 : decide ((0 : Int) < (j : Int)) = false := by simpa using hjp
                        have e3 : decide (0 < j) = false := by simpa using hjp
                        have e4 : R = X := by rw [HRJ0.out (by omega)]; exact hx
                        clear hx k0 k1
                        go_wp2
                        go_meet
                        exact ⟨by first | rfl | rw [e4], rfl⟩
                  case rest =>
                    obtain ⟨rfl, hwx⟩ := hcut
                    subst hwx
                    obtain ⟨wr, rfl⟩ : ∃ x : World, x = wc := ⟨_, rfl⟩
                    by_cases c2 : q0 = 2
                    ·
                      as_aux_lemma =>
                        obtain ⟨hrc, hgn, hr1⟩ := HRH.out c2
                        have HR1 := Lib.hid hr1
                        have hsx := HSUC.out
                        rw [if_pos c2, Int.sub_zero] at hsx
                        have HSX := Lib.hid hsx
                        have hgl := HGF2.out c2
                        have d2 : (q0 == 2) = true := by simpa using c2
                        obtain ⟨x, hx⟩ : ∃ x, gz ls j = x := ⟨_, rfl⟩
                        rw [hgl, hx] at HFO0
                        have HFN : Hid (recCells (flexL l GS (rj + 1)) = recCells (flexL l GS rj) ++ (flexOf l GS j).map (Value.int .i64)) := by show _ = _; rw [flexL_succ, recCells_append, HFEQ.out, hgn]; simp [recCells]
                        have HFM : Hid (∀ v, [0, v, 1048576, q1, 0].map (Value.int .i64) = [.int .i64 0, .int .i64 v, .int .i64 1048576, .int .i64 q1, .int .i64 0]) := fun v => rfl
                        have HCC : Hid (∀ W, Below H5 w5 W → W.cell? ⟨L, j, none⟩ = some (.int .i64 x) ∧ W.cell? ⟨b, off + j * 2 + 1, none⟩ = some (.int .i64 q1)) := fun W hW => by
                          have cl := (HL5.out.of_below hW HHH.out.2.2.2.1).cell (i := j) (by rw [HLL.out]; exact hjk)
                          rw [hx] at cl
                          have c3 := HC5.out W hW j hjk 1 (by omega)
                          have c4 := k1.symm.trans (HC5.out wr HB.out j hjk 1 (by omega))
                          rw [← c4] at c3
                          exact ⟨cl, c3⟩
                        clear hx hgl hsx hr1 hgn c2 k1
                        go_upto_region 32 with fail
                        clear k0 d2
                        by_cases hx : 1048576 < x
                        · rw [if_pos hx] at HFO0
                          rw [HFO0.out, HFM.out] at HFN
                          refine wp_region_T (S := (fun w' => w'.cell? ⟨L, j, none⟩ = some (.int .i64 x) ∧ w'.cell? ⟨b, off + j * 2 + 1, none⟩ = some (.int .i64 q1))) 14 (by kernel_rfl) (HCC.out _ HB.out.drew) (fun hHeld => ?_)
                          refine wpAnyT_take (i := 0) (v := ?_) rfl (by decide +kernel) (by decide +kernel) (by decide +kernel) (by decide +kernel) (by decide +kernel) (fun _ _ _ h => h) (Or.inl ⟨by rfl, ?_⟩) (by assumption) ?_
                          rotate_left
                          · intro w hSw; (try dsimp only at hSw); first | (go_simp; done) | (go_simp; with_reducible rfl)
                          try simp only [Act.put, List.getElem_toArray, List.getElem_cons_succ, List.getElem_cons_zero, List.setIfInBounds_toArray, List.set_cons_zero, List.set_cons_succ]
                          refine wpAnyT_take (i := 1) (v := ?_) rfl (by decide +kernel) (by decide +kernel) (by decide +kernel) (by decide +kernel) (by decide +kernel) (fun _ _ _ h => h) (Or.inl ⟨by rfl, ?_⟩) (by assumption) ?_
                          rotate_left
                          · intro w hSw; (try dsimp only at hSw); first | (go_simp; done) | (go_simp; with_reducible rfl)
                          try simp only [Act.put, List.getElem_toArray, List.getElem_cons_succ, List.getElem_cons_zero, List.setIfInBounds_toArray, List.set_cons_zero, List.set_cons_succ]
                          refine wpAnyT_take (i := 2) (v := ?_) rfl (by decide +kernel) (by decide +kernel) (by decide +kernel) (by decide +kernel) (by decide +kernel) (fun _ _ _ h => h) (Or.inl ⟨by rfl, ?_⟩) (by assumption) ?_
                          rotate_left
                          · intro w hSw; (try dsimp only at hSw); first | (go_simp; done) | (go_simp; with_reducible rfl)
                          try simp only [Act.put, List.getElem_toArray, List.getElem_cons_succ, List.getElem_cons_zero, List.setIfInBounds_toArray, List.set_cons_zero, List.set_cons_succ]
                          refine wpAnyT_take (i := 3) (v := ?_) rfl (by decide +kernel) (by decide +kernel) (by decide +kernel) (by decide +kernel) (by decide +kernel) (fun _ _ _ h => h) (Or.inl ⟨by rfl, ?_⟩) (by assumption) ?_
                          rotate_left
                          · intro w hSw; (try dsimp only at hSw); first | (go_simp; done) | (go_simp; with_reducible rfl)
                          try simp only [Act.put, List.getElem_toArray, List.getElem_cons_succ, List.getElem_cons_zero, List.setIfInBounds_toArray, List.set_cons_zero, List.set_cons_succ]
                          refine wpAnyT_take (i := 4) (v := ?_) rfl (by decide +kernel) (by decide +kernel) (by decide +kernel) (by decide +kernel) (by decide +kernel) (fun _ _ _ h => h) (Or.inl ⟨by rfl, ?_⟩) (by assumption) ?_
                          rotate_left
                          · intro w hSw; (try dsimp only at hSw); first | (go_simp; done) | (go_simp; with_reducible rfl)
                          try simp only [Act.put, List.getElem_toArray, List.getElem_cons_succ, List.getElem_cons_zero, List.setIfInBounds_toArray, List.set_cons_zero, List.set_cons_succ]
                          refine wpAnyT_take (i := 5) (v := ?_) rfl (by decide +kernel) (by decide +kernel) (by decide +kernel) (by decide +kernel) (by decide +kernel) (fun _ _ _ h => h) (Or.inl ⟨by rfl, ?_⟩) (by assumption) ?_
                          rotate_left
                          · intro w hSw; (try dsimp only at hSw); first | (go_simp; done) | (go_simp; with_reducible rfl)
                          try simp only [Act.put, List.getElem_toArray, List.getElem_cons_succ, List.getElem_cons_zero, List.setIfInBounds_toArray, List.set_cons_zero, List.set_cons_succ]
                          refine wpAnyT_take (i := 6) (v := ?_) rfl (by decide +kernel) (by decide +kernel) (by decide +kernel) (by decide +kernel) (by decide +kernel) (fun _ _ _ h => h) (Or.inl ⟨by rfl, ?_⟩) (by assumption) ?_
                          rotate_left
                          · intro w hSw; (try dsimp only at hSw); first | (go_simp; done) | (go_simp; with_reducible rfl)
                          try simp only [Act.put, List.getElem_toArray, List.getElem_cons_succ, List.getElem_cons_zero, List.setIfInBounds_toArray, List.set_cons_zero, List.set_cons_succ]
                          refine wpAnyT_take (i := 7) (v := ?_) rfl (by decide +kernel) (by decide +kernel) (by decide +kernel) (by decide +kernel) (by decide +kernel) (fun _ _ _ h => h) (Or.inl ⟨by rfl, ?_⟩) (by assumption) ?_
                          rotate_left
                          · intro w hSw; (try dsimp only at hSw); first | (go_simp; done) | (go_simp; with_reducible rfl)
                          try simp only [Act.put, List.getElem_toArray, List.getElem_cons_succ, List.getElem_cons_zero, List.setIfInBounds_toArray, List.set_cons_zero, List.set_cons_succ]
                          refine wpAnyT_take (i := 8) (v := ?_) rfl (by decide +kernel) (by decide +kernel) (by decide +kernel) (by decide +kernel) (by decide +kernel) (fun _ _ _ h => h) (Or.inl ⟨by rfl, ?_⟩) (by assumption) ?_
                          rotate_left
                          · intro w hSw; (try dsimp only at hSw); first | (go_simp; done) | (go_simp; with_reducible rfl)
                          try simp only [Act.put, List.getElem_toArray, List.getElem_cons_succ, List.getElem_cons_zero, List.setIfInBounds_toArray, List.set_cons_zero, List.set_cons_succ]
                          refine wpAnyT_take (i := 9) (v := ?_) rfl (by decide +kernel) (by decide +kernel) (by decide +kernel) (by decide +kernel) (by decide +kernel) (fun _ _ _ h => h) (Or.inl ⟨by rfl, ?_⟩) (by assumption) ?_
                          rotate_left
                          · intro w hSw; (try dsimp only at hSw); first | (go_simp; done) | (go_simp; with_reducible rfl)
                          try simp only [Act.put, List.getElem_toArray, List.getElem_cons_succ, List.getElem_cons_zero, List.setIfInBounds_toArray, List.set_cons_zero, List.set_cons_succ]
                          refine wpAnyT_take (i := 10) (v := ?_) rfl (by decide +kernel) (by decide +kernel) (by decide +kernel) (by decide +kernel) (by decide +kernel) (fun _ _ _ h => h) (Or.inl ⟨by rfl, ?_⟩) (by assumption) ?_
                          rotate_left
                          · intro w hSw; (try dsimp only at hSw); first | (go_simp; done) | (go_simp; with_reducible rfl)
                          try simp only [Act.put, List.getElem_toArray, List.getElem_cons_succ, List.getElem_cons_zero, List.setIfInBounds_toArray, List.set_cons_zero, List.set_cons_succ]
                          refine wpAnyT_take (i := 11) (v := ?_) rfl (by decide +kernel) (by decide +kernel) (by decide +kernel) (by decide +kernel) (by decide +kernel) (fun _ _ _ h => h) (Or.inl ⟨by rfl, ?_⟩) (by assumption) ?_
                          rotate_left
                          · intro w hSw; (try dsimp only at hSw); first | (go_simp; done) | (go_simp; with_reducible rfl)
                          try simp only [Act.put, List.getElem_toArray, List.getElem_cons_succ, List.getElem_cons_zero, List.setIfInBounds_toArray, List.set_cons_zero, List.set_cons_succ]
                          have HBN : Hid (Below H5 w5 (wr.drew.alloc (.cells #[.int .i64 0, .int .i64 1048576, .int .i64 1048576, .int .i64 q1, .int .i64 0] 60))) := HB.out.drew.alloc HWR.out _
                          refine wpAnyT_one (i := 12) (by kernel_rfl) rfl (fun K hK => ?_)
                          (refine step_flex2 ?_)
                          refine hK.out _ _ ?_ (fun hHeld2 => ?_)
                          · (try dsimp only); exact HCC.out _ HBN.out
                          clear hK K hHeld
                          have hHeld := hHeld2
                          clear hHeld2
                          try simp only [Act.put, List.getElem_toArray, List.getElem_cons_succ, List.getElem_cons_zero, List.setIfInBounds_toArray, List.set_cons_zero, List.set_cons_succ]
                          refine wpAnyT_one (i := 13) (by kernel_rfl) rfl (fun K hK => ?_)
                          (refine step_append_lies _ (by rfl) _ _ _ (by rfl) H5 60 f0 _ 5 40 Try.underlying58 hf0 hf1 hf2 hf3 rfl (by omega) _ rj (recCells (flexL l GS rj)) (by rfl) ((show wr.drew.ownsRow H5 60 5 u21 rj (recCells (flexL l GS rj)) from HO.out).alloc _) ⟨wr.heap.size, 0, none⟩ 1 1 [.int .i64 0, .int .i64 1048576, .int .i64 1048576, .int .i64 q1, .int .i64 0] (by rfl) (by rfl) (World.news_of_block (cs := #[.int .i64 0, .int .i64 1048576, .int .i64 1048576, .int .i64 q1, .int .i64 0]) (t := 60) (fr := (0, 0)) (heap_alloc_new wr.drew _)) (by simp [Value.oneCell']) (by omega) (by unfold maxLen; omega) (by omega) (by have := HWR.out; simp; omega) (wr.heap.size + 1) (by simp) ?_; intro gg cap' w8 hown8 hgrow8 hat8 hlt8; have HB8 : Hid (Below H5 w5 w8) := HBN.out.grown hgrow8 (by have := HWR.out; simp; omega) (fun q hq => (HO.out.lt q hq).1); have HO8 := Lib.hid hown8; clear hown8 hgrow8 hat8 hlt8)
                          refine hK.out _ _ ?_ (fun hHeld2 => ?_)
                          · (try dsimp only); exact HCC.out _ HB8.out
                          clear hK K hHeld
                          have hHeld := hHeld2
                          clear hHeld2
                          try simp only [Act.put, List.getElem_toArray, List.getElem_cons_succ, List.getElem_cons_zero, List.setIfInBounds_toArray, List.set_cons_zero, List.set_cons_succ]
                          refine wpAnyT_last (i := 14) (by kernel_rfl) (by kernel_rfl) rfl (by kernel_rfl) (fun K hK => ?_)
                          go_simp
                          refine hK.out _ _ ?_
                          clear hK K
                          try simp only [Act.put, List.getElem_toArray, List.getElem_cons_succ, List.getElem_cons_zero, List.setIfInBounds_toArray, List.set_cons_zero, List.set_cons_succ]
                          clear hHeld
                          go_wp2
                          go_roundw
                          case rel => exact ⟨j + 1, by omega, by go_num, by rw [HSX.out], by rw [HR1.out, HFN.out]; exact HO8.out, HB8.out⟩
                          case measure => simp [intOf]; omega
                        · rw [if_neg hx] at HFO0
                          rw [HFO0.out, HFM.out] at HFN
                          refine wp_region_T (S := (fun w' => w'.cell? ⟨L, j, none⟩ = some (.int .i64 x) ∧ w'.cell? ⟨b, off + j * 2 + 1, none⟩ = some (.int .i64 q1))) 14 (by kernel_rfl) (HCC.out _ HB.out.drew) (fun hHeld => ?_)
                          refine wpAnyT_take (i := 0) (v := ?_) rfl (by decide +kernel) (by decide +kernel) (by decide +kernel) (by decide +kernel) (by decide +kernel) (fun _ _ _ h => h) (Or.inl ⟨by rfl, ?_⟩) (by assumption) ?_
                          rotate_left
                          · intro w hSw; (try dsimp only at hSw); first | (go_simp; done) | (go_simp; with_reducible rfl)
                          try simp only [Act.put, List.getElem_toArray, List.getElem_cons_succ, List.getElem_cons_zero, List.setIfInBounds_toArray, List.set_cons_zero, List.set_cons_succ]
                          refine wpAnyT_take (i := 1) (v := ?_) rfl (by decide +kernel) (by decide +kernel) (by decide +kernel) (by decide +kernel) (by decide +kernel) (fun _ _ _ h => h) (Or.inl ⟨by rfl, ?_⟩) (by assumption) ?_
                          rotate_left
                          · intro w hSw; (try dsimp only at hSw); first | (go_simp; done) | (go_simp; with_reducible rfl)
                          try simp only [Act.put, List.getElem_toArray, List.getElem_cons_succ, List.getElem_cons_zero, List.setIfInBounds_toArray, List.set_cons_zero, List.set_cons_succ]
                          refine wpAnyT_take (i := 2) (v := ?_) rfl (by decide +kernel) (by decide +kernel) (by decide +kernel) (by decide +kernel) (by decide +kernel) (fun _ _ _ h => h) (Or.inl ⟨by rfl, ?_⟩) (by assumption) ?_
                          rotate_left
                          · intro w hSw; (try dsimp only at hSw); first | (go_simp; done) | (go_simp; with_reducible rfl)
                          try simp only [Act.put, List.getElem_toArray, List.getElem_cons_succ, List.getElem_cons_zero, List.setIfInBounds_toArray, List.set_cons_zero, List.set_cons_succ]
                          refine wpAnyT_take (i := 3) (v := ?_) rfl (by decide +kernel) (by decide +kernel) (by decide +kernel) (by decide +kernel) (by decide +kernel) (fun _ _ _ h => h) (Or.inl ⟨by rfl, ?_⟩) (by assumption) ?_
                          rotate_left
                          · intro w hSw; (try dsimp only at hSw); first | (go_simp; done) | (go_simp; with_reducible rfl)
                          try simp only [Act.put, List.getElem_toArray, List.getElem_cons_succ, List.getElem_cons_zero, List.setIfInBounds_toArray, List.set_cons_zero, List.set_cons_succ]
                          refine wpAnyT_take (i := 4) (v := ?_) rfl (by decide +kernel) (by decide +kernel) (by decide +kernel) (by decide +kernel) (by decide +kernel) (fun _ _ _ h => h) (Or.inl ⟨by rfl, ?_⟩) (by assumption) ?_
                          rotate_left
                          · intro w hSw; (try dsimp only at hSw); first | (go_simp; done) | (go_simp; with_reducible rfl)
                          try simp only [Act.put, List.getElem_toArray, List.getElem_cons_succ, List.getElem_cons_zero, List.setIfInBounds_toArray, List.set_cons_zero, List.set_cons_succ]
                          refine wpAnyT_take (i := 5) (v := ?_) rfl (by decide +kernel) (by decide +kernel) (by decide +kernel) (by decide +kernel) (by decide +kernel) (fun _ _ _ h => h) (Or.inl ⟨by rfl, ?_⟩) (by assumption) ?_
                          rotate_left
                          · intro w hSw; (try dsimp only at hSw); first | (go_simp; done) | (go_simp; with_reducible rfl)
                          try simp only [Act.put, List.getElem_toArray, List.getElem_cons_succ, List.getElem_cons_zero, List.setIfInBounds_toArray, List.set_cons_zero, List.set_cons_succ]
                          refine wpAnyT_take (i := 6) (v := ?_) rfl (by decide +kernel) (by decide +kernel) (by decide +kernel) (by decide +kernel) (by decide +kernel) (fun _ _ _ h => h) (Or.inl ⟨by rfl, ?_⟩) (by assumption) ?_
                          rotate_left
                          · intro w hSw; (try dsimp only at hSw); first | (go_simp; done) | (go_simp; with_reducible rfl)
                          try simp only [Act.put, List.getElem_toArray, List.getElem_cons_succ, List.getElem_cons_zero, List.setIfInBounds_toArray, List.set_cons_zero, List.set_cons_succ]
                          refine wpAnyT_take (i := 7) (v := ?_) rfl (by decide +kernel) (by decide +kernel) (by decide +kernel) (by decide +kernel) (by decide +kernel) (fun _ _ _ h => h) (Or.inl ⟨by rfl, ?_⟩) (by assumption) ?_
                          rotate_left
                          · intro w hSw; (try dsimp only at hSw); first | (go_simp; done) | (go_simp; with_reducible rfl)
                          try simp only [Act.put, List.getElem_toArray, List.getElem_cons_succ, List.getElem_cons_zero, List.setIfInBounds_toArray, List.set_cons_zero, List.set_cons_succ]
                          refine wpAnyT_take (i := 8) (v := ?_) rfl (by decide +kernel) (by decide +kernel) (by decide +kernel) (by decide +kernel) (by decide +kernel) (fun _ _ _ h => h) (Or.inl ⟨by rfl, ?_⟩) (by assumption) ?_
                          rotate_left
                          · intro w hSw; (try dsimp only at hSw); first | (go_simp; done) | (go_simp; with_reducible rfl)
                          try simp only [Act.put, List.getElem_toArray, List.getElem_cons_succ, List.getElem_cons_zero, List.setIfInBounds_toArray, List.set_cons_zero, List.set_cons_succ]
                          refine wpAnyT_take (i := 9) (v := ?_) rfl (by decide +kernel) (by decide +kernel) (by decide +kernel) (by decide +kernel) (by decide +kernel) (fun _ _ _ h => h) (Or.inl ⟨by rfl, ?_⟩) (by assumption) ?_
                          rotate_left
                          · intro w hSw; (try dsimp only at hSw); first | (go_simp; done) | (go_simp; with_reducible rfl)
                          try simp only [Act.put, List.getElem_toArray, List.getElem_cons_succ, List.getElem_cons_zero, List.setIfInBounds_toArray, List.set_cons_zero, List.set_cons_succ]
                          refine wpAnyT_take (i := 10) (v := ?_) rfl (by decide +kernel) (by decide +kernel) (by decide +kernel) (by decide +kernel) (by decide +kernel) (fun _ _ _ h => h) (Or.inl ⟨by rfl, ?_⟩) (by assumption) ?_
                          rotate_left
                          · intro w hSw; (try dsimp only at hSw); first | (go_simp; done) | (go_simp; with_reducible rfl)
                          try simp only [Act.put, List.getElem_toArray, List.getElem_cons_succ, List.getElem_cons_zero, List.setIfInBounds_toArray, List.set_cons_zero, List.set_cons_succ]
                          refine wpAnyT_take (i := 11) (v := ?_) rfl (by decide +kernel) (by decide +kernel) (by decide +kernel) (by decide +kernel) (by decide +kernel) (fun _ _ _ h => h) (Or.inl ⟨by rfl, ?_⟩) (by assumption) ?_
                          rotate_left
                          · intro w hSw; (try dsimp only at hSw); first | (go_simp; done) | (go_simp; with_reducible rfl)
                          try simp only [Act.put, List.getElem_toArray, List.getElem_cons_succ, List.getElem_cons_zero, List.setIfInBounds_toArray, List.set_cons_zero, List.set_cons_succ]
                          have HBN : Hid (Below H5 w5 (wr.drew.alloc (.cells #[.int .i64 0, .int .i64 x, .int .i64 1048576, .int .i64 q1, .int .i64 0] 60))) := HB.out.drew.alloc HWR.out _
                          refine wpAnyT_one (i := 12) (by kernel_rfl) rfl (fun K hK => ?_)
                          (refine step_flex2 ?_)
                          refine hK.out _ _ ?_ (fun hHeld2 => ?_)
                          · (try dsimp only); exact HCC.out _ HBN.out
                          clear hK K hHeld
                          have hHeld := hHeld2
                          clear hHeld2
                          try simp only [Act.put, List.getElem_toArray, List.getElem_cons_succ, List.getElem_cons_zero, List.setIfInBounds_toArray, List.set_cons_zero, List.set_cons_succ]
                          refine wpAnyT_one (i := 13) (by kernel_rfl) rfl (fun K hK => ?_)
                          (refine step_append_lies _ (by rfl) _ _ _ (by rfl) H5 60 f0 _ 5 40 Try.underlying58 hf0 hf1 hf2 hf3 rfl (by omega) _ rj (recCells (flexL l GS rj)) (by rfl) ((show wr.drew.ownsRow H5 60 5 u21 rj (recCells (flexL l GS rj)) from HO.out).alloc _) ⟨wr.heap.size, 0, none⟩ 1 1 [.int .i64 0, .int .i64 x, .int .i64 1048576, .int .i64 q1, .int .i64 0] (by rfl) (by rfl) (World.news_of_block (cs := #[.int .i64 0, .int .i64 x, .int .i64 1048576, .int .i64 q1, .int .i64 0]) (t := 60) (fr := (0, 0)) (heap_alloc_new wr.drew _)) (by simp [Value.oneCell']) (by omega) (by unfold maxLen; omega) (by omega) (by have := HWR.out; simp; omega) (wr.heap.size + 1) (by simp) ?_; intro gg cap' w8 hown8 hgrow8 hat8 hlt8; have HB8 : Hid (Below H5 w5 w8) := HBN.out.grown hgrow8 (by have := HWR.out; simp; omega) (fun q hq => (HO.out.lt q hq).1); have HO8 := Lib.hid hown8; clear hown8 hgrow8 hat8 hlt8)
                          refine hK.out _ _ ?_ (fun hHeld2 => ?_)
                          · (try dsimp only); exact HCC.out _ HB8.out
                          clear hK K hHeld
                          have hHeld := hHeld2
                          clear hHeld2
                          try simp only [Act.put, List.getElem_toArray, List.getElem_cons_succ, List.getElem_cons_zero, List.setIfInBounds_toArray, List.set_cons_zero, List.set_cons_succ]
                          refine wpAnyT_last (i := 14) (by kernel_rfl) (by kernel_rfl) rfl (by kernel_rfl) (fun K hK => ?_)
                          go_simp
                          refine hK.out _ _ ?_
                          clear hK K
                          try simp only [Act.put, List.getElem_toArray, List.getElem_cons_succ, List.getElem_cons_zero, List.setIfInBounds_toArray, List.set_cons_zero, List.set_cons_succ]
                          clear hHeld
                          go_wp2
                          go_roundw
                          case rel => exact ⟨j + 1, by omega, by go_num, by rw [HSX.out], by rw [HR1.out, HFN.out]; exact HO8.out, HB8.out⟩
                          case measure => simp [intOf]; omega
                    ·
                      as_aux_lemma =>
                        have HR1 : Hid (rf (j + 1) = rj) := HRM.out c2
                        have hsx := HSUC.out
                        rw [if_neg c2] at hsx
                        have d2 : (q0 == 2) = false := by simpa using c2
                        have cs := (HG5.out.of_below HB.out HHH.out.2.2.1).cell (i := j) (by rw [HGSL.out]; exact hjk)
                        obtain ⟨x, hx⟩ : ∃ x, gz GS j = x := ⟨_, rfl⟩
                        rw [hx] at cs hsx hgb
                        have HSX := Lib.hid hsx
                        have hw : IntKind.i64.wrap (X - x) = X - x := IntWalk.i64_in _ (by omega)
                        clear hx hsx c2 k1
                        go_wp2_with fail
                        go_roundw
                        case rel => exact ⟨j + 1, by omega, by go_num, by rw [HSX.out], by rw [HR1.out]; exact HO.out, HB.out⟩
                        case measure => simp [intOf]; omega
              · obtain rfl : j = k := by omega
                as_aux_lemma =>
                  obtain ⟨w6, rfl⟩ : ∃ x : World, x = wr := ⟨_, rfl⟩
                  obtain ⟨R, hR⟩ : ∃ R, rsTo av gp l GS j = R := ⟨_, rfl⟩
                  have HRT : Hid (restT l GS av gp = R) := by show _ = _; rw [← hR]; unfold restT rsTo; rw [HN.out]
                  rw [hR] at hrb ⊢
                  rw [RFN.out] at HO
                  obtain ⟨hfe, hfl, hfb⟩ := fracP_ok (l := l) (s := GS) (av := av) (gp := gp) HTK.out HGSB.out (by rw [HGSL.out, HN.out]) HH24.out
                  rw [HRT.out, HFEQ.out, HCF.out] at hfe
                  rw [HFEQ.out, HCF.out] at hfl hfb
                  have HFP : Hid (fracP l GS av gp = resL (clampZ R 0 1048576) 0 (flexL l GS cf)) := by show _ = _; unfold fracP; rw [HRT.out, HFEQ.out, HCF.out]
                  have HFE2 := Lib.hid hfe
                  have HFL := Lib.hid hfl
                  have HIR : Hid (IsRecs 5 w6 u21 (flexL l GS cf)) := ownsRow_isRecs HO.out (by rw [flexL_len]) (flexL_wide _ _ _)
                  have HWR : Hid (H5 ≤ w6.heap.size) := by have := HB.out.size; rw [HH5.out] at this; exact this
                  obtain ⟨P, hPp⟩ : ∃ P, fracP l GS av gp = P := ⟨_, rfl⟩
                  rw [hPp] at HFP HRES HFL
                  clear hR hfe hfl hfb hPp
                  go_upto_region 34 with fail
                  go_cut [23] (fun s wx => IsInts wx s P ∧ freshV H5 s ∧ Below w6.heap.size w6 wx)
                  case first =>
                    as_aux_lemma =>
                      by_cases hr0 : R ≤ 0
                      · have d1 : ¬ 0 < R := by omega
                        have hc : clampZ R 0 1048576 = 0 := by unfold clampZ; repeat' split <;> omega
                        rw [hc] at HFE2 HFP
                        go_wp2_with fail
                        refine (rres_new _ _ _ (flexL l GS cf) _ HIR.out).mono ?_
                        rw [ResolvedN_eq HFE2.out]
                        rintro e w7 ⟨v7, rfl, hv7, hb7, hf7⟩
                        rw [← HFP.out] at hv7
                        go_wp2
                        go_meet
                        exact ⟨hv7, fun a m c e => Nat.le_trans HWR.out (hf7 a m c e), hb7⟩
                      · have hc : clampZ R 0 1048576 = R := by unfold clampZ; repeat' split <;> omega
                        have d1 : 0 < R := by omega
                        rw [hc] at HFE2 HFP
                        go_wp2_with fail
                        refine (rres_new _ _ _ (flexL l GS cf) _ HIR.out).mono ?_
                        rw [ResolvedN_eq HFE2.out]
                        rintro e w7 ⟨v7, rfl, hv7, hb7, hf7⟩
                        rw [← HFP.out] at hv7
                        go_wp2
                        go_meet
                        exact ⟨hv7, fun a m c e => Nat.le_trans HWR.out (hf7 a m c e), hb7⟩
                  case rest =>
                    as_aux_lemma =>
                      obtain ⟨hv7, hf7, hb7⟩ := hcut
                      obtain ⟨w7, rfl⟩ : ∃ x : World, x = wc := ⟨_, rfl⟩
                      obtain ⟨pa, pc, rfl, p1, p2, p3⟩ := hv7
                      rw [HFL.out] at p1 p3 ⊢
                      have P3 := Lib.hid p3
                      have HF7 := Lib.hid hf7
                      have HB7 : Hid (Below H5 w5 w7) := HB.out.trans (hb7.mono HWR.out)
                      have HG7 : Hid (OwnC w7 capD D GS) := HG5.out.of_below HB7.out HHH.out.2.2.1
                      have HBW7 : Hid (Below w.heap.size w w7) := HBW5.out.trans (HB7.out.mono HHH.out.2.1)
                      have HC7 : Hid (∀ W, Turn D D w7 W → ∀ i, i < j → ∀ c, c < 2 → W.cell? ⟨b, off + i * 2 + c, none⟩ = some (.int .i64 (gf l i c))) := fun W hW i hi2 c hc => by
                        have hb0 : b < w.heap.size := H3.out.1
                        have hD0 := HLH.out.2.2.2.2.1
                        exact (hW.cell (p := ⟨b, off + i * 2 + c, none⟩) (Nat.lt_of_lt_of_le hb0 HBW7.out.size) (by show b ≠ D; omega) (by show b ≠ D; omega)).trans (HC5.out w7 HB7.out i hi2 c hc)
                      clear p1 p2 p3 hf7 hb7
                      go_wp2_with fail
                      obtain ⟨w8, rfl⟩ : ∃ x : World, x = w7 := ⟨_, rfl⟩
                      go_loopw [25, 26] (fun nn ii wr => ∃ i : Nat, i ≤ j ∧ ii = .int .i64 i ∧ nn = .int .i64 ((rf i : Nat) : Int) ∧ OwnC wr capD D (putAt GS F P (rf i)) ∧ Turn D D w8 wr) (fun _ ii _ => j - (intOf ii).toNat)
                      case atStart => exact ⟨0, Nat.zero_le _, rfl, by rw [RF0.out]; rfl, by rw [RF0.out]; exact HG7.out, Turn.of_below (Below.refl _ _)⟩
                      case round =>
                        obtain ⟨i, hi2, rfl, rfl, hoj, htj⟩ := hrel
                        have HOJ := Lib.hid hoj
                        have HTJ := Lib.hid htj
                        clear hoj htj
                        by_cases hij : i < j
                        ·
                          as_aux_lemma =>
                            have ck := HC7.out wr HTJ.out i hij 0 (by omega)
                            rw [Nat.add_zero] at ck
                            have hRH := RFH.out i hij
                            have hRM := RFM.out i hij
                            obtain ⟨q0, hq0⟩ : ∃ q, gf l i 0 = q := ⟨_, rfl⟩
                            rw [hq0] at ck hRH hRM
                            obtain ⟨r, hr⟩ : ∃ r, rf i = r := ⟨_, rfl⟩
                            rw [hr] at HOJ hRH hRM ⊢
                            have hij' : (i : Int) < (j : Int) := by omega
                            have hi0' : (0 : Int) ≤ (i : Int) := by omega
                            clear hq0 hr
                            by_cases c2 : q0 = 2
                            · obtain ⟨hrc, hgn, hr1⟩ := hRH c2
                              have HR1 := Lib.hid hr1
                              have d2 : (q0 == 2) = true := by simpa using c2
                              obtain ⟨pb, po, hpa, hplt, hpcell⟩ := P3.out (by omega)
                              subst hpa
                              have HPN : Hid (pb ≠ D) := by have h1 : H5 ≤ pb := HF7.out _ _ _ rfl; have h2 := HHH.out.2.2.1; show pb ≠ D; omega
                              have cp := (HTJ.out.cell (p := ⟨pb, po + r, none⟩) hplt HPN.out HPN.out).trans (hpcell r hrc)
                              have HAN : Hid (putAt GS F P (r + 1) = (putAt GS F P r).set i (gz P r)) := by
                                show _ = _
                                have e : putAt GS F P (r + 1) = (putAt GS F P r).set (gn F r) (gz P r) := rfl
                                rw [e, hgn]
                              have hlen : (putAt GS F P r).length = j := by rw [putAt_len, HGSL.out]
                              have cs := HOJ.out.cell (i := i) (by rw [hlen]; exact hij)
                              have fs := HOJ.out.free i
                              obtain ⟨p, hpq⟩ : ∃ p, gz P r = p := ⟨_, rfl⟩
                              rw [hpq] at cp HAN
                              have hr0 : (0 : Int) ≤ (r : Int) := by omega
                              have hrc' : (r : Int) < (cf : Int) := by omega
                              have HO9 : Hid (OwnC (wr.setCell ⟨D, i, none⟩ (.int .i64 p)) capD D (putAt GS F P (r + 1))) := by
                                show OwnC _ _ _ _
                                rw [HAN.out]; exact HOJ.out.set i _
                              have HT9 : Hid (Turn D D w8 (wr.setCell ⟨D, i, none⟩ (.int .i64 p))) := HTJ.out.trans (Turn.set wr (.inl rfl) i _)
                              clear hpq hlen hgn hpcell hplt c2 hRH hRM hr1
                              go_wp2
                              go_roundw
                              case rel => exact ⟨i + 1, by omega, by go_num, by rw [HR1.out]; go_num, by rw [HR1.out]; exact HO9.out, HT9.out⟩
                              case measure => simp [intOf]; omega
                            · have HR1 : Hid (rf (i + 1) = r) := hRM c2
                              have d2 : (q0 == 2) = false := by simpa using c2
                              clear c2 hRH hRM
                              go_wp2_with fail
                              go_roundw
                              case rel => exact ⟨i + 1, by omega, by go_num, by rw [HR1.out], by rw [HR1.out]; exact HOJ.out, HTJ.out⟩
                              case measure => simp [intOf]; omega
                        · obtain rfl : i = j := by omega
                          have HFIN : Hid (IsInts wr (.slice (some ⟨D, 0, none⟩) i capD) (trkL av gp l it)) := by
                            show IsInts _ _ _
                            rw [HRES.out, ← RFN.out]
                            have h := HOJ.out.isInts
                            rw [show (putAt GS F P (rf i)).length = i by rw [putAt_len, HGSL.out]] at h
                            exact h
                          go_wp2
                          go_ret2
                          exact ⟨_, by rw [HE.out]; rfl, HFIN.out, HBW7.out.trans (HTJ.out.low HLH.out.2.2.2.2.1 HLH.out.2.2.2.2.1 HBW7.out.size)⟩
end Go.Proofs.Ytadkkkdecejkeaa

