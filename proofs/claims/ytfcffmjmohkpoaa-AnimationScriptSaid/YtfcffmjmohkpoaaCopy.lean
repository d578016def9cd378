/- A list of animations appended to an empty one; an animation put into a copied list (printed by wip/gen_copy.py). -/
import Derived.Test.YtfcffmjmohkpoaaAnims
import Derived.Test.YtfcffmjmohkpoaaFill
import Derived.Test.YtfcffmjmohkpoaaHalt
import Derived.Deep.AppendLies
namespace Go.Proofs.Ytfcffmjmohkpoaa
open Go.RowKit
set_option linter.unusedVariables false
set_option linter.unusedSimpArgs false

theorem recCells_len {c : Nat} {l : List Rec} (h : wide c l) : (recCells l).length = l.length * c := by
  induction l with
  | nil => simp [recCells]
  | cons s t ih =>
    have hs : s.length = c := h s (by simp)
    have e : recCells (s :: t) = s.map (Value.int .i64) ++ recCells t := rfl
    rw [e, List.length_append, ih (fun r hr => h r (by simp [hr])), List.length_map, hs, List.length_cons, Nat.add_mul]
    omega
/-- What a list of records lies as, for an append. -/
theorem news_of_recs {c : Nat} {w : World} {b off n cap : Nat} {l : List Rec} (hc : 0 < c) (hw : wide c l) (h : IsRecs c w (.slice (some ⟨b, off, none⟩) n cap) l) (hp : 0 < l.length) : ∀ j u, (recCells l)[j]? = some u → w.cell? ((⟨b, off, none⟩ : Addr).add j) = some u := by
  obtain ⟨a', cap', he, h1, h2, h3⟩ := h
  obtain ⟨b', off', ha, hlt, hcell⟩ := h3 hp
  have hab : (some ⟨b, off, none⟩ : Option Addr) = a' := by injection he
  rw [ha] at hab
  have hab2 : (⟨b, off, none⟩ : Addr) = ⟨b', off', none⟩ := by injection hab
  have hbb : b = b' := by injection hab2
  have hoo : off = off' := by injection hab2
  subst hbb hoo
  intro j u hu
  have hj : j < (recCells l).length := (List.getElem?_eq_some_iff.1 hu).1
  rw [recCells_len hw] at hj
  have e : j = j / c * c + j % c := by rw [Nat.mul_comm]; exact (Nat.div_add_mod j c).symm
  have hi : j / c < l.length := Nat.div_lt_of_lt_mul (by rw [Nat.mul_comm]; exact hj)
  have hm : j % c < c := Nat.mod_lt _ hc
  have k := recCells_at l hw (j / c) hi (j % c) hm
  rw [← e, hu] at k
  rw [Addr.add_mid, e, ← Nat.add_assoc, hcell (j / c) hi (j % c) hm]
  exact k.symm
theorem recCells_one (l : List Rec) : ∀ u ∈ recCells l, u.oneCell' = true := by
  intro u hu
  obtain ⟨r, _, hr⟩ := List.mem_flatMap.1 hu
  obtain ⟨x, _, rfl⟩ := List.mem_map.1 hr
  rfl
theorem own_empty (w : World) (base : Nat) (t : TypeId) (s : Nat) (hb : base ≤ w.heap.size) : (w.alloc (.cells #[] t)).ownsRow base t s (.slice (some ⟨w.heap.size, 0, none⟩) 0 0) 0 [] := by
  refine ⟨by simp, .inr ⟨w.heap.size, 0, #[], rfl, hb, heap_alloc_new w _, Nat.le_refl _, by unfold maxLen; omega, by simp, by simp⟩⟩

set_option maxHeartbeats 2000000 in
set_option maxRecDepth 100000 in
theorem copy_list {ops : Array Oper} {Q : Exit → Act → World → Prop} {t1 t2 t3 t4 : TypeId} {s1 s2 s3 s4 : String} {e1 e2 e3 e4 : Array Edge} {u1 u2 u3 u4 u5 u6 u7 u8 u9 u10 u11 u12 u13 u14 u15 u16 u17 u18 u19 u20 u21 u22 u23 u24 u25 u26 u27 u28 u29 u30 u31 u32 u33 u34 u35 u36 u37 u38 u39 u40 u41 u42 u43 u44 u45 u46 u47 u48 u49 u50 u51 u52 u53 u54 u55 u56 u57 u58 u59 u60 u61 u62 u63 u64 u65 u66 u67 u68 u69 u70 u71 u72 u73 u74 u75 u76 u77 u78 u79 u80 u81 u82 u83 u84 u85 u86 u87 u88 u89 u90 u91 u92 u93 u94 u95 u96 u97 u98 u99 u100 : Value} {a : Option Addr} {n cap : Nat} {w : World} {base : Nat} {l : List Anim} (hl : IsAnims w (.slice a n cap) l) (hn : n ≤ 64) (hbase : base ≤ w.heap.size)
   {i0 : TypeInfo} (hi0 : Try.prog.info? 38 = some i0) (hz0 : i0.zero = some (.agg #[.int .i64 0, .int .i64 0, .int .i64 0, .int .i64 0, .int .i64 0, .int .i64 0, .int .i64 0, .int .i64 0, .int .i64 0, .int .i64 0, .int .i64 0, .int .i64 0, .int .i64 0, .int .i64 0, .int .i64 0, .int .i64 0])) (hz1 : i0.size = 16) (hz2 : i0.bytes = 128)
   (hQ : ∀ v' w3, w3.ownsRow base 38 16 v' n (recCells (l.map recA)) → (∀ B, B ≤ w.heap.size → Below B w w3) → Q .normal ⟨#[.slice a n cap, u1, u2, u3, u4, u5, u6, u7, u8, u9, u10, u11, u12, v', u14, u15, u16, u17, u18, u19, u20, u21, u22, u23, u24, u25, u26, u27, u28, u29, u30, u31, u32, u33, u34, u35, u36, u37, u38, u39, u40, u41, u42, u43, u44, u45, u46, u47, u48, u49, u50, u51, u52, u53, u54, u55, u56, u57, u58, u59, u60, u61, u62, u63, u64, u65, u66, u67, u68, u69, u70, u71, u72, u73, u74, u75, u76, u77, u78, u79, u80, u81, u82, u83, u84, .slice (some ⟨w.heap.size, 0, none⟩) 0 0, .slice a n cap, v', u88, u89, u90, u91, u92, u93, u94, u95, u96, u97, u98, u99, u100], []⟩ w3) :
   wpList Try.prog ops Q [⟨some 85, .buildSlice 40 0 #[], t1, s1, e1, none⟩, ⟨some 86, .move (.tmp 0), t2, s2, e2, none⟩, ⟨some 87, .call { callee := .builtin .append, args := #[.tmp 85, .tmp 86], argTypes := #[40, 40] }, t3, s3, e3, none⟩, ⟨some 13, .assign (.tmp 87), t4, s4, e4, none⟩] ⟨#[.slice a n cap, u1, u2, u3, u4, u5, u6, u7, u8, u9, u10, u11, u12, u13, u14, u15, u16, u17, u18, u19, u20, u21, u22, u23, u24, u25, u26, u27, u28, u29, u30, u31, u32, u33, u34, u35, u36, u37, u38, u39, u40, u41, u42, u43, u44, u45, u46, u47, u48, u49, u50, u51, u52, u53, u54, u55, u56, u57, u58, u59, u60, u61, u62, u63, u64, u65, u66, u67, u68, u69, u70, u71, u72, u73, u74, u75, u76, u77, u78, u79, u80, u81, u82, u83, u84, u85, u86, u87, u88, u89, u90, u91, u92, u93, u94, u95, u96, u97, u98, u99, u100], []⟩ w := by
  have HQ := Lib.hid hQ
  have hle : n = l.length := by obtain ⟨a', cap', he, _⟩ := hl; injection he; simp_all
  have hll : (l.map recA).length = n := by rw [List.length_map]; exact hle.symm
  clear hQ
  by_cases h0 : n = 0
  · subst h0
    have hnil : l = [] := List.eq_nil_of_length_eq_zero hle.symm
    subst hnil
    clear hl hle hll
    cases a with
    | none =>
      go_wp2
      exact HQ.out _ _ (own_empty w base 38 16 hbase) (fun B hB => (Below.refl _ _).alloc hB _)
    | some ad =>
      go_wp2
      exact HQ.out _ _ (own_empty w base 38 16 hbase) (fun B hB => (Below.refl _ _).alloc hB _)
  · have hp : 0 < (l.map recA).length := by omega
    have hl2 : IsRecs 16 w (.slice a n cap) (l.map recA) := hl
    obtain ⟨b, off, rfl, hlt⟩ : ∃ b off, a = some ⟨b, off, none⟩ ∧ b < w.heap.size := by
      obtain ⟨a', cap', he, h1, h2, h3⟩ := hl2
      obtain ⟨b, off, ha, hlt, _⟩ := h3 hp
      have hab : a = a' := by injection he
      exact ⟨b, off, hab.trans ha, hlt⟩
    have hl3 : IsRecs 16 (w.alloc (.cells #[] 38)) (.slice (some ⟨b, off, none⟩) n cap) (l.map recA) := hl2.of_below ((Below.refl _ _).alloc (Nat.le_refl _) _)
    have HLL := Lib.hid hll
    clear hl hl2 hle hll
    go_wp2_with (at_builtin; go_loud (refine wpList_append_own _ rfl _ _ 40 rfl base 38 i0 _ 16 128 Try.underlying40 hi0 hz0 hz1 hz2 rfl (by decide) _ 0 [] rfl (own_empty w base 38 16 hbase) ⟨b, off, none⟩ n cap (recCells (l.map recA)) rfl (by rw [recCells_len (recA_wide l), HLL.out]) (news_of_recs (by omega) (recA_wide l) hl3 hp) (recCells_one _) (by unfold maxLen; omega) (by omega) (by simp; omega) ?_); intro v' w3 hown3 hgrow3 _)
    refine HQ.out v' w3 (by rw [Nat.zero_add] at hown3; exact hown3) (fun B hB => ?_)
    have hqq : ∀ q, (.slice (some ⟨w.heap.size, 0, none⟩) 0 0 : Value).ownBlock = some q → B ≤ q := fun q hq => by
      have h1 : w.heap.size = q := by simpa [Value.ownBlock] using hq
      omega
    exact Below.grown ((Below.refl _ _).alloc hB _) hgrow3 (by simp; omega) hqq

def aCells (a : Anim) : List Value := (recA a).map (Value.int .i64)
theorem recA_len (a : Anim) : (recA a).length = 16 := rfl
/-- An animation put into a row of the call's own. -/
theorem put_row {w : World} {base g cap n pl : Nat} {t : TypeId} {l : List Anim} (hown : w.ownsRow base t 16 (.slice (some ⟨g, 0, none⟩) n cap) n (recCells (l.map recA))) (hn : n = l.length) (hpl : pl < n) (S : Anim) :
    w.there g (pl * 16) 16 ∧ IsAnims (w.setCells g (pl * 16) (aCells S)) (.slice (some ⟨g, 0, none⟩) n cap) (l.set pl S) := by
  have hr : IsRecs 16 w (.slice (some ⟨g, 0, none⟩) n cap) (l.map recA) := ownsRow_isRecs hown (by rw [List.length_map]; exact hn) (recA_wide l)
  obtain ⟨a', cap', he, h1, h2, h3⟩ := hr
  have hp : 0 < (l.map recA).length := by rw [List.length_map]; omega
  obtain ⟨b', off', ha, hlt, hcell⟩ := h3 hp
  rw [List.length_map] at he h1 hcell
  have hab : (some ⟨g, 0, none⟩ : Option Addr) = a' := by injection he
  rw [ha] at hab
  have hab2 : (⟨g, 0, none⟩ : Addr) = ⟨b', off', none⟩ := by injection hab
  have hbb : g = b' := by injection hab2
  have hoo : 0 = off' := by injection hab2
  subst hbb hoo
  have hcc : cap = cap' := by injection he
  subst hcc
  have hfr : ∀ j, w.frozen? ⟨g, j, none⟩ = false := by
    rcases hown.2 with ⟨h, _⟩ | ⟨g', cap2, cur, h, _, hg, _⟩
    · simp at h
    · have hgg : g = g' := by
        have h8 := (Value.slice.inj h).1
        simpa using h8
      subst hgg
      intro j; simp [World.frozen?, hg]
  have hth : w.there g (pl * 16) 16 := fun j hj => by
    have k := hcell pl (by omega) j hj
    rw [Nat.zero_add] at k
    exact ⟨by rw [k]; rfl, hfr _⟩
  have hal : (aCells S).length = 16 := rfl
  refine ⟨hth, _, cap, by rw [List.length_map, List.length_set, ← hn], by rw [List.length_map, List.length_set]; exact h1, h2, fun _ => ⟨g, 0, rfl, ?_, fun i hi j hj => ?_⟩⟩
  · have hs := (below_fillL (Nat.le_refl g) (aCells S) (pl * 16) w (Below.refl g w)).size
    omega
  · rw [List.length_map, List.length_set] at hi
    have hset : gf ((l.set pl S).map recA) i j = if i = pl then (recA S).getD j 0 else gf (l.map recA) i j := by
      rw [ga_gf (by rw [List.length_set]; exact hi), ga_gf hi]
      by_cases c : i = pl
      · subst c; rw [if_pos rfl]; simp [ga, hi]
      · rw [if_neg c]
        have e : ga (l.set pl S) i = ga l i := by simp [ga, List.getElem?_set, Ne.symm c]
        rw [e]
    rw [hset, Nat.zero_add]
    by_cases c : i = pl
    · subst c
      rw [if_pos rfl, World.cell?_setCells_in g (aCells S) (i * 16) w (fun j hj => (hth j (by rw [hal] at hj; exact hj)).1) j (by rw [hal]; exact hj)]
      have hj2 : j < (recA S).length := hj
      simp [aCells, hj2]
    · rw [if_neg c, World.cell?_setCells_out g (aCells S) (pl * 16) w _ (fun _ _ => by show i * 16 + j < pl * 16 ∨ pl * 16 + (aCells S).length ≤ i * 16 + j; rw [hal]; omega)]
      have k := hcell i hi j hj
      rw [Nat.zero_add] at k
      exact k

set_option maxHeartbeats 2000000 in
set_option maxRecDepth 100000 in
theorem grow_list {ops : Array Oper} {Q : Exit → Act → World → Prop} {t1 t2 t3 t4 t5 : TypeId} {s1 s2 s3 s4 s5 : String} {e1 e2 e3 e4 e5 : Array Edge} {r0 r1 r2 r3 r4 r5 r6 r7 r8 r9 r10 r11 r12 r13 r14 r15 : Int} {u0 u1 u2 u3 u5 u6 u7 u8 u9 u10 u11 u12 u13 u14 u15 u16 u17 u18 u19 u20 u21 u22 u23 u24 u25 u26 u27 u28 u29 u30 u31 u32 u33 u34 u35 u36 u37 u38 u39 u40 u41 u42 u43 u44 u45 u46 u47 u48 u49 u50 u51 u52 u53 u54 u55 u56 u57 u58 u59 u60 u61 u62 u63 u64 u65 u66 u67 u68 u69 u70 u71 u72 u73 u74 u75 u76 u77 u78 u79 u80 u81 u82 u83 u84 u85 u86 u87 u88 u89 u90 u91 u92 u93 u94 u95 u96 u97 u98 u99 u100 : Value} {A0 N base : Nat} {w : World} (hNN : N ≤ 64) (hbase : base ≤ w.heap.size) (xs : List Value)
   {i0 : TypeInfo} (hi0 : Try.prog.info? 38 = some i0) (hz0 : i0.zero = some (.agg #[.int .i64 0, .int .i64 0, .int .i64 0, .int .i64 0, .int .i64 0, .int .i64 0, .int .i64 0, .int .i64 0, .int .i64 0, .int .i64 0, .int .i64 0, .int .i64 0, .int .i64 0, .int .i64 0, .int .i64 0, .int .i64 0])) (hz1 : i0.size = 16) (hz2 : i0.bytes = 128)
   (hown : w.ownsRow base 38 16 u97 N xs) (HBA : AnimBlk w A0 38 [.int .i64 r0, .int .i64 r1, .int .i64 r2, .int .i64 r3, .int .i64 r4, .int .i64 r5, .int .i64 r6, .int .i64 r7, .int .i64 r8, .int .i64 r9, .int .i64 r10, .int .i64 r11, .int .i64 r12, .int .i64 r13, .int .i64 r14, .int .i64 r15])
   (hQ : ∀ v' w3, w3.ownsRow base 38 16 v' (N + 1) (xs ++ [.int .i64 r0, .int .i64 r1, .int .i64 r2, .int .i64 r3, .int .i64 r4, .int .i64 r5, .int .i64 r6, .int .i64 r7, .int .i64 r8, .int .i64 r9, .int .i64 r10, .int .i64 r11, .int .i64 r12, .int .i64 r13, .int .i64 r14, .int .i64 r15]) → (∀ B, B ≤ base → Below B w w3) → Q .normal ⟨#[u0, u1, u2, u3, .pointer (some ⟨A0, 0, none⟩), u5, v', .int .i64 0, u8, u9, u10, u11, u12, u13, u14, u15, u16, u17, u18, u19, u20, u21, u22, u23, u24, u25, u26, u27, u28, u29, u30, u31, u32, u33, u34, u35, u36, u37, u38, u39, u40, u41, u42, u43, u44, u45, u46, u47, u48, u49, u50, u51, u52, u53, u54, u55, u56, u57, u58, u59, u60, u61, u62, u63, u64, u65, u66, u67, u68, u69, u70, u71, u72, u73, u74, u75, u76, u77, u78, u79, u80, u81, u82, u83, u84, u85, u86, u87, u88, u89, u90, u91, u92, u93, u94, u95, u96, u97, .agg #[.int .i64 r0, .int .i64 r1, .int .i64 r2, .int .i64 r3, .int .i64 r4, .int .i64 r5, .int .i64 r6, .int .i64 r7, .int .i64 r8, .int .i64 r9, .int .i64 r10, .int .i64 r11, .int .i64 r12, .int .i64 r13, .int .i64 r14, .int .i64 r15], .slice (some ⟨w.heap.size, 0, none⟩) 1 1, v'], []⟩ w3) :
   wpList Try.prog ops Q [⟨some 98, .load 38 (.tmp 4), t1, s1, e1, none⟩, ⟨some 99, .buildSlice 40 1 #[(0, .tmp 98)], t2, s2, e2, none⟩, ⟨some 100, .call { callee := .builtin .append, args := #[.tmp 97, .tmp 99], argTypes := #[40, 40] }, t3, s3, e3, none⟩, ⟨some 6, .assign (.tmp 100), t4, s4, e4, none⟩, ⟨some 7, .assign (.const (.int .i64 0)), t5, s5, e5, none⟩] ⟨#[u0, u1, u2, u3, .pointer (some ⟨A0, 0, none⟩), u5, u6, u7, u8, u9, u10, u11, u12, u13, u14, u15, u16, u17, u18, u19, u20, u21, u22, u23, u24, u25, u26, u27, u28, u29, u30, u31, u32, u33, u34, u35, u36, u37, u38, u39, u40, u41, u42, u43, u44, u45, u46, u47, u48, u49, u50, u51, u52, u53, u54, u55, u56, u57, u58, u59, u60, u61, u62, u63, u64, u65, u66, u67, u68, u69, u70, u71, u72, u73, u74, u75, u76, u77, u78, u79, u80, u81, u82, u83, u84, u85, u86, u87, u88, u89, u90, u91, u92, u93, u94, u95, u96, u97, u98, u99, u100], []⟩ w := by
  have HQ := Lib.hid hQ
  clear hQ
  go_wp2_with (first | (refine load_anim rfl _ rfl A0 rfl _ _ HBA ?_) | (at_builtin; refine wpList_append_own _ rfl _ _ 40 rfl base 38 i0 _ 16 128 Try.underlying40 hi0 hz0 hz1 hz2 rfl (by decide) _ N xs rfl (hown.alloc _) ⟨w.heap.size, 0, none⟩ 1 1 [.int .i64 r0, .int .i64 r1, .int .i64 r2, .int .i64 r3, .int .i64 r4, .int .i64 r5, .int .i64 r6, .int .i64 r7, .int .i64 r8, .int .i64 r9, .int .i64 r10, .int .i64 r11, .int .i64 r12, .int .i64 r13, .int .i64 r14, .int .i64 r15] rfl rfl (World.news_of_block (cs := #[.int .i64 r0, .int .i64 r1, .int .i64 r2, .int .i64 r3, .int .i64 r4, .int .i64 r5, .int .i64 r6, .int .i64 r7, .int .i64 r8, .int .i64 r9, .int .i64 r10, .int .i64 r11, .int .i64 r12, .int .i64 r13, .int .i64 r14, .int .i64 r15]) (t := 38) (fr := (0, 0)) (heap_alloc_new _ _)) (by simp [Value.oneCell']) (by unfold maxLen; omega) (by omega) (by simp; omega) ?_; intro v' w3 hown3 hgrow3 _))
  refine HQ.out v' w3 hown3 (fun B hB => ?_)
  exact Below.grown ((Below.refl _ _).alloc (Nat.le_trans hB hbase) _) hgrow3 (by simp; omega) (fun q hq => Nat.le_trans hB (hown.lt q hq).1)

set_option maxHeartbeats 2000000 in
set_option maxRecDepth 100000 in
theorem put_list {ops : Array Oper} {Q : Exit → Act → World → Prop} {t1 t2 t3 : TypeId} {s1 s2 s3 : String} {e1 e2 e3 : Array Edge} {r0 r1 r2 r3 r4 r5 r6 r7 r8 r9 r10 r11 r12 r13 r14 r15 : Int} {u0 u1 u2 u3 u5 u6 u7 u8 u9 u10 u11 u12 u13 u14 u15 u16 u17 u18 u19 u20 u21 u22 u23 u24 u25 u26 u27 u28 u29 u30 u31 u32 u33 u34 u35 u36 u37 u38 u39 u40 u41 u42 u43 u44 u45 u46 u47 u48 u49 u50 u51 u52 u53 u54 u55 u56 u57 u58 u59 u60 u61 u62 u63 u64 u65 u66 u67 u68 u69 u70 u71 u72 u73 u74 u75 u76 u77 u78 u79 u80 u81 u82 u83 u84 u85 u86 u87 u88 u89 u90 u91 u94 u95 u96 u97 u98 u99 u100 : Value} {A0 base g cap n pl : Nat} {w : World} {l : List Anim} (hn : n = l.length) (hpl : pl < n)
   (hown : w.ownsRow base 38 16 (.slice (some ⟨g, 0, none⟩) n cap) n (recCells (l.map recA))) (HBA : AnimBlk w A0 38 [.int .i64 r0, .int .i64 r1, .int .i64 r2, .int .i64 r3, .int .i64 r4, .int .i64 r5, .int .i64 r6, .int .i64 r7, .int .i64 r8, .int .i64 r9, .int .i64 r10, .int .i64 r11, .int .i64 r12, .int .i64 r13, .int .i64 r14, .int .i64 r15])
   (hQ : ∀ ad w3, IsAnims w3 (.slice (some ⟨g, 0, none⟩) n cap) (l.set pl ⟨r0, r1, r2, r3, r4, r5, r6, r7, r8, r9, r10, r11, r12, r13, r14, r15⟩) → (∀ B, B ≤ base → Below B w w3) → Q .normal ⟨#[u0, u1, u2, u3, .pointer (some ⟨A0, 0, none⟩), u5, u6, u7, u8, u9, u10, u11, u12, u13, u14, u15, u16, u17, u18, u19, u20, u21, u22, u23, u24, u25, u26, u27, u28, u29, u30, u31, u32, u33, u34, u35, u36, u37, u38, u39, u40, u41, u42, u43, u44, u45, u46, u47, u48, u49, u50, u51, u52, u53, u54, u55, u56, u57, u58, u59, u60, u61, u62, u63, u64, u65, u66, u67, u68, u69, u70, u71, u72, u73, u74, u75, u76, u77, u78, u79, u80, u81, u82, u83, u84, u85, u86, u87, u88, u89, u90, u91, .slice (some ⟨g, 0, none⟩) n cap, .int .i64 (pl : Int), .agg #[.int .i64 r0, .int .i64 r1, .int .i64 r2, .int .i64 r3, .int .i64 r4, .int .i64 r5, .int .i64 r6, .int .i64 r7, .int .i64 r8, .int .i64 r9, .int .i64 r10, .int .i64 r11, .int .i64 r12, .int .i64 r13, .int .i64 r14, .int .i64 r15], ad, u96, u97, u98, u99, u100], []⟩ w3) :
   wpList Try.prog ops Q [⟨some 94, .load 38 (.tmp 4), t1, s1, e1, none⟩, ⟨some 95, .indexAddr 40 (.tmp 92) (.tmp 93), t2, s2, e2, none⟩, ⟨none, .store 38 (.tmp 95) (.tmp 94), t3, s3, e3, none⟩] ⟨#[u0, u1, u2, u3, .pointer (some ⟨A0, 0, none⟩), u5, u6, u7, u8, u9, u10, u11, u12, u13, u14, u15, u16, u17, u18, u19, u20, u21, u22, u23, u24, u25, u26, u27, u28, u29, u30, u31, u32, u33, u34, u35, u36, u37, u38, u39, u40, u41, u42, u43, u44, u45, u46, u47, u48, u49, u50, u51, u52, u53, u54, u55, u56, u57, u58, u59, u60, u61, u62, u63, u64, u65, u66, u67, u68, u69, u70, u71, u72, u73, u74, u75, u76, u77, u78, u79, u80, u81, u82, u83, u84, u85, u86, u87, u88, u89, u90, u91, .slice (some ⟨g, 0, none⟩) n cap, .int .i64 (pl : Int), u94, u95, u96, u97, u98, u99, u100], []⟩ w := by
  have HQ := Lib.hid hQ
  obtain ⟨hth, his⟩ := put_row hown hn hpl ⟨r0, r1, r2, r3, r4, r5, r6, r7, r8, r9, r10, r11, r12, r13, r14, r15⟩
  have HTH := Lib.hid hth
  have HIS := Lib.hid his
  have hbg : base ≤ g := (hown.lt g rfl).1
  clear hQ hth his hn hown
  go_wp2_with (first | (refine load_anim rfl _ rfl A0 rfl _ _ HBA ?_) | (refine wpList_store_mid rfl 38 _ _ rfl g (pl * 16) #[.int .i64 r0, .int .i64 r1, .int .i64 r2, .int .i64 r3, .int .i64 r4, .int .i64 r5, .int .i64 r6, .int .i64 r7, .int .i64 r8, .int .i64 r9, .int .i64 r10, .int .i64 r11, .int .i64 r12, .int .i64 r13, .int .i64 r14, .int .i64 r15] rfl rfl HTH.out anim_row.2 (by simp [Value.oneCell']) ?_))
  exact HQ.out _ _ HIS.out (fun B hB => below_fillL (Nat.le_trans hB hbg) _ _ _ (Below.refl _ _))
end Go.Proofs.Ytfcffmjmohkpoaa
