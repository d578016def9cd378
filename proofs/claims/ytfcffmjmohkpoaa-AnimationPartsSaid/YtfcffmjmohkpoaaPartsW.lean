/- The walk of the law AnimationParts (printed by wip/gen_parts.py). -/
import Derived.Test.YtfcffmjmohkpoaaAdvance
import Derived.Test.YtfcffmjmohkpoaaHalt
import Derived.Test.YtfcffmjmohkpoaaLitL
import Derived.Test.YtfcffmjmohkpoaaEqual
import Derived.Test.YtfcffmjmohkpoaaPartsPlain
import Derived.Test.YtfcffmjmohkpoaaValueR
import Derived.Test.YtfcffmjmohkpoaaSrcR
import Derived.Test.YtfcffmjmohkpoaaLits
import Derived.Test.YtfcffmjmohkpoaaAwake36
import Derived.Deep.RegionHeld3
import Derived.Lib.SmallJoins
namespace Go.Proofs.Ytfcffmjmohkpoaa
open Go.RowKit
set_option linter.unusedVariables false
set_option linter.unusedSimpArgs false
theorem advance_law (v : Value) (l : List Anim) (now : Int) (w : World) (he : advErr l now = 0) (hv : IsAnims w v l) :
    Calls Try.prog 30 #[v, .int .i64 now] w (fun e w' => ∃ x m, e = .returned (.tuple #[x, m, .int .i64 0]) ∧ IsAnims w' x (advOn l now) ∧ IsRecs 3 w' m (l.map (motionR now)) ∧ Below w.heap.size w w') := by
  refine (advance_any v l now w hv).mono ?_
  rintro e w' ⟨x, m, rfl, hx, hm, hb⟩
  rw [he]
  rw [advOut, if_pos he] at hm
  exact ⟨x, m, rfl, hx, hm, hb⟩
theorem value_law {f t k d v now V : Int} (w : World) (h : (lawA f t k d v).value now = V) :
    Calls Try.prog 24 #[.agg #[.int .i64 1, .int .i64 0, .int .i64 2, .int .i64 f, .int .i64 t, .int .i64 0, .int .i64 0, .int .i64 0, .int .i64 0, .int .i64 0, .int .i64 0, .int .i64 k, .int .i64 d, .int .i64 (65536 * f), .int .i64 v, .int .i64 0], .int .i64 now] w (Gives V w) := by
  have k1 := Value_any 1 0 2 f t 0 0 0 0 0 0 k d (65536 * f) v 0 now w
  rw [show (⟨1, 0, 2, f, t, 0, 0, 0, 0, 0, 0, k, d, 65536 * f, v, 0⟩ : Anim).value now = V from h] at k1
  exact k1
theorem one_motion {w : World} {u : Value} {r : Rec} (h : IsRecs 3 w u [r]) : ∃ b off cap, u = .slice (some ⟨b, off, none⟩) 1 cap ∧ b < w.heap.size ∧ cap ≤ maxLen ∧ 1 ≤ cap ∧ w.cell? ⟨b, off, none⟩ = some (.int .i64 (r.getD 0 0)) ∧ w.cell? ⟨b, off + 1, none⟩ = some (.int .i64 (r.getD 1 0)) ∧ w.cell? ⟨b, off + 2, none⟩ = some (.int .i64 (r.getD 2 0)) := by
  obtain ⟨a, cap, rfl, h1, h2, h3⟩ := h
  obtain ⟨b, off, rfl, hlt, hc⟩ := h3 (by simp)
  have k := hc 0 (by simp)
  rw [Nat.zero_mul, Nat.add_zero] at k
  exact ⟨b, off, cap, rfl, hlt, h2, h1, k 0 (by omega), k 1 (by omega), k 2 (by omega)⟩

set_option maxHeartbeats 40000000 in
set_option maxRecDepth 100000 in
theorem parts_core (u : Value) (l : List Int) (x y : Int) (hx : 0 ≤ x ∧ x < 65536) (hy : 0 ≤ y ∧ y < 65536) (w : World) (hl : InInts w u l) :
    Calls Try.prog 7 #[u, .int .u16 x, .int .u16 y] w (True_ w) := by
  have HL := Lib.hid hl
  clear hl
  go_enter Try.func7, Try.ntmps7
  go_wp2_with fail
  refine (srcNew_any _ l _ HL.out).mono ?_
  rintro e w1 ⟨g, rfl, hs, hg0, hg1, hb⟩
  have HG : Hid (w.heap.size ≤ g) := hg0
  have HS1 := Lib.hid hs
  have HB1 := Lib.hid hb
  clear hs hg0 hg1 hb
  go_wp2_with fail
  refine (srcRange_any g _ _ _ HS1.out (by omega) (by omega) (by omega)).mono ?_
  rintro e w2 ⟨f, f0, f1, rfl, hs, hg⟩
  have HS2 := Lib.hid hs
  have HB2 := Lib.hid (HB1.out.trans (grownBy_below hg HG.out HS1.out.lt))
  clear hs hg
  go_wp2_with fail
  refine (srcRange_any g _ _ _ HS2.out (by omega) (by omega) (by omega)).mono ?_
  rintro e w3 ⟨t, t0, t1, rfl, hs, hg⟩
  have HS3 := Lib.hid hs
  have HB3 := Lib.hid (HB2.out.trans (grownBy_below hg HG.out HS2.out.lt))
  clear hs hg
  go_wp2_with fail
  refine (lspring_any f t _ (by omega)).mono ?_
  rintro e w4 ⟨rfl, hb⟩
  have HS4 := Lib.hid (HS3.out.kept (hb.mono HS3.out.lt))
  have HB4 := Lib.hid (HB3.out.trans (hb.mono HB3.out.size))
  clear hb
  go_wp2_with fail
  obtain ⟨b, hh⟩ : ∃ b, w4.heap.size = b := ⟨_, rfl⟩
  have HGH : Hid (g < b) := by show _ < _; rw [← hh]; exact HS4.out.lt
  have HH0 : Hid (AnimBlk (w4.alloc (.cells #[.int .i64 1, .int .i64 0, .int .i64 2, .int .i64 f, .int .i64 t, .int .i64 0, .int .i64 0, .int .i64 0, .int .i64 0, .int .i64 0, .int .i64 0, .int .i64 200, .int .i64 240, .int .i64 (65536 * f), .int .i64 0, .int .i64 0] 38)) b 38 [.int .i64 1, .int .i64 0, .int .i64 2, .int .i64 f, .int .i64 t, .int .i64 0, .int .i64 0, .int .i64 0, .int .i64 0, .int .i64 0, .int .i64 0, .int .i64 200, .int .i64 240, .int .i64 (65536 * f), .int .i64 0, .int .i64 0]) := ⟨rfl, heap_alloc_at hh.symm⟩
  have HB4a : Hid (Below w.heap.size w (w4.alloc (.cells #[.int .i64 1, .int .i64 0, .int .i64 2, .int .i64 f, .int .i64 t, .int .i64 0, .int .i64 0, .int .i64 0, .int .i64 0, .int .i64 0, .int .i64 0, .int .i64 200, .int .i64 240, .int .i64 (65536 * f), .int .i64 0, .int .i64 0] 38))) := HB4.out.alloc HB4.out.size _
  have HS4a : Hid (SrcOk (w4.alloc (.cells #[.int .i64 1, .int .i64 0, .int .i64 2, .int .i64 f, .int .i64 t, .int .i64 0, .int .i64 0, .int .i64 0, .int .i64 0, .int .i64 0, .int .i64 0, .int .i64 200, .int .i64 240, .int .i64 (65536 * f), .int .i64 0, .int .i64 0] 38)) g) := HS4.out.kept ((Below.refl _ _).alloc (by have := HS4.out.lt; omega) _)

  refine (srcRange_any g _ _ _ HS4a.out (by omega) (by omega) (by omega)).mono ?_
  rintro e w5 ⟨k, k0, k1, rfl, hs, hg⟩
  have HS5 := Lib.hid hs
  have HB5 := Lib.hid (HB4a.out.trans (grownBy_below hg HG.out HS4a.out.lt))
  have HH1 : Hid (AnimBlk w5 b 38 [.int .i64 1, .int .i64 0, .int .i64 2, .int .i64 f, .int .i64 t, .int .i64 0, .int .i64 0, .int .i64 0, .int .i64 0, .int .i64 0, .int .i64 0, .int .i64 200, .int .i64 240, .int .i64 (65536 * f), .int .i64 0, .int .i64 0]) := ⟨rfl, (hg.block b HH0.out.lt (by have := HGH.out; simp; omega)).trans HH0.out.2⟩
  clear hs hg
  go_wp2_with fail
  refine (srcRange_any g _ _ _ HS5.out (by omega) (by omega) (by omega)).mono ?_
  rintro e w6 ⟨d, d0, d1, rfl, hs, hg⟩
  have HS6 := Lib.hid hs
  have HB6 := Lib.hid (HB5.out.trans (grownBy_below hg HG.out HS5.out.lt))
  have HH2 : Hid (AnimBlk w6 b 38 [.int .i64 1, .int .i64 0, .int .i64 2, .int .i64 f, .int .i64 t, .int .i64 0, .int .i64 0, .int .i64 0, .int .i64 0, .int .i64 0, .int .i64 0, .int .i64 200, .int .i64 240, .int .i64 (65536 * f), .int .i64 0, .int .i64 0]) := ⟨rfl, (hg.block b HH1.out.lt (by have := HGH.out; simp; omega)).trans HH1.out.2⟩
  clear hs hg
  go_wp2_with fail
  refine (srcRange_any g _ _ _ HS6.out (by omega) (by omega) (by omega)).mono ?_
  rintro e w7 ⟨v, v0, v1, rfl, hs, hg⟩
  have HS7 := Lib.hid hs
  have HB7 := Lib.hid (HB6.out.trans (grownBy_below hg HG.out HS6.out.lt))
  have HH3 : Hid (AnimBlk w7 b 38 [.int .i64 1, .int .i64 0, .int .i64 2, .int .i64 f, .int .i64 t, .int .i64 0, .int .i64 0, .int .i64 0, .int .i64 0, .int .i64 0, .int .i64 0, .int .i64 200, .int .i64 240, .int .i64 (65536 * f), .int .i64 0, .int .i64 0]) := ⟨rfl, (hg.block b HH2.out.lt (by have := HGH.out; simp; omega)).trans HH2.out.2⟩
  clear hs hg
  have c11 : w7.cell? ⟨b, 11, none⟩ = some (.int .i64 200) := (HH3.out.cell 11).trans rfl
  have c12 : w7.cell? ⟨b, 12, none⟩ = some (.int .i64 240) := (HH3.out.cell 12).trans rfl
  have c14 : w7.cell? ⟨b, 14, none⟩ = some (.int .i64 0) := (HH3.out.cell 14).trans rfl
  have z11 : w7.frozen? ⟨b, 11, none⟩ = false := HH3.out.free 11
  have z12 : w7.frozen? ⟨b, 12, none⟩ = false := HH3.out.free 12
  have z14 : w7.frozen? ⟨b, 14, none⟩ = false := HH3.out.free 14
  have hbl := HH3.out.lt
  go_wp2_with (refine halt_dst 45 ?_; intro G HGo)
  -- the first Advance: of the literal list
  have PF := parts_facts (f := f) (t := t) (k := k) (d := d) (v := v) (t1 := x % 1000) (t2 := x % 1000 + y % 1000) (by omega) (by omega) (by omega) (by omega) (by omega) (by omega) (by omega) (by omega)
  simp only at PF
  obtain ⟨E1, E2, E3, EO, EC⟩ := PF
  have HE2 := Lib.hid E2
  have HE3 := Lib.hid E3
  have HEO := Lib.hid EO
  have HEC := Lib.hid EC
  have HH8 : Hid (AnimBlk (((w7.setCell ⟨b, 11, none⟩ (.int .i64 k)).setCell ⟨b, 12, none⟩ (.int .i64 d)).setCell ⟨b, 14, none⟩ (.int .i64 v)) b 38 [.int .i64 1, .int .i64 0, .int .i64 2, .int .i64 f, .int .i64 t, .int .i64 0, .int .i64 0, .int .i64 0, .int .i64 0, .int .i64 0, .int .i64 0, .int .i64 k, .int .i64 d, .int .i64 (65536 * f), .int .i64 v, .int .i64 0]) := ((HH3.out.set 11 _).set 12 _).set 14 _
  have hle : w.heap.size ≤ b := by have h1 := HG.out; have h2 := HGH.out; omega
  have HB8 : Hid (Below w.heap.size w (((w7.setCell ⟨b, 11, none⟩ (.int .i64 k)).setCell ⟨b, 12, none⟩ (.int .i64 d)).setCell ⟨b, 14, none⟩ (.int .i64 v))) := ((HB7.out.setCell hle _).setCell hle _).setCell hle _
  obtain ⟨w8, hw8⟩ : ∃ w8, ((w7.setCell ⟨b, 11, none⟩ (.int .i64 k)).setCell ⟨b, 12, none⟩ (.int .i64 d)).setCell ⟨b, 14, none⟩ (.int .i64 v) = w8 := ⟨_, rfl⟩
  refine HGo.out ?_
  clear HGo
  rw [hw8] at HH8 HB8 ⊢
  clear E2 E3 EO EC c11 c12 c14 z11 z12 z14 hbl hw8 hle
  as_aux_lemma =>
  refine lit_45 HH8.out ?_
  go_wp2_with fail
  refine (advance_law _ [lawA f t k d v] _ _ E1 (lit_anim (lawA f t k d v) (heap_alloc_new _ _))).mono ?_
  clear E1
  rintro e w9 ⟨xv, mv, rfl, hx, hm, hb⟩
  have HH9 : Hid (AnimBlk w9 b 38 [.int .i64 1, .int .i64 0, .int .i64 2, .int .i64 f, .int .i64 t, .int .i64 0, .int .i64 0, .int .i64 0, .int .i64 0, .int .i64 0, .int .i64 0, .int .i64 k, .int .i64 d, .int .i64 (65536 * f), .int .i64 v, .int .i64 0]) := (HH8.out.alloc _).kept hb (by have := HH8.out.lt; simp; omega)
  have HB9 : Hid (Below w.heap.size w w9) := (HB8.out.alloc HB8.out.size _).trans (hb.mono (by have := HB8.out.size; simp; omega))
  have HX9 := Lib.hid hx
  have HM9 := Lib.hid hm
  clear hx hm hb HH8 HB8
  go_wp2_with fail
  refine (advance_law _ (advOn [lawA f t k d v] (x % 1000)) _ _ HE3.out HX9.out).mono ?_
  rw [HEO.out]
  rintro e w10 ⟨yv, pv, rfl, hy, hp, hb⟩
  have HH10 : Hid (AnimBlk w10 b 38 [.int .i64 1, .int .i64 0, .int .i64 2, .int .i64 f, .int .i64 t, .int .i64 0, .int .i64 0, .int .i64 0, .int .i64 0, .int .i64 0, .int .i64 0, .int .i64 k, .int .i64 d, .int .i64 (65536 * f), .int .i64 v, .int .i64 0]) := HH9.out.kept hb HH9.out.lt
  have HB10 : Hid (Below w.heap.size w w10) := HB9.out.trans (hb.mono HB9.out.size)
  have HX10 := Lib.hid (HX9.out.of_below hb)
  have HM10 := Lib.hid (HM9.out.of_below hb)
  have HY10 := Lib.hid hy
  have HP10 := Lib.hid hp
  clear hy hp hb HH9 HB9 HX9 HM9
  go_wp2_with (refine halt_dst 60 ?_; intro G2 HGo2)
  refine HGo2.out ?_
  clear HGo2
  refine lit_60 HH10.out ?_
  go_wp2_with fail
  refine (advance_law _ [lawA f t k d v] _ _ HE2.out (lit_anim (lawA f t k d v) (heap_alloc_new _ _))).mono ?_
  rintro e w11 ⟨zv, qv, rfl, hz, hq, hb⟩
  have hbb := fun (B : Nat) (hB : B ≤ w10.heap.size) => ((Below.refl B w10).alloc hB (.cells #[.int .i64 1, .int .i64 0, .int .i64 2, .int .i64 f, .int .i64 t, .int .i64 0, .int .i64 0, .int .i64 0, .int .i64 0, .int .i64 0, .int .i64 0, .int .i64 k, .int .i64 d, .int .i64 (65536 * f), .int .i64 v, .int .i64 0] 38)).trans (hb.mono (show B ≤ _ by simp; omega))
  have HH11 : Hid (AnimBlk w11 b 38 [.int .i64 1, .int .i64 0, .int .i64 2, .int .i64 f, .int .i64 t, .int .i64 0, .int .i64 0, .int .i64 0, .int .i64 0, .int .i64 0, .int .i64 0, .int .i64 k, .int .i64 d, .int .i64 (65536 * f), .int .i64 v, .int .i64 0]) := HH10.out.kept (hbb _ (Nat.le_refl _)) HH10.out.lt
  have HB11 : Hid (Below w.heap.size w w11) := HB10.out.trans (hbb _ HB10.out.size)
  have HX11 := Lib.hid (HX10.out.of_below (hbb _ (Nat.le_refl _)))
  have HM11 := Lib.hid (HM10.out.of_below (hbb _ (Nat.le_refl _)))
  have HY11 := Lib.hid (HY10.out.of_below (hbb _ (Nat.le_refl _)))
  have HP11 := Lib.hid (HP10.out.of_below (hbb _ (Nat.le_refl _)))
  have HZ11 := Lib.hid hz
  have HQ11 := Lib.hid hq
  clear hz hq hb hbb HH10 HB10 HX10 HM10 HY10 HP10
  obtain ⟨bm, om, cm, rfl, -, -, -, m0, m1, m2⟩ := one_motion (r := motionR (x % 1000) (lawA f t k d v)) HM11.out
  obtain ⟨bq, oq, cq, rfl, -, -, -, q0, q1, q2⟩ := one_motion (r := motionR (x % 1000 + y % 1000) (lawA f t k d v)) HQ11.out
  have M2 : Hid (w11.cell? ⟨bm, om + 2, none⟩ = some (.int .i64 ((lawA f t k d v).value (x % 1000)))) := m2
  have Q0 : Hid (w11.cell? ⟨bq, oq, none⟩ = some (.int .i64 1)) := q0
  have Q1 : Hid (w11.cell? ⟨bq, oq + 1, none⟩ = some (.int .i64 0)) := q1
  have Q2 : Hid (w11.cell? ⟨bq, oq + 2, none⟩ = some (.int .i64 ((lawA f t k d v).value (x % 1000 + y % 1000)))) := q2
  clear m0 m1 m2 q0 q1 q2 HM11 HQ11
  obtain ⟨xa, xc, hxv, -, -, -⟩ := HX11.out.open_
  obtain ⟨za, zc, hzv, -, -, -⟩ := HZ11.out.open_
  rw [hxv]
  as_aux_lemma =>
  go_wp2_with fail
  refine (equal_same _ _ (advOn [lawA f t k d v] (x % 1000 + y % 1000)) _ HY11.out (hzv ▸ HZ11.out)).mono ?_
  rintro e w12 ⟨rfl, n, hw12⟩
  have M2' : w12.cell? ⟨bm, om + 2, none⟩ = some (.int .i64 ((lawA f t k d v).value (x % 1000))) := by rw [hw12]; exact M2.out
  have Q0' : w12.cell? ⟨bq, oq, none⟩ = some (.int .i64 1) := by rw [hw12]; exact Q0.out
  have Q1' : w12.cell? ⟨bq, oq + 1, none⟩ = some (.int .i64 0) := by rw [hw12]; exact Q1.out
  have Q2' : w12.cell? ⟨bq, oq + 2, none⟩ = some (.int .i64 ((lawA f t k d v).value (x % 1000 + y % 1000))) := by rw [hw12]; exact Q2.out
  have HH12 : Hid (AnimBlk w12 b 38 [.int .i64 1, .int .i64 0, .int .i64 2, .int .i64 f, .int .i64 t, .int .i64 0, .int .i64 0, .int .i64 0, .int .i64 0, .int .i64 0, .int .i64 0, .int .i64 k, .int .i64 d, .int .i64 (65536 * f), .int .i64 v, .int .i64 0]) := by rw [hw12]; exact HH11.out
  have HB12 : Hid (Below w.heap.size w w12) := hw12 ▸ HB11.out.trans (Joins.below_draws _ _ _)
  have HP12 : Hid (IsRecs 3 w12 pv (List.map (motionR (x % 1000 + y % 1000)) (advOn [lawA f t k d v] (x % 1000)))) := by rw [hw12]; exact HP11.out
  clear hw12 M2 Q0 Q1 Q2 HH11 HB11 HP11 HX11 HY11 HZ11 hzv
  obtain ⟨V2, hV2⟩ : ∃ V2, (lawA f t k d v).value (x % 1000 + y % 1000) = V2 := ⟨_, rfl⟩
  have HV2 := Lib.hid hV2
  rcases HEC.out with ⟨z1, v1, v2, z2⟩ | ⟨bb, z1, hmo⟩
  · rw [v1] at M2'
    rw [v2] at Q2'
    rw [z1, z2]
    have c4 : w12.cell? ⟨b, 4, none⟩ = some (.int .i64 t) := (HH12.out.cell 4).trans rfl
    clear Q0' Q1' z1 v1 v2 z2 HEC hV2 HV2 HP12 HEO
    as_aux_lemma =>
    go_wp2_with fail
    go_region_held3 (fun w' => w'.cell? ⟨bm, om + 2, none⟩ = some (.int .i64 t) ∧ w'.cell? ⟨bq, oq + 2, none⟩ = some (.int .i64 t) ∧ w'.cell? ⟨b, 4, none⟩ = some (.int .i64 t) ∧ Below w.heap.size w w') (first | (refine ⟨by simpa using M2', by simpa using Q2', by simpa using c4, HB12.out.drew⟩) | (go_split_ands; exact ⟨(hb'.cell (p := ⟨bm, om + 2, none⟩) (World.block_lt_of_cell? _ _ (by assumption))).trans (by assumption), (hb'.cell (p := ⟨bq, oq + 2, none⟩) (World.block_lt_of_cell? _ _ (by assumption))).trans (by assumption), (hb'.cell (p := ⟨b, 4, none⟩) (World.block_lt_of_cell? _ _ (by assumption))).trans (by assumption), Below.trans (by assumption) (hb'.mono (Below.size (by assumption)))⟩) | go_keep) (first | (go_at_call 18; refine (awake_any _).mono ?_; rintro e w' ⟨rfl, hb'⟩))
    all_goals (try go_split_ands)
    all_goals (try go_wp2)
    all_goals (try go_ret)
    all_goals (first | exact ⟨rfl, HB12.out.drew.trans (hb'.mono HB12.out.size)⟩ | exact ⟨rfl, by assumption⟩ | exact ⟨rfl, Below.trans (by assumption) (hb'.mono (Below.size (by assumption)))⟩ | trace_state)
  · rw [z1]
    rw [z1] at HP12
    have HP13 : Hid (IsRecs 3 w12 pv [motionR (x % 1000 + y % 1000) (lawA f t k d v)]) := by rw [← hmo]; exact HP12.out
    obtain ⟨bp, op, cp, rfl, -, -, -, p0, p1, p2⟩ := one_motion HP13.out
    have P0 : w12.cell? ⟨bp, op, none⟩ = some (.int .i64 1) := p0
    have P1 : w12.cell? ⟨bp, op + 1, none⟩ = some (.int .i64 0) := p1
    have P2 : w12.cell? ⟨bp, op + 2, none⟩ = some (.int .i64 ((lawA f t k d v).value (x % 1000 + y % 1000))) := p2
    rw [hV2] at P2 Q2'
    clear p0 p1 p2 HP12 HP13 hmo HEC HEO hV2 M2'
    have HV12 := HV2
    have hcells : w12.cell? ⟨b, 0, none⟩ = some (.int .i64 1) ∧ w12.cell? ⟨b, 1, none⟩ = some (.int .i64 0) ∧ w12.cell? ⟨b, 2, none⟩ = some (.int .i64 2) ∧ w12.cell? ⟨b, 3, none⟩ = some (.int .i64 f) ∧ w12.cell? ⟨b, 4, none⟩ = some (.int .i64 t) ∧ w12.cell? ⟨b, 5, none⟩ = some (.int .i64 0) ∧ w12.cell? ⟨b, 6, none⟩ = some (.int .i64 0) ∧ w12.cell? ⟨b, 7, none⟩ = some (.int .i64 0) ∧ w12.cell? ⟨b, 8, none⟩ = some (.int .i64 0) ∧ w12.cell? ⟨b, 9, none⟩ = some (.int .i64 0) ∧ w12.cell? ⟨b, 10, none⟩ = some (.int .i64 0) ∧ w12.cell? ⟨b, 11, none⟩ = some (.int .i64 k) ∧ w12.cell? ⟨b, 12, none⟩ = some (.int .i64 d) ∧ w12.cell? ⟨b, 13, none⟩ = some (.int .i64 (65536 * f)) ∧ w12.cell? ⟨b, 14, none⟩ = some (.int .i64 v) ∧ w12.cell? ⟨b, 15, none⟩ = some (.int .i64 0) := ⟨(HH12.out.cell 0).trans rfl, (HH12.out.cell 1).trans rfl, (HH12.out.cell 2).trans rfl, (HH12.out.cell 3).trans rfl, (HH12.out.cell 4).trans rfl, (HH12.out.cell 5).trans rfl, (HH12.out.cell 6).trans rfl, (HH12.out.cell 7).trans rfl, (HH12.out.cell 8).trans rfl, (HH12.out.cell 9).trans rfl, (HH12.out.cell 10).trans rfl, (HH12.out.cell 11).trans rfl, (HH12.out.cell 12).trans rfl, (HH12.out.cell 13).trans rfl, (HH12.out.cell 14).trans rfl, (HH12.out.cell 15).trans rfl⟩
    obtain ⟨c0, c1, c2, c3, c4, c5, c6, c7, c8, c9, c10, c11, c12, c13, c14, c15⟩ := hcells
    as_aux_lemma =>
    go_wp2_with fail
    go_region_held3 (fun w' => w'.cell? ⟨bp, op, none⟩ = some (.int .i64 1) ∧ w'.cell? ⟨bp, op + 1, none⟩ = some (.int .i64 0) ∧ w'.cell? ⟨bp, op + 2, none⟩ = some (.int .i64 V2) ∧ w'.cell? ⟨bq, oq, none⟩ = some (.int .i64 1) ∧ w'.cell? ⟨bq, oq + 1, none⟩ = some (.int .i64 0) ∧ w'.cell? ⟨bq, oq + 2, none⟩ = some (.int .i64 V2) ∧ w'.cell? ⟨b, 0, none⟩ = some (.int .i64 1) ∧ w'.cell? ⟨b, 1, none⟩ = some (.int .i64 0) ∧ w'.cell? ⟨b, 2, none⟩ = some (.int .i64 2) ∧ w'.cell? ⟨b, 3, none⟩ = some (.int .i64 f) ∧ w'.cell? ⟨b, 4, none⟩ = some (.int .i64 t) ∧ w'.cell? ⟨b, 5, none⟩ = some (.int .i64 0) ∧ w'.cell? ⟨b, 6, none⟩ = some (.int .i64 0) ∧ w'.cell? ⟨b, 7, none⟩ = some (.int .i64 0) ∧ w'.cell? ⟨b, 8, none⟩ = some (.int .i64 0) ∧ w'.cell? ⟨b, 9, none⟩ = some (.int .i64 0) ∧ w'.cell? ⟨b, 10, none⟩ = some (.int .i64 0) ∧ w'.cell? ⟨b, 11, none⟩ = some (.int .i64 k) ∧ w'.cell? ⟨b, 12, none⟩ = some (.int .i64 d) ∧ w'.cell? ⟨b, 13, none⟩ = some (.int .i64 (65536 * f)) ∧ w'.cell? ⟨b, 14, none⟩ = some (.int .i64 v) ∧ w'.cell? ⟨b, 15, none⟩ = some (.int .i64 0) ∧ Below w.heap.size w w') (first | (refine ⟨by simpa using P0, by simpa using P1, by simpa using P2, by simpa using Q0', by simpa using Q1', by simpa using Q2', by simpa using c0, by simpa using c1, by simpa using c2, by simpa using c3, by simpa using c4, by simpa using c5, by simpa using c6, by simpa using c7, by simpa using c8, by simpa using c9, by simpa using c10, by simpa using c11, by simpa using c12, by simpa using c13, by simpa using c14, by simpa using c15, HB12.out.drew⟩) | (go_split_ands; exact ⟨(hb'.cell (p := ⟨bp, op, none⟩) (World.block_lt_of_cell? _ _ (by assumption))).trans (by assumption), (hb'.cell (p := ⟨bp, op + 1, none⟩) (World.block_lt_of_cell? _ _ (by assumption))).trans (by assumption), (hb'.cell (p := ⟨bp, op + 2, none⟩) (World.block_lt_of_cell? _ _ (by assumption))).trans (by assumption), (hb'.cell (p := ⟨bq, oq, none⟩) (World.block_lt_of_cell? _ _ (by assumption))).trans (by assumption), (hb'.cell (p := ⟨bq, oq + 1, none⟩) (World.block_lt_of_cell? _ _ (by assumption))).trans (by assumption), (hb'.cell (p := ⟨bq, oq + 2, none⟩) (World.block_lt_of_cell? _ _ (by assumption))).trans (by assumption), (hb'.cell (p := ⟨b, 0, none⟩) (World.block_lt_of_cell? _ _ (by assumption))).trans (by assumption), (hb'.cell (p := ⟨b, 1, none⟩) (World.block_lt_of_cell? _ _ (by assumption))).trans (by assumption), (hb'.cell (p := ⟨b, 2, none⟩) (World.block_lt_of_cell? _ _ (by assumption))).trans (by assumption), (hb'.cell (p := ⟨b, 3, none⟩) (World.block_lt_of_cell? _ _ (by assumption))).trans (by assumption), (hb'.cell (p := ⟨b, 4, none⟩) (World.block_lt_of_cell? _ _ (by assumption))).trans (by assumption), (hb'.cell (p := ⟨b, 5, none⟩) (World.block_lt_of_cell? _ _ (by assumption))).trans (by assumption), (hb'.cell (p := ⟨b, 6, none⟩) (World.block_lt_of_cell? _ _ (by assumption))).trans (by assumption), (hb'.cell (p := ⟨b, 7, none⟩) (World.block_lt_of_cell? _ _ (by assumption))).trans (by assumption), (hb'.cell (p := ⟨b, 8, none⟩) (World.block_lt_of_cell? _ _ (by assumption))).trans (by assumption), (hb'.cell (p := ⟨b, 9, none⟩) (World.block_lt_of_cell? _ _ (by assumption))).trans (by assumption), (hb'.cell (p := ⟨b, 10, none⟩) (World.block_lt_of_cell? _ _ (by assumption))).trans (by assumption), (hb'.cell (p := ⟨b, 11, none⟩) (World.block_lt_of_cell? _ _ (by assumption))).trans (by assumption), (hb'.cell (p := ⟨b, 12, none⟩) (World.block_lt_of_cell? _ _ (by assumption))).trans (by assumption), (hb'.cell (p := ⟨b, 13, none⟩) (World.block_lt_of_cell? _ _ (by assumption))).trans (by assumption), (hb'.cell (p := ⟨b, 14, none⟩) (World.block_lt_of_cell? _ _ (by assumption))).trans (by assumption), (hb'.cell (p := ⟨b, 15, none⟩) (World.block_lt_of_cell? _ _ (by assumption))).trans (by assumption), Below.trans (by assumption) (hb'.mono (Below.size (by assumption)))⟩) | go_keep) (first | (go_at_call 18; refine (awake_any _).mono ?_; rintro e w' ⟨rfl, hb'⟩) | (go_at_call 24; refine (value_law _ HV2.out).mono ?_; rintro e w' ⟨rfl, hb'⟩))
    all_goals (try go_split_ands)
    all_goals (try go_wp2)
    all_goals (try go_ret)
    all_goals (first | exact ⟨rfl, by assumption⟩ | exact ⟨rfl, Below.trans (by assumption) (hb'.mono (Below.size (by assumption)))⟩ | trace_state)
end Go.Proofs.Ytfcffmjmohkpoaa
