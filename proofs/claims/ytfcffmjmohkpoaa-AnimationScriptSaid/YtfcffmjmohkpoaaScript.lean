/- The walk of the law AnimationScript (printed by wip/gen_script.py). -/
import Derived.Test.YtfcffmjmohkpoaaScriptPlain
import Derived.Test.YtfcffmjmohkpoaaSrcAnim
import Derived.Test.YtfcffmjmohkpoaaReduce
import Derived.Test.YtfcffmjmohkpoaaRefAdv
import Derived.Test.YtfcffmjmohkpoaaRefSet
import Derived.Test.YtfcffmjmohkpoaaSetAny
import Derived.Test.YtfcffmjmohkpoaaValidR
import Derived.Test.YtfcffmjmohkpoaaLits
import Derived.Test.YtfcffmjmohkpoaaSrcR
import Derived.Test.YtfcffmjmohkpoaaEqual
import Derived.Test.YtfcffmjmohkpoaaAwake36
import Derived.Test.YtfcffmjmohkpoaaOpen
import Derived.Test.YtfcffmjmohkpoaaHalt
import Derived.Deep.QuietTactic
import Derived.BigQuiet
namespace Go.Proofs.Ytfcffmjmohkpoaa
open Go.RowKit
set_option linter.unusedVariables false
set_option linter.unusedSimpArgs false

def tabS : List Int := [0, 1, 16, 100, 400]
theorem tabS_bd {i : Nat} (h : i < 5) : 0 ≤ gz tabS i ∧ gz tabS i ≤ 400 := by
  have h7 : i = 0 ∨ i = 1 ∨ i = 2 ∨ i = 3 ∨ i = 4 := by omega
  rcases h7 with rfl | rfl | rfl | rfl | rfl <;> decide
theorem tabS_cell (w : World) {i : Nat} (h : i < 5) : (w.alloc (.cells #[.int .i64 0, .int .i64 1, .int .i64 16, .int .i64 100, .int .i64 400] 3)).cell? ⟨w.heap.size, i, none⟩ = some (.int .i64 (gz tabS i)) := by
  rw [cell_of_row _ _ _ _ _ (0, 0) (heap_alloc_new w _)]
  have h7 : i = 0 ∨ i = 1 ∨ i = 2 ∨ i = 3 ∨ i = 4 := by omega
  rcases h7 with rfl | rfl | rfl | rfl | rfl <;> rfl
/-- A list of animations lies in no reader's block: that one has two cells. -/
theorem IsAnims.turnS {w w' : World} {g : Nat} {v : Value} {l : List Anim} (h : IsAnims w v l) (hs : SrcOk w g) (hg : w.grownBy w' (some g)) : IsAnims w' v l := by
  obtain ⟨p, cap, hv, h1, h2, h3⟩ := h
  refine ⟨p, cap, hv, h1, h2, fun hp => ?_⟩
  obtain ⟨b, off, rfl, hlt, hc⟩ := h3 hp
  have hne : b ≠ g := by
    rintro rfl
    obtain ⟨a, xs, n, c, k, hb, -⟩ := hs
    have hx := hc 0 hp 2 (by omega)
    rw [cell_of_row w b _ _ _ (0, 0) hb] at hx
    simp at hx
  refine ⟨b, off, rfl, Nat.lt_of_lt_of_le hlt hg.size, fun i hi j hj => ?_⟩
  rw [← hc i hi j hj]
  exact World.cell?_of_block (w := w) (hg.block b hlt (by simpa using hne))
theorem Below_drewN {B : Nat} {a b : World} (h : Below B a b) (d : Nat) : Below B a (b.drewN d) := ⟨h.os, h.tape, h.output, h.size, h.block⟩
/-- Only the reader's block has turned, of those that were. -/
def Bld (g : Nat) (w w' : World) : Prop := SrcOk w' g ∧ w.grownBy w' (some g)
section
variable {g : Nat} {w w1 w2 : World}
theorem Bld.refl (hs : SrcOk w g) : Bld g w w := ⟨hs, World.grownBy.refl w _⟩
theorem Bld.turn (h : Bld g w w1) (hg : w1.grownBy w2 (some g)) (hs : SrcOk w2 g) : Bld g w w2 := ⟨hs, grownBy_trans h.2 hg⟩
theorem Bld.keep (h : Bld g w w1) (hb : Below w.heap.size w1 w2) (hgl : g < w.heap.size) : Bld g w w2 :=
  ⟨h.1.kept (hb.mono (by omega)), hb.os.trans h.2.os, hb.tape.trans h.2.tape, hb.output.trans h.2.output, Nat.le_trans h.2.size hb.size, fun j hj hn => (hb.block j hj).trans (h.2.block j hj hn)⟩
theorem Bld.low (h : Bld g w w1) (hb : Below w1.heap.size w1 w2) (hgl : g < w.heap.size) : Bld g w w2 := h.keep (hb.mono h.2.size) hgl
end
/-- Two lists by value the same, a reader. -/
structure Two36 (g : Nat) (w0 : World) (a b : Value) (l : List Anim) (w : World) : Prop where
  a : IsAnims w a l
  b : IsAnims w b l
  s : SrcOk w g
  bl : Below w0.heap.size w0 w
section
variable {g : Nat} {w0 w w1 : World} {a b : Value} {l : List Anim}
theorem Two36.turn (h : Two36 g w0 a b l w) (hb : Bld g w w1) (hG : w0.heap.size ≤ g) : Two36 g w0 a b l w1 :=
  ⟨h.a.turnS h.s hb.2, h.b.turnS h.s hb.2, hb.1, h.bl.trans (grownBy_below hb.2 hG h.s.lt)⟩
theorem Two36.low (h : Two36 g w0 a b l w) (hb : Below w.heap.size w w1) : Two36 g w0 a b l w1 :=
  ⟨h.a.of_below hb, h.b.of_below hb, h.s.kept (hb.mono h.s.lt), h.bl.trans (hb.mono h.bl.size)⟩
end
set_option maxHeartbeats 800000 in
set_option maxRecDepth 100000 in
theorem more_any (g : Nat) (w : World) (hs : SrcOk w g) : Calls Try.prog 37 #[.pointer (some ⟨g, 0, none⟩)] w fun e w' => ∃ x : Bool, e = .returned (.bool x) ∧ ∃ d, w' = w.drewN d := by
  obtain ⟨a, xs, l, cap, k, h1, -⟩ := hs
  have c0 : w.cell? ⟨g, 0, none⟩ = some (.slice a l cap) := by rw [cell_of_row w g 0 _ _ (0, 0) h1]; rfl
  have c1 : w.cell? ⟨g, 1, none⟩ = some (.int .i64 k) := by rw [cell_of_row w g 1 _ _ (0, 0) h1]; rfl
  clear h1
  go_enter Try.func37, Try.ntmps37
  go_wp2_with fail
  go_quiet (fail)
  go_wp2_with fail
  go_ret
  exact ⟨_, rfl, _, rfl⟩
/-- The lists' cells that the two last loops read. -/
def KeyC (n b off : Nat) (l : List Anim) (w : World) : Prop := ∀ i, i < n → w.cell? ⟨b, off + i * 16, none⟩ = some (.int .i64 (ga l i).node) ∧ w.cell? ⟨b, off + i * 16 + 1, none⟩ = some (.int .i64 (ga l i).prop)
set_option maxHeartbeats 16000000 in
set_option maxRecDepth 100000 in
theorem walk_AnimationScript (v0 : Value) (xs : List Int) (w : World) (h0 : InInts w v0 xs) : Calls Try.prog 12 #[v0] w (True_ w) := by
  have HU := Lib.hid h0
  clear h0
  go_enter Try.func12, Try.ntmps12
  go_wp2_with fail
  refine (srcNew_any _ xs _ HU.out).mono ?_
  rintro e w1 ⟨g, rfl, hs, hg0, hg1, hb⟩
  have HG : Hid (w.heap.size ≤ g) := hg0
  have HS1 := Lib.hid hs
  have HB1 := Lib.hid hb
  clear hs hg0 hg1 hb HU
  go_wp2_with fail
  go_loopw [4, 5, 6, 7] (fun a b nw i wr => ∃ (k : Nat) (m : Int) (l : List Anim), k ≤ 12 ∧ i = .int .i64 k ∧ nw = .int .i64 m ∧ 0 ≤ m ∧ m ≤ 400 * (k : Int) ∧ Keys l ∧ Two36 g w a b l wr) (fun _ _ _ i _ => 12 - (intOf i).toNat)
  case atStart => exact ⟨0, 0, [], by omega, rfl, rfl, by omega, by simp, Keys.nil, IsRecs.nil 16 _, IsRecs.nil 16 _, HS1.out, HB1.out⟩
  case round =>
    obtain ⟨k, m, l, hk, rfl, rfl, hm0, hm1, hkey, htw⟩ := hrel
    have HK := Lib.hid hkey
    have HT := Lib.hid htw
    clear hkey htw
    obtain ⟨va, hva⟩ : ∃ x, u4 = x := ⟨_, rfl⟩
    obtain ⟨vb, hvb⟩ : ∃ x, u5 = x := ⟨_, rfl⟩
    rw [hva, hvb] at HT
    rw [hva, hvb]
    clear hva hvb
    go_upto_region 5 with fail
    go_cut [32] (fun s wx => ∃ x : Bool, s = .bool x ∧ (x = true → k < 12) ∧ Two36 g w va vb l wx)
    case first =>
      as_aux_lemma =>
        by_cases hk12 : k < 12
        · have hk12' : (k : Int) < 12 := by omega
          by_cases hk3 : k < 3
          · have hk3' : (k : Int) < 3 := by omega
            go_wp2_with fail
            go_meet
            exact ⟨true, rfl, fun _ => hk12, HT.out⟩
          · have hk3' : ¬ (k : Int) < 3 := by omega
            go_wp2_with fail
            refine (more_any g _ HT.out.s).mono ?_
            rintro e w2 ⟨x, rfl, d, rfl⟩
            have HT2 : Hid (Two36 g w va vb l (wr.drewN d)) := HT.out.low (Below_drewN (Below.refl _ _) d)
            go_wp2_with fail
            go_meet
            exact ⟨x, rfl, fun _ => hk12, HT2.out⟩
        · have hk12' : ¬ (k : Int) < 12 := by omega
          go_wp2_with fail
          go_meet
          exact ⟨false, rfl, fun h => (by cases h), HT.out⟩
    case rest =>
      obtain ⟨x, rfl, hx, ht2⟩ := hcut
      obtain ⟨w2, rfl⟩ : ∃ x : World, x = wc := ⟨_, rfl⟩
      have HT2 := Lib.hid ht2
      clear ht2 HT
      cases x with
      | false =>
        go_wp2_with (go_at_call 18; refine (awake_any _).mono ?_; rintro e w10 ⟨rfl, hb10⟩)
        go_ret
        exact ⟨rfl, HT2.out.bl.trans (hb10.mono HT2.out.bl.size)⟩
      | true =>
        have hk12 := hx rfl
        have hk12' : (k : Int) < 12 := by omega
        clear hx
        -- now
        go_wp2_with fail
        have hsa : SrcOk (w2.alloc (.cells #[.int .i64 0, .int .i64 1, .int .i64 16, .int .i64 100, .int .i64 400] 3)) g := HT2.out.s.kept ((Below.refl _ _).alloc (by have := HT2.out.s.lt; omega) _)
        have hba : Bld g w2 (w2.alloc (.cells #[.int .i64 0, .int .i64 1, .int .i64 16, .int .i64 100, .int .i64 400] 3)) := (Bld.refl HT2.out.s).low ((Below.refl _ _).alloc (Nat.le_refl _) _) HT2.out.s.lt
        refine (srcN_any g _ _ hsa (by omega) (by omega)).mono ?_
        rintro e w3 ⟨y, y0, y1, rfl, hs3, hg3⟩
        obtain ⟨i1, rfl⟩ := Int.eq_ofNat_of_zero_le y0
        have jj1 : ((i1 : Nat) : Int) < 5 := by omega
        have j1 : i1 < 5 := by omega
        have hcx : w3.cell? ⟨w2.heap.size, i1, none⟩ = some (.int .i64 (gz tabS i1)) := hg3.cell (tabS_cell w2 j1) (by have := HT2.out.s.lt; simp; omega)
        have hbd := tabS_bd j1
        have HT3 := Lib.hid (HT2.out.turn (hba.turn hg3 hs3) HG.out)
        obtain ⟨tv, htv⟩ : ∃ x, gz tabS i1 = x := ⟨_, rfl⟩
        rw [htv] at hcx hbd
        obtain ⟨m2, hm2⟩ : ∃ x, m + tv = x := ⟨_, rfl⟩
        have hm20 : 0 ≤ m2 ∧ m2 ≤ 400 * ((k : Int) + 1) := by omega
        have hw1 : IntKind.i64.wrap (m + tv) = m2 := by rw [hm2]; exact IntWalk.i64_in _ (by omega)
        clear htv hsa hba hs3 hg3 HT2 hm2 hbd
        go_upto_region 8 with fail
        clear hcx hw1 y1
        go_wp2_with fail
        refine (srcN_any g _ _ HT3.out.s (by omega) (by omega)).mono ?_
        rintro e w4 ⟨r, r0, r1, rfl, hs4, hg4⟩
        have HT4 := Lib.hid (HT3.out.turn ((Bld.refl HT3.out.s).turn hg4 hs4) HG.out)
        clear hs4 hg4 HT3
        go_upto_if 44 with fail
        go_cut [4, 5] (fun a b wx => ∃ l' : List Anim, Keys l' ∧ Two36 g w a b l' wx)
        case first =>
          as_aux_lemma =>
            by_cases hr : 0 < r
            ·
              as_aux_lemma =>
                go_wp2_with fail
                refine (src_anim g _ HT4.out.s).mono ?_
                rintro e w5 ⟨e0, e1, e2, e3, e4, e5, e6, e7, e8, e9, e10, e11, e12, e13, e14, e15, rfl, hs5, hg5⟩
                have HT5 := Lib.hid (HT4.out.turn ((Bld.refl HT4.out.s).turn hg5 hs5) HG.out)
                clear hs5 hg5 HT4
                go_upto_region 10 with fail
                obtain ⟨b0, hh⟩ : ∃ b, w5.heap.size = b := ⟨_, rfl⟩
                have HH := Lib.hid hh
                have HA6 : Hid (AnimBlk (w5.alloc (.cells #[.int .i64 e0, .int .i64 e1, .int .i64 e2, .int .i64 e3, .int .i64 e4, .int .i64 e5, .int .i64 e6, .int .i64 e7, .int .i64 e8, .int .i64 e9, .int .i64 e10, .int .i64 e11, .int .i64 e12, .int .i64 e13, .int .i64 e14, .int .i64 e15] 38)) b0 38 [.int .i64 e0, .int .i64 e1, .int .i64 e2, .int .i64 e3, .int .i64 e4, .int .i64 e5, .int .i64 e6, .int .i64 e7, .int .i64 e8, .int .i64 e9, .int .i64 e10, .int .i64 e11, .int .i64 e12, .int .i64 e13, .int .i64 e14, .int .i64 e15]) := ⟨rfl, by rw [← hh]; exact heap_alloc_new w5 _⟩
                have HB6 : Hid (Bld g w5 (w5.alloc (.cells #[.int .i64 e0, .int .i64 e1, .int .i64 e2, .int .i64 e3, .int .i64 e4, .int .i64 e5, .int .i64 e6, .int .i64 e7, .int .i64 e8, .int .i64 e9, .int .i64 e10, .int .i64 e11, .int .i64 e12, .int .i64 e13, .int .i64 e14, .int .i64 e15] 38))) := (Bld.refl HT5.out.s).low ((Below.refl _ _).alloc (Nat.le_refl _) _) HT5.out.s.lt
                have HGB : Hid (g < b0) := by show _ < _; rw [← hh]; exact HT5.out.s.lt
                rw [hh]
                obtain ⟨w6, hw6⟩ : ∃ w6, w5.alloc (.cells #[.int .i64 e0, .int .i64 e1, .int .i64 e2, .int .i64 e3, .int .i64 e4, .int .i64 e5, .int .i64 e6, .int .i64 e7, .int .i64 e8, .int .i64 e9, .int .i64 e10, .int .i64 e11, .int .i64 e12, .int .i64 e13, .int .i64 e14, .int .i64 e15] 38) = w6 := ⟨_, rfl⟩
                rw [hw6] at HA6 HB6 ⊢
                clear hw6 hh
                go_wp2_with (first | (refine load_anim rfl _ rfl b0 rfl _ _ HA6.out ?_))
                refine (rValidate_any e0 e1 e2 e3 e4 e5 e6 e7 e8 e9 e10 e11 e12 e13 e14 e15 _).mono ?_
                obtain ⟨E, hE⟩ : ∃ E, (⟨e0, e1, e2, e3, e4, e5, e6, e7, e8, e9, e10, e11, e12, e13, e14, e15⟩ : Anim).err = E := ⟨_, rfl⟩
                rw [hE]
                rintro e w7 ⟨rfl, hb7⟩
                have HA7 : Hid (AnimBlk w7 b0 38 [.int .i64 e0, .int .i64 e1, .int .i64 e2, .int .i64 e3, .int .i64 e4, .int .i64 e5, .int .i64 e6, .int .i64 e7, .int .i64 e8, .int .i64 e9, .int .i64 e10, .int .i64 e11, .int .i64 e12, .int .i64 e13, .int .i64 e14, .int .i64 e15]) := HA6.out.kept hb7 HA6.out.lt
                have HB7 : Hid (Bld g w5 w7) := HB6.out.low hb7 HT5.out.s.lt
                clear hE hb7 HA6 HB6
                go_upto_if 49 with fail
                go_cut [] (fun wx => ∃ r0 r1 r2 r3 r4 r5 r6 r7 r8 r9 r10 r11 r12 r13 r14 r15 : Int, AnimBlk wx b0 38 [.int .i64 r0, .int .i64 r1, .int .i64 r2, .int .i64 r3, .int .i64 r4, .int .i64 r5, .int .i64 r6, .int .i64 r7, .int .i64 r8, .int .i64 r9, .int .i64 r10, .int .i64 r11, .int .i64 r12, .int .i64 r13, .int .i64 r14, .int .i64 r15] ∧ Bld g w5 wx)
                case first =>
                  as_aux_lemma =>
                    by_cases hE : E = 0
                    · have d1 : (E != 0) = false := by simpa using hE
                      clear hE
                      go_wp2
                      go_meet
                      exact ⟨e0, e1, e2, e3, e4, e5, e6, e7, e8, e9, e10, e11, e12, e13, e14, e15, HA7.out, HB7.out⟩
                    · have d1 : (E != 0) = true := by simpa using hE
                      clear hE
                      go_wp2_with fail
                      refine (srcRange_any g _ _ _ HB7.out.1 (by omega) (by omega) (by omega)).mono ?_
                      rintro e w8 ⟨f, f0, f1, rfl, hs8, hg8⟩
                      have HB8 := Lib.hid (HB7.out.turn hg8 hs8)
                      have HA8 : Hid (AnimBlk w8 b0 38 [.int .i64 e0, .int .i64 e1, .int .i64 e2, .int .i64 e3, .int .i64 e4, .int .i64 e5, .int .i64 e6, .int .i64 e7, .int .i64 e8, .int .i64 e9, .int .i64 e10, .int .i64 e11, .int .i64 e12, .int .i64 e13, .int .i64 e14, .int .i64 e15]) := ⟨rfl, (hg8.block b0 HA7.out.lt (by have := HGB.out; simp; omega)).trans HA7.out.2⟩
                      clear hs8 hg8
                      go_wp2_with fail
                      refine (srcRange_any g _ _ _ HB8.out.1 (by omega) (by omega) (by omega)).mono ?_
                      rintro e w9 ⟨t, t0, t1, rfl, hs9, hg9⟩
                      have HB9 := Lib.hid (HB8.out.turn hg9 hs9)
                      have HA9 : Hid (AnimBlk w9 b0 38 [.int .i64 e0, .int .i64 e1, .int .i64 e2, .int .i64 e3, .int .i64 e4, .int .i64 e5, .int .i64 e6, .int .i64 e7, .int .i64 e8, .int .i64 e9, .int .i64 e10, .int .i64 e11, .int .i64 e12, .int .i64 e13, .int .i64 e14, .int .i64 e15]) := ⟨rfl, (hg9.block b0 HA8.out.lt (by have := HGB.out; simp; omega)).trans HA8.out.2⟩
                      clear hs9 hg9
                      go_wp2_with fail
                      refine (lspring_any f t _ (by omega)).mono ?_
                      rintro e wa ⟨rfl, hba⟩
                      have HBa := Lib.hid (HB9.out.low hba HT5.out.s.lt)
                      have HAa : Hid (AnimBlk wa b0 38 [.int .i64 e0, .int .i64 e1, .int .i64 e2, .int .i64 e3, .int .i64 e4, .int .i64 e5, .int .i64 e6, .int .i64 e7, .int .i64 e8, .int .i64 e9, .int .i64 e10, .int .i64 e11, .int .i64 e12, .int .i64 e13, .int .i64 e14, .int .i64 e15]) := HA9.out.kept hba HA9.out.lt
                      have HLE : Hid (w5.heap.size ≤ b0) := by show _ ≤ _; rw [HH.out]; exact Nat.le_refl _
                      clear hba
                      go_wp2_with (first | (refine store_anim rfl _ _ rfl b0 [.int .i64 1, .int .i64 0, .int .i64 2, .int .i64 f, .int .i64 t, .int .i64 0, .int .i64 0, .int .i64 0, .int .i64 0, .int .i64 0, .int .i64 0, .int .i64 200, .int .i64 240, .int .i64 (65536 * f), .int .i64 0, .int .i64 0] rfl rfl rfl _ _ HAa.out (by simp [Value.oneCell']) ?_; intro wb hab hbb; have HAb := Lib.hid hab; have HBb := Lib.hid (HBa.out.keep (hbb _ HLE.out) HT5.out.s.lt); clear hab hbb))
                      go_meet
                      exact ⟨1, 0, 2, f, t, 0, 0, 0, 0, 0, 0, 200, 240, 65536 * f, 0, 0, HAb.out, HBb.out⟩
                case rest =>
                  as_aux_lemma =>
                    obtain ⟨r0, r1, r2, r3, r4, r5, r6, r7, r8, r9, r10, r11, r12, r13, r14, r15, ha8, hb8⟩ := hcut
                    obtain ⟨w8, rfl⟩ : ∃ x : World, x = wc := ⟨_, rfl⟩
                    have HA8 := Lib.hid ha8
                    have HB8 := Lib.hid hb8
                    clear ha8 hb8 HA7 HB7
                    have c3 : w8.cell? ⟨b0, 3, none⟩ = some (.int .i64 r3) := by rw [HA8.out.cell 3]; rfl
                    have c4 : w8.cell? ⟨b0, 4, none⟩ = some (.int .i64 r4) := by rw [HA8.out.cell 4]; rfl
                    have f3 := HA8.out.free 3
                    have f4 := HA8.out.free 4
                    have ht4 := tmod_range r4 1000 (by omega)
                    have ht3 := tmod_range r3 1000 (by omega)
                    obtain ⟨t4, e4⟩ : ∃ x, r4.tmod 1000 = x := ⟨_, rfl⟩
                    obtain ⟨t3, e3⟩ : ∃ x, r3.tmod 1000 = x := ⟨_, rfl⟩
                    rw [e4] at ht4
                    rw [e3] at ht3
                    have hw4 : IntKind.i64.wrap t4 = t4 := IntWalk.i64_in _ (by omega)
                    have hw3 : IntKind.i64.wrap t3 = t3 := IntWalk.i64_in _ (by omega)
                    go_upto_region 13 with fail
                    have HA9 : Hid (AnimBlk ((w8.setCell ⟨b0, 4, none⟩ (.int .i64 t4)).setCell ⟨b0, 3, none⟩ (.int .i64 t3)) b0 38 [.int .i64 r0, .int .i64 r1, .int .i64 r2, .int .i64 t3, .int .i64 t4, .int .i64 r5, .int .i64 r6, .int .i64 r7, .int .i64 r8, .int .i64 r9, .int .i64 r10, .int .i64 r11, .int .i64 r12, .int .i64 r13, .int .i64 r14, .int .i64 r15]) := (HA8.out.set 4 _).set 3 _
                    have HLE : Hid (w5.heap.size ≤ b0) := by show _ ≤ _; rw [HH.out]; exact Nat.le_refl _
                    have HB9 : Hid (Bld g w5 ((w8.setCell ⟨b0, 4, none⟩ (.int .i64 t4)).setCell ⟨b0, 3, none⟩ (.int .i64 t3))) := HB8.out.keep (((Below.refl _ _).setCell (p := ⟨b0, 4, none⟩) HLE.out _).setCell (p := ⟨b0, 3, none⟩) HLE.out _) HT5.out.s.lt
                    obtain ⟨w9, hw9⟩ : ∃ x, (w8.setCell ⟨b0, 4, none⟩ (.int .i64 t4)).setCell ⟨b0, 3, none⟩ (.int .i64 t3) = x := ⟨_, rfl⟩
                    rw [hw9] at HA9 HB9 ⊢
                    have HT9 := Lib.hid (HT5.out.turn HB9.out HG.out)
                    clear hw9 HA8 HB8 c3 c4 f3 f4 ht3 ht4 e3 e4 hw3 hw4 HT5 HB9
                    obtain ⟨A, hA⟩ : ∃ A, (⟨r0, r1, r2, t3, t4, r5, r6, r7, r8, r9, r10, r11, r12, r13, r14, r15⟩ : Anim) = A := ⟨_, rfl⟩
                    have HAE := Lib.hid hA
                    obtain ⟨E2, hE2⟩ : ∃ E, setErr l A m2 = E := ⟨_, rfl⟩
                    have HE2 := Lib.hid hE2
                    clear hA hE2
                    go_wp2_with (first | (refine load_anim rfl _ rfl b0 rfl _ _ HA9.out ?_))
                    refine (set_any va l r0 r1 r2 t3 t4 r5 r6 r7 r8 r9 r10 r11 r12 r13 r14 r15 m2 _ HT9.out.a).mono ?_
                    rw [HAE.out]
                    unfold Setted
                    rw [HE2.out]
                    rintro e wa ⟨p, rfl, hp, hba⟩
                    have HPa := Lib.hid hp
                    have HTa := Lib.hid (HT9.out.low hba)
                    have HAa : Hid (AnimBlk wa b0 38 [.int .i64 r0, .int .i64 r1, .int .i64 r2, .int .i64 t3, .int .i64 t4, .int .i64 r5, .int .i64 r6, .int .i64 r7, .int .i64 r8, .int .i64 r9, .int .i64 r10, .int .i64 r11, .int .i64 r12, .int .i64 r13, .int .i64 r14, .int .i64 r15]) := HA9.out.kept hba HA9.out.lt
                    clear hp hba HA9 HT9
                    go_wp2_with (first | (refine load_anim rfl _ rfl b0 rfl _ _ HAa.out ?_))
                    refine (rset_any vb l r0 r1 r2 t3 t4 r5 r6 r7 r8 r9 r10 r11 r12 r13 r14 r15 m2 _ HTa.out.b).mono ?_
                    rw [HAE.out]
                    unfold Setted
                    rw [HE2.out]
                    rintro e wb ⟨q, rfl, hq, hbb⟩
                    have HQb := Lib.hid hq
                    have HPb := Lib.hid (HPa.out.of_below hbb)
                    have HTb := Lib.hid (HTa.out.low hbb)
                    have ee : (E2 != E2) = false := by simp
                    clear hq hbb HAa HTa HPa
                    go_wp2_with fail
                    refine (equal_same p q _ _ HPb.out HQb.out).mono ?_
                    rintro e wd ⟨rfl, d, rfl⟩
                    have HBd : Hid (Below wb.heap.size wb (wb.drewN d)) := Below_drewN (Below.refl _ _) d
                    have HTd := Lib.hid (HTb.out.low HBd.out)
                    have HPd := Lib.hid (HPb.out.of_below HBd.out)
                    have HQd := Lib.hid (HQb.out.of_below HBd.out)
                    obtain ⟨we, hwe⟩ : ∃ x, wb.drewN d = x := ⟨_, rfl⟩
                    rw [hwe] at HTd HPd HQd ⊢
                    clear hwe HBd HTb HPb HQb
                    by_cases h2 : E2 = 0
                    · have d2 : (E2 == 0) = true := by simpa using h2
                      clear h2
                      go_wp2_with fail
                      go_meet
                      exact ⟨_, HK.out.set A m2, HPd.out, HQd.out, HTd.out.s, HTd.out.bl⟩
                    · have d2 : (E2 == 0) = false := by simpa using h2
                      clear h2
                      go_wp2_with fail
                      go_meet
                      exact ⟨_, HK.out, HTd.out⟩
            · have d0 : decide (0 < r) = false := by simpa using hr
              go_wp2_with fail
              go_meet
              exact ⟨l, HK.out, HT4.out⟩
        case rest =>
          as_aux_lemma =>
            obtain ⟨l2, hk2, ht5⟩ := hcut
            obtain ⟨w5, rfl⟩ : ∃ x : World, x = wc := ⟨_, rfl⟩
            have HK2 := Lib.hid hk2
            have HT5 := Lib.hid ht5
            clear hk2 ht5 HT4 HK
            obtain ⟨E, hE⟩ : ∃ E, advErr l2 m2 = E := ⟨_, rfl⟩
            have HE := Lib.hid hE
            have ee : (E != E) = false := by simp
            clear hE
            go_wp2_with fail
            refine (advance_any _ l2 m2 _ HT5.out.a).mono ?_
            unfold Advanced
            rw [HE.out]
            rintro e w6 ⟨p, mo, rfl, hp, hmo, hb6⟩
            have HP6 := Lib.hid hp
            have HM6 := Lib.hid hmo
            have HT6 := Lib.hid (HT5.out.low hb6)
            clear hp hmo hb6 HT5
            go_wp2_with fail
            refine (radvance_any _ l2 m2 _ HT6.out.b).mono ?_
            unfold Advanced
            rw [HE.out]
            rintro e w7 ⟨q, no, rfl, hq, hno, hb7⟩
            have HQ7 := Lib.hid hq
            have HN7 := Lib.hid hno
            have HP7 := Lib.hid (HP6.out.of_below hb7)
            have HM7 := Lib.hid (IsRecs.of_below HM6.out hb7)
            have HT7 := Lib.hid (HT6.out.low hb7)
            have HAL : Hid ((advOut l2 m2).length ≤ 64) := by
              show _ ≤ _
              unfold advOut
              by_cases h : advErr l2 m2 = 0
              · rw [if_pos h, List.length_map]
                unfold advErr at h
                by_cases h64 : 64 < l2.length
                · rw [if_pos h64] at h; omega
                · omega
              · rw [if_neg h]; simp
            clear hq hno hb7 HP6 HM6 HT6
            go_wp2_with fail
            refine (equal_same p q _ _ HP7.out HQ7.out).mono ?_
            rintro e wd ⟨rfl, d, rfl⟩
            have HBd : Hid (Below w7.heap.size w7 (w7.drewN d)) := Below_drewN (Below.refl _ _) d
            have HT8 := Lib.hid (HT7.out.low HBd.out)
            have HP8 := Lib.hid (HP7.out.of_below HBd.out)
            have HQ8 := Lib.hid (HQ7.out.of_below HBd.out)
            have HM8 := Lib.hid (IsRecs.of_below HM7.out HBd.out)
            have HN8 := Lib.hid (IsRecs.of_below HN7.out HBd.out)
            obtain ⟨w8, hw8⟩ : ∃ x, w7.drewN d = x := ⟨_, rfl⟩
            rw [hw8] at HT8 HP8 HQ8 HM8 HN8 ⊢
            clear hw8 HBd HT7 HP7 HQ7 HM7 HN7
            go_wp2_with fail
            refine (eqmot_same mo no _ _ HM8.out HN8.out HAL.out).mono ?_
            rintro e wd ⟨rfl, d, rfl⟩
            have HBd : Hid (Below w8.heap.size w8 (w8.drewN d)) := Below_drewN (Below.refl _ _) d
            have HT9 := Lib.hid (HT8.out.low HBd.out)
            have HP9 := Lib.hid (HP8.out.of_below HBd.out)
            have HQ9 := Lib.hid (HQ8.out.of_below HBd.out)
            obtain ⟨w9, hw9⟩ : ∃ x, w8.drewN d = x := ⟨_, rfl⟩
            rw [hw9] at HT9 HP9 HQ9 ⊢
            clear hw9 HBd HT8 HP8 HQ8 HM8 HN8 HAL
            go_upto_if 120 with fail
            go_cut [4, 5] (fun a b wx => ∃ l' : List Anim, Keys l' ∧ Two36 g w a b l' wx)
            case first =>
              as_aux_lemma =>
                by_cases h2 : E = 0
                · have d2 : (E == 0) = true := by simpa using h2
                  clear h2
                  go_wp2_with fail
                  go_meet
                  exact ⟨_, HK2.out.adv m2, HP9.out, HQ9.out, HT9.out.s, HT9.out.bl⟩
                · have d2 : (E == 0) = false := by simpa using h2
                  clear h2
                  go_wp2_with fail
                  go_meet
                  exact ⟨_, HK2.out, HT9.out⟩
            case rest =>
              as_aux_lemma =>
                obtain ⟨l3, hk3, hta⟩ := hcut
                obtain ⟨wa, rfl⟩ : ∃ x : World, x = wc := ⟨_, rfl⟩
                have HK3 := Lib.hid hk3
                have HTa := Lib.hid hta
                clear hk3 hta HT9 HP9 HQ9 HK2
                obtain ⟨vb3, hvb⟩ : ∃ x, u5 = x := ⟨_, rfl⟩
                rw [hvb] at HTa
                rw [hvb]
                obtain ⟨aa, ac, hae, h1, h2, h3⟩ := HTa.out.a.open_
                subst hae
                obtain ⟨n, hn⟩ : ∃ n, l3.length = n := ⟨_, rfl⟩
                have HN := Lib.hid hn
                have HKC : Hid (0 < n → ∃ b off, aa = some ⟨b, off, none⟩ ∧ ∀ W, Below wa.heap.size wa W → KeyC n b off l3 W) := fun hp => by
                  obtain ⟨b, off, ha, hlt, hc⟩ := h3 (by rw [hn]; exact hp)
                  refine ⟨b, off, ha, fun W hW i hi => ?_⟩
                  obtain ⟨e0, e1, -⟩ := hc i (by rw [hn]; exact hi)
                  exact ⟨(hW.cell (p := ⟨b, off + i * 16, none⟩) hlt).trans e0, (hW.cell (p := ⟨b, off + i * 16 + 1, none⟩) hlt).trans e1⟩
                have hnm : n ≤ 9223372036854775807 := by unfold maxLen at h2; omega
                rw [hn] at HTa h1 ⊢
                clear h1 h2 h3 hvb hn
                go_wp2_with fail
                go_loopw [19] (fun i wr => ∃ j : Nat, j ≤ n ∧ i = .int .i64 j ∧ Below wa.heap.size wa wr) (fun i _ => n - (intOf i).toNat)
                case atStart => exact ⟨0, Nat.zero_le _, rfl, Below.refl _ _⟩
                case round =>
                  obtain ⟨j, hj, rfl, hb⟩ := hrel
                  have HBJ := Lib.hid hb
                  clear hb
                  by_cases hjn : j < n
                  ·
                    as_aux_lemma =>
                      have hjn' : (j : Int) < (n : Int) := by omega
                      obtain ⟨wj, rfl⟩ : ∃ x : World, x = wr := ⟨_, rfl⟩
                      obtain ⟨b, off, rfl, hkc⟩ := HKC.out (by omega)
                      have HKCC := Lib.hid hkc
                      clear hkc
                      go_wp2_with fail
                      go_loopw [20] (fun i wr => ∃ z : Nat, z ≤ j ∧ i = .int .i64 z ∧ Below wa.heap.size wa wr) (fun i _ => j - (intOf i).toNat)
                      case atStart => exact ⟨0, Nat.zero_le _, rfl, HBJ.out⟩
                      case round =>
                        obtain ⟨z, hz, rfl, hb⟩ := hrel
                        have HBZ := Lib.hid hb
                        clear hb
                        by_cases hzj : z < j
                        ·
                          as_aux_lemma =>
                            have hzj' : (z : Int) < (j : Int) := by omega
                            have hzn' : (z : Int) < (n : Int) := by omega
                            have hz0 : (0 : Int) ≤ (z : Int) := by omega
                            have hj0 : (0 : Int) ≤ (j : Int) := by omega
                            obtain ⟨a0, a1⟩ := HKCC.out wr HBZ.out j hjn
                            obtain ⟨b0, b1⟩ := HKCC.out wr HBZ.out z (by omega)
                            have hap := HK3.out.apart hzj (by rw [HN.out]; exact hjn)
                            obtain ⟨p1, hp1⟩ : ∃ x, (ga l3 j).node = x := ⟨_, rfl⟩
                            obtain ⟨p2, hp2⟩ : ∃ x, (ga l3 j).prop = x := ⟨_, rfl⟩
                            obtain ⟨q1, hq1⟩ : ∃ x, (ga l3 z).node = x := ⟨_, rfl⟩
                            obtain ⟨q2, hq2⟩ : ∃ x, (ga l3 z).prop = x := ⟨_, rfl⟩
                            rw [hp1] at a0 hap
                            rw [hp2] at a1 hap
                            rw [hq1] at b0 hap
                            rw [hq2] at b1 hap
                            clear hp1 hp2 hq1 hq2
                            by_cases hnn : p1 = q1
                            · have d1 : (p1 == q1) = true := by simpa using hnn
                              have d2 : (p2 == q2) = false := by
                                rw [beq_eq_false_iff_ne]
                                exact fun h => hap ⟨hnn, h⟩
                              clear hap hnn
                              go_wp2_with fail
                              go_quiet (fail)
                              go_wp2
                              go_roundw
                              case rel => exact ⟨z + 1, by omega, by go_num, Below_drewN HBZ.out _⟩
                              case measure => simp [intOf]; omega
                            · have d1 : (p1 == q1) = false := by simpa using hnn
                              clear hap hnn
                              go_wp2_with fail
                              go_quiet (fail)
                              go_wp2
                              go_roundw
                              case rel => exact ⟨z + 1, by omega, by go_num, Below_drewN HBZ.out _⟩
                              case measure => simp [intOf]; omega
                        · obtain rfl : z = j := by omega
                          go_wp2_with fail
                          go_roundw
                          case rel => exact ⟨z + 1, by omega, by go_num, HBZ.out⟩
                          case measure => simp [intOf]; omega
                  · obtain rfl : j = n := by omega
                    have HTF := Lib.hid (HTa.out.low HBJ.out)
                    go_wp2_with fail
                    go_roundw
                    case rel => exact ⟨k + 1, m2, l3, by omega, by go_num, rfl, hm20.1, by omega, HK3.out, HTF.out⟩
                    case measure => simp [intOf]; omega
end Go.Proofs.Ytfcffmjmohkpoaa

