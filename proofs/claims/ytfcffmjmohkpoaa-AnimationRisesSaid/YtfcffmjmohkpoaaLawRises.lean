/- The walk of the law AnimationRises. -/
import Derived.Test.YtfcffmjmohkpoaaAwake36
import Derived.Test.YtfcffmjmohkpoaaOpen
namespace Go.Proofs.Ytfcffmjmohkpoaa
open Go.RowKit
set_option linter.unusedVariables false

theorem open_U16 {H : Type} {enc : TypeId × Value → H} {W : World} {base : Nat} {v : Value} {d : DataW H} {p : List MemPlace} (hok : Value.okWide Try.prog W .any base 35 v) (h : DataW.Trod enc Try.prog W 0 (fun _ => true) true 35 v d p) : ∃ x, v = .int .u16 x ∧ (Lit.int .u16 x).wf = true := by
  obtain ⟨a, rfl, rfl, rfl, w⟩ := Go.ChangeShapes.open_int Try.underlying35 hok h
  exact ⟨a, rfl, w⟩
theorem bounds_u16 {x : Int} (h : (Lit.int .u16 x).wf = true) : 0 ≤ x ∧ x ≤ 65535 := by
  simp [Lit.wf, IntKind.min, IntKind.max, IntKind.signed, IntKind.bits] at h
  omega

/-- The curve's two values. -/
theorem rises_ends (y : Int) (h0 : 0 ≤ y) (h1 : y ≤ 1000) : ∃ a b : Int, 0 ≤ a ∧ a ≤ b ∧ b ≤ 1000 ∧ (if 1000 - y < y then 1000 - y else y) = a ∧ (if y < 1000 - y then 1000 - y else y) = b := by
  by_cases c : 1000 - y < y
  · exact ⟨1000 - y, y, by omega, by omega, by omega, by rw [if_pos c], by rw [if_neg (by omega)]⟩
  · by_cases d : y < 1000 - y
    · exact ⟨y, 1000 - y, by omega, by omega, by omega, by rw [if_neg c], by rw [if_pos d]⟩
    · exact ⟨y, y, by omega, by omega, by omega, by rw [if_neg c], by rw [if_neg d]⟩

theorem curve_cells (w : World) (a b c d : Int) :
    (w.alloc (.cells #[.int .i64 a, .int .i64 b, .int .i64 c, .int .i64 d] 23)).cell? ⟨w.heap.size, 0, none⟩ = some (.int .i64 a) ∧ (w.alloc (.cells #[.int .i64 a, .int .i64 b, .int .i64 c, .int .i64 d] 23)).cell? ⟨w.heap.size, 1, none⟩ = some (.int .i64 b) ∧
    (w.alloc (.cells #[.int .i64 a, .int .i64 b, .int .i64 c, .int .i64 d] 23)).cell? ⟨w.heap.size, 2, none⟩ = some (.int .i64 c) ∧ (w.alloc (.cells #[.int .i64 a, .int .i64 b, .int .i64 c, .int .i64 d] 23)).cell? ⟨w.heap.size, 3, none⟩ = some (.int .i64 d) := by
  refine ⟨?_, ?_, ?_, ?_⟩
  all_goals go_simp
/-- The value behind round i. -/
def lastZ (p a q b N : Int) : Nat → Int
  | 0 => 0
  | i + 1 => easeZ p a q b (N * (i : Int) / 24) N
theorem lastZ_facts {p a q b N : Int} (hc : curveOk p a q b = true) (h0 : 0 ≤ a) (h1 : a ≤ b) (h2 : b ≤ 1000) (hN : 1 ≤ N) (hN2 : N ≤ 10000) (i : Nat) :
    lastZ p a q b N i ≤ lastZ p a q b N (i + 1) ∧ 0 ≤ lastZ p a q b N (i + 1) ∧ lastZ p a q b N (i + 1) ≤ 1000 := by
  have hr : ∀ j k : Nat, j ≤ k → N * (j : Int) / 24 ≤ N * (k : Int) / 24 := fun j k hjk => by
    have := Int.mul_le_mul_of_nonneg_left (show (j : Int) ≤ (k : Int) by omega) (show 0 ≤ N by omega)
    omega
  have e := easeZ_rises (x1 := p) (y1 := a) (x2 := q) (y2 := b) hc h0 h1 h2 hN hN2 (hr i i (Nat.le_refl _))
  cases i with
  | zero => exact ⟨e.2.1, e.2⟩
  | succ i =>
    have e2 := easeZ_rises (x1 := p) (y1 := a) (x2 := q) (y2 := b) hc h0 h1 h2 hN hN2 (hr i (i + 1) (by omega))
    exact ⟨e2.1, e.2⟩
theorem lastZ_end {p a q b N : Int} (hc : curveOk p a q b = true) (hN : 1 ≤ N) (hN2 : N ≤ 10000) : lastZ p a q b N 25 = 1000 := by
  have e : N * ((24 : Nat) : Int) / 24 = N := by omega
  show easeZ p a q b (N * ((24 : Nat) : Int) / 24) N = 1000
  rw [e, easeZ, if_pos ⟨hc, hN, hN2, by omega⟩, if_pos (Int.le_refl _)]
theorem ease_zero {p a q b N : Int} : easeZ p a q b 0 N = 0 := by
  rw [easeZ, if_neg (fun h => by have := h.2.2.2; omega)]

set_option maxHeartbeats 2000000 in
set_option maxRecDepth 100000 in
theorem rises_core (x1 x2 y n : Int) (w : World) (hx1 : 0 ≤ x1 ∧ x1 ≤ 65535) (hx2 : 0 ≤ x2 ∧ x2 ≤ 65535) (hy : 0 ≤ y ∧ y ≤ 65535) (hn : 0 ≤ n ∧ n ≤ 65535) :
    Calls Try.prog 5 #[.int .u16 x1, .int .u16 x2, .int .u16 y, .int .u16 n] w (True_ w) := by
  obtain ⟨a, b, ha0, hab, hb1, hA, hB⟩ := rises_ends (y % 1001) (by omega) (by omega)
  have hc : curveOk (x1 % 1001) a (x2 % 1001) b = true := by simp [curveOk]; omega
  have HF := Lib.hid (lastZ_facts (N := 1 + n % 10000) hc ha0 hab hb1 (by omega) (by omega))
  have HE := Lib.hid (lastZ_end (N := 1 + n % 10000) hc (by omega) (by omega))
  clear hc
  go_enter Try.func5, Try.ntmps5
  go_wp2_with fail
  obtain ⟨W, hW⟩ : ∃ W, w.alloc (.cells #[.int .i64 (x1 % 1001), .int .i64 a, .int .i64 (x2 % 1001), .int .i64 b] 23) = W := ⟨_, rfl⟩
  have hWs : W.heap.size = w.heap.size + 1 := by rw [← hW]; simp
  have hWb : Below w.heap.size w W := by rw [← hW]; exact below_new _ _
  have hcc := curve_cells w (x1 % 1001) a (x2 % 1001) b
  rw [hW] at hcc
  rw [hW]
  have HW := Lib.hid hcc
  have HWB := Lib.hid hWb
  have HWS := Lib.hid hWs
  clear hW hcc hA hB hWb hWs
  obtain ⟨N, hN⟩ : ∃ N, 1 + n % 10000 = N := ⟨_, rfl⟩
  have hN1 : 1 ≤ N ∧ N ≤ 10000 := by omega
  rw [hN] at HF HE ⊢
  clear hN
  obtain ⟨p, hp⟩ : ∃ p, x1 % 1001 = p := ⟨_, rfl⟩
  obtain ⟨q, hq⟩ : ∃ q, x2 % 1001 = q := ⟨_, rfl⟩
  rw [hp, hq] at HF HE HW ⊢
  clear hp hq
  go_loopw [13, 14] (fun s j wr => ∃ i : Nat, i ≤ 25 ∧ j = .int .i64 i ∧ s = .int .i64 (lastZ p a q b N i) ∧ Below W.heap.size W wr) (fun _ j _ => 25 - (intOf j).toNat)
  case atStart => exact ⟨0, by omega, rfl, rfl, Below.refl _ _⟩
  case round =>
    obtain ⟨i, hi, rfl, rfl, hbl⟩ := hrel
    have HB := Lib.hid hbl
    have hlt : w.heap.size < W.heap.size := by have := HWS.out; omega
    have c0 := (hbl.cell (p := ⟨w.heap.size, 0, none⟩) hlt).trans HW.out.1
    have c1 := (hbl.cell (p := ⟨w.heap.size, 1, none⟩) hlt).trans HW.out.2.1
    have c2 := (hbl.cell (p := ⟨w.heap.size, 2, none⟩) hlt).trans HW.out.2.2.1
    have c3 := (hbl.cell (p := ⟨w.heap.size, 3, none⟩) hlt).trans HW.out.2.2.2
    clear hbl hlt
    by_cases hi24 : i ≤ 24
    · have hi' : (i : Int) ≤ 24 := by omega
      obtain ⟨f1, f2, f3⟩ := HF.out i
      obtain ⟨m0, m1⟩ := mul_nn (a := N) (b := (i : Int)) (m := 10000) (k := 24) (by omega) hN1.2 (by omega) hi'
      obtain ⟨E, hE⟩ : ∃ E, lastZ p a q b N (i + 1) = E := ⟨_, rfl⟩
      have HEq : Hid (easeZ p a q b (N * (i : Int) / 24) N = E) := hE
      have HEl := Lib.hid hE
      rw [hE] at f1 f2 f3
      obtain ⟨L, hL⟩ : ∃ L, lastZ p a q b N i = L := ⟨_, rfl⟩
      rw [hL] at f1 ⊢
      clear hE hL
      go_wp2_with fail
      refine (Ease_any _ _ _ _ _ _ _).mono ?_
      rw [HEq.out]
      rintro e w' ⟨rfl, hb⟩
      have HB2 := Lib.hid (HB.out.trans (hb.mono HB.out.size))
      clear hb
      go_wp2
      go_roundw
      case rel => exact ⟨i + 1, by omega, by go_num, by rw [HEl.out], HB2.out⟩
      case measure => simp [intOf]; omega
    · obtain rfl : i = 25 := by omega
      rw [HE.out]
      go_wp2_with fail
      refine (Ease_any _ _ _ _ _ _ _).mono ?_
      rw [ease_zero]
      rintro e w' ⟨rfl, hb⟩
      have HB2 := Lib.hid (HB.out.trans (hb.mono HB.out.size))
      clear hb
      go_wp2_with (go_at_call 18; refine (awake_any _).mono ?_; rintro e w9 ⟨rfl, hb9⟩)
      go_ret
      have hx := HWB.out.trans (HB2.out.mono HWB.out.size)
      exact ⟨rfl, hx.trans (hb9.mono hx.size)⟩

theorem walk_AnimationRises (u0 : Value) (v0 : Int) (u1 : Value) (v1 : Int) (u2 : Value) (v2 : Int) (u3 : Value) (v3 : Int) (w : World)
    (h0 : u0 = .int .u16 v0 ∧ (Lit.int .u16 v0).wf = true) (h1 : u1 = .int .u16 v1 ∧ (Lit.int .u16 v1).wf = true) (h2 : u2 = .int .u16 v2 ∧ (Lit.int .u16 v2).wf = true) (h3 : u3 = .int .u16 v3 ∧ (Lit.int .u16 v3).wf = true) :
    Calls Try.prog 5 #[u0, u1, u2, u3] w (True_ w) := by
  obtain ⟨rfl, w0⟩ := h0
  obtain ⟨rfl, w1⟩ := h1
  obtain ⟨rfl, w2⟩ := h2
  obtain ⟨rfl, w3⟩ := h3
  exact rises_core v0 v1 v2 v3 w (bounds_u16 w0) (bounds_u16 w1) (bounds_u16 w2) (bounds_u16 w3)
end Go.Proofs.Ytfcffmjmohkpoaa
