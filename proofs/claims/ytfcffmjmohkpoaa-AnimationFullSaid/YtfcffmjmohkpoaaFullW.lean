/- The walk of the law AnimationFull (printed by wip/gen_full.py). -/
import Derived.Test.YtfcffmjmohkpoaaSetAny
import Derived.Test.YtfcffmjmohkpoaaFullPlain
import Derived.Test.YtfcffmjmohkpoaaLits
import Derived.Test.YtfcffmjmohkpoaaRoundR
import Derived.Test.YtfcffmjmohkpoaaAwake36
import Derived.Test.YtfcffmjmohkpoaaHalt
namespace Go.Proofs.Ytfcffmjmohkpoaa
open Go.RowKit
set_option linter.unusedVariables false
set_option linter.unusedSimpArgs false
theorem lspring0 (w : World) : Calls Try.prog 29 #[.int .i64 0, .int .i64 10] w (GivesL (.agg #[.int .i64 1, .int .i64 0, .int .i64 2, .int .i64 0, .int .i64 10, .int .i64 0, .int .i64 0, .int .i64 0, .int .i64 0, .int .i64 0, .int .i64 0, .int .i64 200, .int .i64 240, .int .i64 0, .int .i64 0, .int .i64 0]) w) := lspring_any 0 10 w (by omega)
def SetTo (l m : List Anim) (w : World) (e : Ending) (w' : World) : Prop := ∃ a cap, e = .returned (.tuple #[.slice a m.length cap, .int .i64 0]) ∧ m.length ≤ cap ∧ cap ≤ maxLen ∧ IsAnims w' (.slice a m.length cap) m ∧ Below w.heap.size w w'
theorem set_to (v : Value) (l m : List Anim) (i : Int) (w : World) (hv : IsAnims w v l) (he : setErr l (fullA i) 0 = 0) (hm : (setOn l (fullA i) 0).map recA = m.map recA) :
    Calls Try.prog 33 #[v, .agg #[.int .i64 i, .int .i64 0, .int .i64 2, .int .i64 0, .int .i64 10, .int .i64 0, .int .i64 0, .int .i64 0, .int .i64 0, .int .i64 0, .int .i64 0, .int .i64 200, .int .i64 240, .int .i64 0, .int .i64 0, .int .i64 0], .int .i64 0] w (SetTo l m w) := by
  refine (set_any v l i 0 2 0 10 0 0 0 0 0 0 200 240 0 0 0 0 w hv).mono ?_
  rintro e w' ⟨u, rfl, hu, hb⟩
  have hu2 : IsAnims w' u m := hu.congr hm
  obtain ⟨a, cap, rfl, h1, h2, -⟩ := hu2.open_
  exact ⟨a, cap, by rw [show (⟨i, 0, 2, 0, 10, 0, 0, 0, 0, 0, 0, 200, 240, 0, 0, 0⟩ : Anim) = fullA i from rfl, he], h1, h2, hu2, hb⟩
def SetNo (c : Int) (w : World) (e : Ending) (w' : World) : Prop := ∃ a cap, e = .returned (.tuple #[.slice a 0 cap, .int .i64 c]) ∧ Below w.heap.size w w'
theorem set_no (v : Value) (l : List Anim) (i c : Int) (w : World) (hv : IsAnims w v l) (he : setErr l (fullA i) 0 = c) (hc : c ≠ 0) :
    Calls Try.prog 33 #[v, .agg #[.int .i64 i, .int .i64 0, .int .i64 2, .int .i64 0, .int .i64 10, .int .i64 0, .int .i64 0, .int .i64 0, .int .i64 0, .int .i64 0, .int .i64 0, .int .i64 200, .int .i64 240, .int .i64 0, .int .i64 0, .int .i64 0], .int .i64 0] w (SetNo c w) := by
  refine (set_any v l i 0 2 0 10 0 0 0 0 0 0 200 240 0 0 0 0 w hv).mono ?_
  rintro e w' ⟨u, rfl, hu, hb⟩
  have e1 : setErr l (⟨i, 0, 2, 0, 10, 0, 0, 0, 0, 0, 0, 200, 240, 0, 0, 0⟩ : Anim) 0 = c := he
  have e2 : setOn l (⟨i, 0, 2, 0, 10, 0, 0, 0, 0, 0, 0, 200, 240, 0, 0, 0⟩ : Anim) 0 = [] := by rw [setOn, if_neg (by rw [e1]; exact hc)]
  rw [e2] at hu
  obtain ⟨a, cap, rfl, h1, h2, -⟩ := hu.open_
  exact ⟨a, cap, by rw [e1]; rfl, hb⟩

set_option maxHeartbeats 8000000 in
set_option maxRecDepth 100000 in
theorem full_core (n : Nat) (w : World) (hn : n < 256) : Calls Try.prog 10 #[.int .u8 n] w (True_ w) := by
  have HMO := Lib.hid (full_more hn)
  have HLE := Lib.hid (full_less (n := n % 64) (Nat.mod_lt _ (by omega)))
  have hm64 : ((n : Int)).tmod 64 = ((n % 64 : Nat) : Int) := by rw [Int.tmod_eq_emod_of_nonneg (by omega)]; omega
  have hc8 : IntKind.i64.wrap (n : Int) = (n : Int) := IntWalk.i64_in _ (by omega)
  have hc65 : IntKind.i64.wrap (65 + (n : Int)) = 65 + (n : Int) := IntWalk.i64_in _ (by omega)
  have hc1 : IntKind.i64.wrap (1 + ((n % 64 : Nat) : Int)) = 1 + ((n % 64 : Nat) : Int) := IntWalk.i64_in _ (by omega)
  have hcm : IntKind.i64.wrap ((n % 64 : Nat) : Int) = ((n % 64 : Nat) : Int) := IntWalk.i64_in _ (by omega)
  obtain ⟨m, hm⟩ : ∃ m, n % 64 = m := ⟨_, rfl⟩
  rw [hm] at HLE hm64 hc1 hcm
  clear hm
  have HC8 := Lib.hid hc8
  have HC65 := Lib.hid hc65
  have HC1 := Lib.hid hc1
  have HCM := Lib.hid hcm
  have HM64 := Lib.hid hm64
  clear hc8 hc65 hc1 hcm hm64
  go_enter Try.func10, Try.ntmps10
  go_wp2_with fail
  go_loopw [3, 4] (fun u i wr => ∃ k : Nat, k ≤ 64 ∧ i = .int .i64 k ∧ IsAnims wr u (fullL k) ∧ Below w.heap.size w wr) (fun _ i _ => 64 - (intOf i).toNat)
  case atStart => exact ⟨0, by omega, rfl, IsRecs.nil 16 _, Below.refl _ _⟩
  case round =>
    obtain ⟨k, hk, rfl, hu, hbl⟩ := hrel
    have HU := Lib.hid hu
    have HB := Lib.hid hbl
    clear hu hbl
    by_cases hk64 : k < 64
    ·
      as_aux_lemma =>
        have HF := Lib.hid (full_step hk64)
        have hk1 : IntKind.i64.wrap ((k : Int) + 1) = (k : Int) + 1 := IntWalk.i64_in _ (by omega)
        go_wp2_with fail
        refine (lspring0 _).mono ?_
        rintro e w4 ⟨rfl, hb⟩
        have HB4 := Lib.hid (HB.out.trans (hb.mono HB.out.size))
        have HU4 := Lib.hid (HU.out.of_below hb)
        clear hb HB HU
        go_wp2_with (refine halt_dst 23 ?_; intro G HGo)
        obtain ⟨b, hh⟩ : ∃ b, w4.heap.size = b := ⟨_, rfl⟩
        have HHs := Lib.hid hh
        have HH0 : Hid (AnimBlk (w4.alloc (.cells #[.int .i64 ((k : Int) + 1), .int .i64 0, .int .i64 2, .int .i64 0, .int .i64 10, .int .i64 0, .int .i64 0, .int .i64 0, .int .i64 0, .int .i64 0, .int .i64 0, .int .i64 200, .int .i64 240, .int .i64 0, .int .i64 0, .int .i64 0] 38)) b 38 [.int .i64 ((k : Int) + 1), .int .i64 0, .int .i64 2, .int .i64 0, .int .i64 10, .int .i64 0, .int .i64 0, .int .i64 0, .int .i64 0, .int .i64 0, .int .i64 0, .int .i64 200, .int .i64 240, .int .i64 0, .int .i64 0, .int .i64 0]) := ⟨rfl, by rw [← hh]; exact heap_alloc_new w4 _⟩
        have hb1 : ∀ B, B ≤ b → Below B w4 (w4.alloc (.cells #[.int .i64 ((k : Int) + 1), .int .i64 0, .int .i64 2, .int .i64 0, .int .i64 10, .int .i64 0, .int .i64 0, .int .i64 0, .int .i64 0, .int .i64 0, .int .i64 0, .int .i64 200, .int .i64 240, .int .i64 0, .int .i64 0, .int .i64 0] 38)) := fun B hB => (Below.refl B w4).alloc (by omega) _
        have HB5 := Lib.hid (HB4.out.trans (hb1 _ (by rw [← hh]; exact HB4.out.size)))
        have HU5 := Lib.hid (HU4.out.of_below (hb1 _ (by omega)))
        rw [hh] at HGo
        obtain ⟨w5, hw5⟩ : ∃ w5, w4.alloc (.cells #[.int .i64 ((k : Int) + 1), .int .i64 0, .int .i64 2, .int .i64 0, .int .i64 10, .int .i64 0, .int .i64 0, .int .i64 0, .int .i64 0, .int .i64 0, .int .i64 0, .int .i64 200, .int .i64 240, .int .i64 0, .int .i64 0, .int .i64 0] 38) = w5 := ⟨_, rfl⟩
        refine HGo.out ?_
        clear HGo hb1 hh
        rw [hw5] at HH0 HB5 HU5 ⊢
        clear hw5 HU4 HB4
        go_wp2_with (first | (refine load_anim rfl _ rfl b rfl _ _ HH0.out ?_))
        refine (set_to _ (fullL k) (fullL (k + 1)) _ _ HU5.out HF.out.1 HF.out.2).mono ?_
        rintro e w6 ⟨a6, c6, rfl, s1, s2, hu6, hb6⟩
        rw [fullL_len] at s1 hu6 ⊢
        have HU6 := Lib.hid hu6
        have HB6 := Lib.hid (HB5.out.trans (hb6.mono HB5.out.size))
        clear hu6 hb6
        have f1 : (((k + 1 : Nat) : Int) != (k : Int) + 1) = false := by simp
        unfold maxLen at s2
        go_wp2
        go_roundw
        case rel => exact ⟨k + 1, by omega, by go_num, HU6.out, HB6.out⟩
        case measure => simp [intOf]; omega
    · obtain rfl : k = 64 := by omega
      as_aux_lemma =>
        go_wp2_with fail
        refine (lspring0 _).mono ?_
        rintro e w4 ⟨rfl, hb⟩
        have HB4 := Lib.hid (HB.out.trans (hb.mono HB.out.size))
        have HU4 := Lib.hid (HU.out.of_below hb)
        clear hb HB HU
        have hc8 := HC8.out
        have hc65 := HC65.out
        go_wp2_with (refine halt_dst 44 ?_; intro G HGo)
        obtain ⟨b, hh⟩ : ∃ b, w4.heap.size = b := ⟨_, rfl⟩
        have HH0 : Hid (AnimBlk (w4.alloc (.cells #[.int .i64 (65 + (n : Int)), .int .i64 0, .int .i64 2, .int .i64 0, .int .i64 10, .int .i64 0, .int .i64 0, .int .i64 0, .int .i64 0, .int .i64 0, .int .i64 0, .int .i64 200, .int .i64 240, .int .i64 0, .int .i64 0, .int .i64 0] 38)) b 38 [.int .i64 (65 + (n : Int)), .int .i64 0, .int .i64 2, .int .i64 0, .int .i64 10, .int .i64 0, .int .i64 0, .int .i64 0, .int .i64 0, .int .i64 0, .int .i64 0, .int .i64 200, .int .i64 240, .int .i64 0, .int .i64 0, .int .i64 0]) := ⟨rfl, by rw [← hh]; exact heap_alloc_new w4 _⟩
        have hb1 : ∀ B, B ≤ b → Below B w4 (w4.alloc (.cells #[.int .i64 (65 + (n : Int)), .int .i64 0, .int .i64 2, .int .i64 0, .int .i64 10, .int .i64 0, .int .i64 0, .int .i64 0, .int .i64 0, .int .i64 0, .int .i64 0, .int .i64 200, .int .i64 240, .int .i64 0, .int .i64 0, .int .i64 0] 38)) := fun B hB => (Below.refl B w4).alloc (by omega) _
        have HB5 := Lib.hid (hb1 b (Nat.le_refl _))
        have HWB : Hid (w.heap.size ≤ b) := by show _ ≤ _; rw [← hh]; exact HB4.out.size
        have HL : Hid (∀ w', Below b w4 w' → IsAnims w' _ (fullL 64)) := fun w' h => HU4.out.of_below (by rw [hh]; exact h)
        rw [hh] at HGo
        obtain ⟨w5, hw5⟩ : ∃ w5, w4.alloc (.cells #[.int .i64 (65 + (n : Int)), .int .i64 0, .int .i64 2, .int .i64 0, .int .i64 10, .int .i64 0, .int .i64 0, .int .i64 0, .int .i64 0, .int .i64 0, .int .i64 0, .int .i64 200, .int .i64 240, .int .i64 0, .int .i64 0, .int .i64 0] 38) = w5 := ⟨_, rfl⟩
        refine HGo.out ?_
        clear HGo hb1 hh
        rw [hw5] at HH0 HB5 ⊢
        clear hw5 HU4 hc65
        go_wp2_with (first | (refine load_anim rfl _ rfl b rfl _ _ HH0.out ?_))
        refine (set_no _ (fullL 64) _ 11 _ (HL.out _ HB5.out) HMO.out (by decide)).mono ?_
        rintro e w6 ⟨a6, c6, rfl, hb6⟩
        have HB6 : Hid (Below b w4 w6) := HB5.out.trans (hb6.mono (Nat.le_of_lt HH0.out.lt))
        have HH6 : Hid (AnimBlk w6 b 38 [.int .i64 (65 + (n : Int)), .int .i64 0, .int .i64 2, .int .i64 0, .int .i64 10, .int .i64 0, .int .i64 0, .int .i64 0, .int .i64 0, .int .i64 0, .int .i64 0, .int .i64 200, .int .i64 240, .int .i64 0, .int .i64 0, .int .i64 0]) := HH0.out.kept hb6 HH0.out.lt
        clear hb6 HB5 HH0
        have z0 : w6.cell? ⟨b, 0, none⟩ = some (.int .i64 (65 + (n : Int))) := (HH6.out.cell 0).trans rfl
        have y0 := HH6.out.free 0
        have hbl := HH6.out.lt
        have hc1 := HC1.out
        have hcm := HCM.out
        have hm64 := HM64.out
        go_wp2_with (refine halt_dst 55 ?_; intro G HGo)
        have HH7 : Hid (AnimBlk (w6.setCell ⟨b, 0, none⟩ (.int .i64 (1 + (m : Int)))) b 38 [.int .i64 (1 + (m : Int)), .int .i64 0, .int .i64 2, .int .i64 0, .int .i64 10, .int .i64 0, .int .i64 0, .int .i64 0, .int .i64 0, .int .i64 0, .int .i64 0, .int .i64 200, .int .i64 240, .int .i64 0, .int .i64 0, .int .i64 0]) := HH6.out.set 0 _
        have HB7 : Hid (Below b w4 (w6.setCell ⟨b, 0, none⟩ (.int .i64 (1 + (m : Int))))) := HB6.out.setCell (Nat.le_refl _) _
        obtain ⟨w7, hw7⟩ : ∃ w7, w6.setCell ⟨b, 0, none⟩ (.int .i64 (1 + (m : Int))) = w7 := ⟨_, rfl⟩
        refine HGo.out ?_
        clear HGo
        rw [hw7] at HH7 HB7 ⊢
        clear hw7 hc8 hc1 hcm hm64 z0 y0 hbl HH6 HB6
        go_wp2_with (first | (refine load_anim rfl _ rfl b rfl _ _ HH7.out ?_))
        refine (set_to _ (fullL 64) (setOn (fullL 64) (fullA (1 + (m : Int))) 0) _ _ (HL.out _ HB7.out) HLE.out.1 rfl).mono ?_
        rintro e w8 ⟨a8, c8, rfl, s1, s2, hu8, hb8⟩
        rw [HLE.out.2] at s1 hu8 ⊢
        have HB8 : Hid (Below w.heap.size w w8) := (HB4.out.trans (HB7.out.mono HWB.out)).trans (hb8.mono (Nat.le_trans HWB.out (Nat.le_of_lt HH7.out.lt)))
        clear hu8 hb8
        unfold maxLen at s2
        go_wp2_with (first | (go_at_call 34; refine (rRound_any 1 1 _).mono ?_; rw [show roundZ 1 1 = 1 from by decide]; rintro e w9 ⟨rfl, rfl⟩) | (go_at_call 18; refine (awake_any _).mono ?_; rintro e w10 ⟨rfl, hb10⟩))
        go_ret
        exact ⟨rfl, HB8.out.trans (hb10.mono HB8.out.size)⟩
end Go.Proofs.Ytfcffmjmohkpoaa

