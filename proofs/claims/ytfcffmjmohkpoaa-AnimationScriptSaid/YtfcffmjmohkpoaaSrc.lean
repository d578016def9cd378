/- The reader of numbers of package widgetrybase: New, N. What it returns is in its range; of memory it turns its own place alone. -/
import Derived.Test.YtfcffmjmohkpoaaQuiet
import Derived.Test.YtfcffmjmohkpoaaOpen
import Derived.Test.YtfcffmjmohkpoaaBits
import Derived.WalkSmall
import Derived.IntWalk
namespace Go.Proofs.Ytfcffmjmohkpoaa
open Go.RowKit
set_option linter.unusedVariables false
set_option linter.unusedSimpArgs false

/-- Block g holds a reader: its list lies below it. -/
def SrcOk (w : World) (g : Nat) : Prop :=
  ∃ (a : Option Addr) (xs : List Int) (n cap k : Nat), w.heap[g]? = some (.cells #[.slice a n cap, .int .i64 k] 69 (0, 0)) ∧ n ≤ cap ∧ cap ≤ maxLen ∧ k ≤ n ∧ n ≤ 4000 ∧
    (∀ j, -9223372036854775808 ≤ gz xs j ∧ gz xs j ≤ 9223372036854775807) ∧
    (0 < n → ∃ b off, a = some ⟨b, off, none⟩ ∧ b < g ∧ ∀ i, i < n → w.cell? ⟨b, off + i, none⟩ = some (.int .i64 (gz xs i)))
theorem SrcOk.lt {w : World} {g : Nat} (h : SrcOk w g) : g < w.heap.size := by
  obtain ⟨_, _, _, _, _, h, _⟩ := h
  exact lt_of_block h
theorem SrcOk.kept {w w' : World} {g : Nat} (h : SrcOk w g) (hb : Below (g + 1) w w') : SrcOk w' g := by
  obtain ⟨a, xs, n, cap, k, h1, h2, h3, h4, h5, h6, h7⟩ := h
  refine ⟨a, xs, n, cap, k, (hb.block g (by omega)).trans h1, h2, h3, h4, h5, h6, fun hp => ?_⟩
  obtain ⟨b, off, ha, hlt, hc⟩ := h7 hp
  exact ⟨b, off, ha, hlt, fun i hi => (hb.cell (p := ⟨b, off + i, none⟩) (by show b < g + 1; omega)).trans (hc i hi)⟩
theorem grownBy_below {w w' : World} {g : Nat} (h : w.grownBy w' (some g)) {B : Nat} (hB : B ≤ g) (hw : g < w.heap.size) : Below B w w' :=
  ⟨h.os, h.tape, h.output, h.size, fun k hk => h.block k (by omega) (fun e => by have := Option.some.inj e; omega)⟩
theorem grownBy_drewN {w w' : World} {row : Option Nat} (h : w.grownBy w' row) (n : Nat) : w.grownBy (w'.drewN n) row := ⟨h.os, h.tape, h.output, h.size, h.block⟩
theorem grownBy_trans {a b c : World} {row : Option Nat} (h : a.grownBy b row) (k : b.grownBy c row) : a.grownBy c row :=
  ⟨k.os.trans h.os, k.tape.trans h.tape, k.output.trans h.output, Nat.le_trans h.size k.size, fun j hj hn => (k.block j (Nat.lt_of_lt_of_le hj h.size) hn).trans (h.block j hj hn)⟩
theorem grownBy_of_below {B : Nat} {a b : World} (h : Below B a b) (hB : a.heap.size ≤ B) (row : Option Nat) : a.grownBy b row := ⟨h.os, h.tape, h.output, h.size, fun k hk _ => h.block k (by omega)⟩
theorem grownBy_set (w : World) (g i : Nat) (v : Value) : w.grownBy (w.setCell ⟨g, i, none⟩ v) (some g) := by
  have hb : Below g w (w.setCell ⟨g, i, none⟩ v) := (Below.refl g w).setCell (p := ⟨g, i, none⟩) (Nat.le_refl _) v
  exact ⟨hb.os, hb.tape, hb.output, hb.size, fun k _ hn => Below.heap_setCell _ _ _ _ (fun e => hn (by rw [e]))⟩

/-- The reader of block g has given a number from lo to hi; only its own block has turned. -/
def SrcInt (lo hi : Int) (g : Nat) (w : World) (e : Ending) (w' : World) : Prop := ∃ z : Int, lo ≤ z ∧ z ≤ hi ∧ e = .returned (.int .i64 z) ∧ SrcOk w' g ∧ w.grownBy w' (some g)

set_option maxHeartbeats 800000 in
set_option maxRecDepth 100000 in
theorem srcN_any (g : Nat) (n : Int) (w : World) (hs : SrcOk w g) (hn0 : 1 ≤ n) (hn1 : n ≤ 1099511627776) :
    Calls Try.prog 16 #[.pointer (some ⟨g, 0, none⟩), .int .i64 n] w (SrcInt 0 (n - 1) g w) := by
  have HS := Lib.hid hs
  obtain ⟨a, xs, l, cap, k, h1, h2, h3, h4, h5, h6, h7⟩ := hs
  have c0 : w.cell? ⟨g, 0, none⟩ = some (.slice a l cap) := by rw [cell_of_row w g 0 _ _ (0, 0) h1]; rfl
  have c1 : w.cell? ⟨g, 1, none⟩ = some (.int .i64 k) := by rw [cell_of_row w g 1 _ _ (0, 0) h1]; rfl
  have fr : w.frozen? ⟨g, 1, none⟩ = false := by simp [World.frozen?, h1]
  have H1 := Lib.hid h1
  have H7 := Lib.hid h7
  have H6 := Lib.hid h6
  unfold maxLen at h3
  clear h1 h7 h6
  by_cases hk : k < l
  · obtain ⟨b, off, rfl, hlt, hcell⟩ := H7.out (by omega)
    have hc := hcell k hk
    have hk' : (k : Int) < (l : Int) := by omega
    have hk0 : (0 : Int) ≤ (k : Int) := by omega
    have hx1 : IntKind.i64.wrap ((k : Int) + 1) = (k : Int) + 1 := IntWalk.i64_in _ (by omega)
    obtain ⟨x, hx⟩ : ∃ x, gz xs k = x := ⟨_, rfl⟩
    have hxb := H6.out k
    rw [hx] at hc hxb
    have ht := tmod_range x n (by omega)
    have HN : Hid (∀ d, SrcOk ((w.setCell ⟨g, 1, none⟩ (.int .i64 ((k : Int) + 1))).drewN d) g) := fun d => by
      refine ⟨some ⟨b, off, none⟩, xs, l, cap, k + 1, ?_, h2, by unfold maxLen; omega, by omega, h5, H6.out, fun _ => ⟨b, off, rfl, hlt, fun i hi => ?_⟩⟩
      · have := H1.out
        simp [World.setCell, this, Array.getElem?_modify]
      · have hne : b ≠ g := by omega
        rw [World.cell?_drewN, World.cell?_setCell_other _ _ _ _ (by simp; try omega)]
        exact hcell i hi
    have HG : Hid (∀ d, w.grownBy ((w.setCell ⟨g, 1, none⟩ (.int .i64 ((k : Int) + 1))).drewN d) (some g)) := fun d => grownBy_drewN (grownBy_set w g 1 _) d
    clear hcell hx
    by_cases hneg : x.tmod n < 0
    · go_enter Try.func16, Try.ntmps16
      go_wp2_with fail
      go_quiet (fail)
      go_wp2_with fail
      go_quiet (fail)
      go_wp2_with fail
      go_ret
      exact ⟨_, by omega, by omega, rfl, HN.out _, HG.out _⟩
    · go_enter Try.func16, Try.ntmps16
      go_wp2_with fail
      go_quiet (fail)
      go_wp2_with fail
      go_quiet (fail)
      go_wp2_with fail
      go_ret
      exact ⟨_, by omega, by omega, rfl, HN.out _, HG.out _⟩
  · have hk' : (l : Int) ≤ (k : Int) := by omega
    have HN : Hid (∀ d, SrcOk (w.drewN d) g) := fun d => HS.out
    have HG : Hid (∀ d, w.grownBy (w.drewN d) (some g)) := fun d => grownBy_drewN (World.grownBy.refl w _) d
    go_enter Try.func16, Try.ntmps16
    go_wp2_with fail
    go_quiet (fail)
    go_wp2_with fail
    go_ret
    exact ⟨0, by omega, by omega, rfl, HN.out _, HG.out _⟩

/-- A new reader. -/
def SrcNew (w : World) (e : Ending) (w' : World) : Prop := ∃ g, e = .returned (.pointer (some ⟨g, 0, none⟩)) ∧ SrcOk w' g ∧ w.heap.size ≤ g ∧ g < w'.heap.size ∧ Below w.heap.size w w'

set_option maxHeartbeats 800000 in
theorem srcNew_any (v : Value) (xs : List Int) (w : World) (hv : InInts w v xs) :
    Calls Try.prog 15 #[v] w (SrcNew w) := by
  obtain ⟨⟨a, cap, rfl, h1, h2, h3⟩, hbd⟩ := hv
  obtain ⟨n, hn⟩ : ∃ n, xs.length = n := ⟨_, rfl⟩
  rw [hn] at h1 h3 ⊢
  have HD := Lib.hid hbd
  have HN : Hid (∀ m c, m ≤ n → m ≤ 4000 → m ≤ c → c ≤ maxLen → SrcOk (w.alloc (.cells #[.slice a m c, .int .i64 0] 69)) w.heap.size) := fun m c hm hm4 hmc hc => by
    refine ⟨a, xs, m, c, 0, heap_alloc_new w _, hmc, hc, Nat.zero_le _, hm4, HD.out, fun hp => ?_⟩
    obtain ⟨b, off, ha, hlt, hcell⟩ := h3 (by omega)
    exact ⟨b, off, ha, hlt, fun i hi => (World.cell?_alloc_lt w _ _ hlt).trans (hcell i (by omega))⟩
  have hmax := h2
  unfold maxLen at h2
  clear h3 hbd hn
  by_cases hb : 4000 < n
  · have hb' : (4000 : Int) < (n : Int) := by omega
    have hcap : (4000 : Int) ≤ (cap : Int) := by omega
    go_enter Try.func15, Try.ntmps15
    go_wp2
    go_ret
    exact ⟨_, rfl, HN.out 4000 cap (by omega) (by omega) (by omega) hmax, Nat.le_refl _, by simp, (Below.refl _ _).alloc (Nat.le_refl _) _⟩
  · have hb' : (n : Int) ≤ 4000 := by omega
    go_enter Try.func15, Try.ntmps15
    go_wp2
    go_ret
    exact ⟨_, rfl, HN.out n cap (by omega) (by omega) (by omega) hmax, Nat.le_refl _, by simp, (Below.refl _ _).alloc (Nat.le_refl _) _⟩
end Go.Proofs.Ytfcffmjmohkpoaa
