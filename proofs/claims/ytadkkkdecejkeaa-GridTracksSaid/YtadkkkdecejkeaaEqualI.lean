/- Equal of the reference: it compares two lists of numbers. -/
import Derived.Test.YtadkkkdecejkeaaQuiet
namespace Go.Proofs.Ytadkkkdecejkeaa
open Go.RowKit
set_option linter.unusedVariables false
set_option linter.unusedSimpArgs false

def eqL (xs ys : List Int) : Bool := decide (xs = ys)
theorem eqL_ne_length {xs ys : List Int} (h : xs.length ≠ ys.length) : eqL xs ys = false := by
  simp only [eqL, decide_eq_false_iff_not]; intro e; exact h (by rw [e])
theorem eqL_diff {xs ys : List Int} {k : Nat} (h : gz xs k ≠ gz ys k) : eqL xs ys = false := by
  simp only [eqL, decide_eq_false_iff_not]; intro e; exact h (by rw [e])
theorem ext_gz {xs ys : List Int} (hl : xs.length = ys.length) (h : ∀ j, j < xs.length → gz xs j = gz ys j) : xs = ys := by
  apply List.ext_getElem hl
  intro i h1 h2
  have := h i h1
  simpa [gz, h1, h2] using this
theorem eqL_same {xs ys : List Int} (hl : xs.length = ys.length) (h : ∀ j, j < xs.length → gz xs j = gz ys j) : eqL xs ys = true := by
  simp only [eqL, decide_eq_true_eq]; exact ext_gz hl h
def sameTo (xs ys : List Int) (k : Nat) : Prop := ∀ j, j < k → gz xs j = gz ys j
theorem sameTo_zero (xs ys : List Int) : sameTo xs ys 0 := fun _ h => absurd h (Nat.not_lt_zero _)
theorem sameTo_succ {xs ys : List Int} {k : Nat} (h : sameTo xs ys k) (e : gz xs k = gz ys k) : sameTo xs ys (k + 1) := by
  intro j hj
  by_cases c : j = k
  · subst c; exact e
  · exact h j (by omega)

set_option maxHeartbeats 400000 in
theorem equal_len (a b : Option Addr) (n m c d : Nat) (xs ys : List Int) (w : World) (HX : Hid (xs.length = n)) (HY : Hid (ys.length = m)) (hnm : ((n : Int) == (m : Int)) = false) (_hn : n ≤ maxLen) (_hm : m ≤ maxLen) :
    Calls Try.prog 21 #[.slice a n c, .slice b m d] w (Quiet (.bool (eqL xs ys)) w) := by
  have he : eqL xs ys = false := eqL_ne_length (by rw [HX.out, HY.out]; simp at hnm; omega)
  have HE := Lib.hid he
  clear he
  unfold maxLen at _hn _hm
  go_enter Try.func21, Try.ntmps21
  go_wp2
  go_ret
  exact ⟨by rw [HE.out]; rfl, 0, rfl⟩

set_option maxHeartbeats 400000 in
theorem equal_none (a b : Option Addr) (c d : Nat) (w : World) :
    Calls Try.prog 21 #[.slice a 0 c, .slice b 0 d] w (Quiet (.bool (eqL [] [])) w) := by
  go_enter Try.func21, Try.ntmps21
  go_wp2
  refine wp_loop_rounds 1 ?_
  rw [rounds_succ]
  go_wp2
  go_ret
  exact ⟨rfl, 0, rfl⟩

set_option maxHeartbeats 400000 in
theorem equal_pos (b o b' o' n c d : Nat) (xs ys : List Int) (w : World) (HX : Hid (xs.length = n)) (HY : Hid (ys.length = n)) (hn : n ≤ maxLen)
    (HC : Hid (∀ i, i < n → w.cell? ⟨b, o + i, none⟩ = some (.int .i64 (gz xs i)))) (HD : Hid (∀ i, i < n → w.cell? ⟨b', o' + i, none⟩ = some (.int .i64 (gz ys i)))) :
    Calls Try.prog 21 #[.slice (some ⟨b, o, none⟩) n c, .slice (some ⟨b', o', none⟩) n d] w (Quiet (.bool (eqL xs ys)) w) := by
  unfold maxLen at hn
  go_enter Try.func21, Try.ntmps21
  go_wp2
  go_loopw [5] (fun i wi => ∃ (k nd : Nat), k ≤ n ∧ i = .int .i64 k ∧ wi = w.drewN nd ∧ sameTo xs ys k) (fun i _ => n - (intOf i).toNat)
  case atStart => exact ⟨0, 0, Nat.zero_le _, rfl, rfl, sameTo_zero _ _⟩
  case round =>
    obtain ⟨k, nd, hk, rfl, rfl, hs⟩ := hrel
    by_cases hkn : k < n
    · have c1 := HC.out k hkn
      have c2 := HD.out k hkn
      by_cases he : gz xs k = gz ys k
      · have hb : (gz xs k != gz ys k) = false := by simp [he]
        have HE := Lib.hid he
        clear he
        go_wp2
        go_quiet (fail)
        go_wp2
        go_roundw
        case rel => exact ⟨k + 1, nd + nq, by omega, by go_num, rfl, sameTo_succ hs HE.out⟩
        case measure => simp [intOf]; omega
      · have hb : (gz xs k != gz ys k) = true := by simp [he]
        have hf : eqL xs ys = false := eqL_diff he
        have HF := Lib.hid hf
        clear he hf
        go_wp2
        go_quiet (fail)
        go_wp2
        go_ret
        exact ⟨by rw [HF.out]; rfl, nd + nq, World.drewN_drewN _ _ _⟩
    · obtain rfl : k = n := by omega
      go_wp2
      go_ret
      exact ⟨by rw [eqL_same (by rw [HX.out, HY.out]) (by rw [HX.out]; exact hs)]; rfl, nd, rfl⟩

/-- EQUAL: for all lists. -/
theorem equal_any (v u : Value) (xs ys : List Int) (w : World) (hv : IsInts w v xs) (hu : IsInts w u ys) :
    Calls Try.prog 21 #[v, u] w (Quiet (.bool (eqL xs ys)) w) := by
  obtain ⟨a, c, rfl, h1, h2, h3⟩ := hv
  obtain ⟨b, d, rfl, k1, k2, k3⟩ := hu
  by_cases hl : xs.length = ys.length
  · by_cases hp : 0 < xs.length
    · obtain ⟨b, o, rfl, _, hc⟩ := h3 hp
      obtain ⟨b', o', rfl, _, hd⟩ := k3 (by omega)
      rw [← hl] at hd ⊢
      exact equal_pos b o b' o' _ c d xs ys w (Lib.hid rfl) (Lib.hid hl.symm) (by omega) (Lib.hid hc) (Lib.hid hd)
    · obtain rfl : xs = [] := by cases xs with | nil => rfl | cons => simp at hp
      obtain rfl : ys = [] := by cases ys with | nil => rfl | cons => simp at hl
      exact equal_none a b c d w
  · exact equal_len a b _ _ c d xs ys w (Lib.hid rfl) (Lib.hid rfl) (by simp; omega) (by omega) (by omega)
theorem eqL_self (xs : List Int) : eqL xs xs = true := by simp [eqL]
end Go.Proofs.Ytadkkkdecejkeaa
