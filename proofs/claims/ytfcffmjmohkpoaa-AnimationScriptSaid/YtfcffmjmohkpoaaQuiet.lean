/- Small words for contracts: quiet calls, a law's answer, lists laid by a literal. -/
import Derived.Test.YtfcffmjmohkpoaaMem
import Derived.Deep.QuietTactic
import Derived.BigQuiet
import Derived.BigRegion
import Derived.Deep.DeepCutAuto
import Derived.Handy
namespace Go.Proofs.Ytfcffmjmohkpoaa
open Go.RowKit

/-- The call returns v; it has drawn, and nothing else. -/
def Quiet (v : Value) (w : World) (e : Ending) (w' : World) : Prop := e = .returned v ∧ ∃ n, w' = w.drewN n
/-- A law's call: it answers true, and of what was there nothing has turned. -/
def True_ (w : World) (e : Ending) (w' : World) : Prop := e = .returned (.bool true) ∧ Below w.heap.size w w'

theorem ret_bool {a b : Bool} (h : a = b) : Ending.returned (.bool a) = .returned (.bool b) := by rw [h]
theorem ret_int {k : IntKind} {a b : Int} (h : a = b) : Ending.returned (.int k a) = .returned (.int k b) := by rw [h]

theorem lit_ints {w : World} {cs : Array Value} (xs : List Int) (h : cs = (xs.map (Value.int .i64)).toArray) (hm : xs.length ≤ maxLen) (n : Nat) (hn : n = xs.length) :
    IsInts (w.alloc (.cells cs 3)) (.slice (some ⟨w.heap.size, 0, none⟩) n n) xs := by
  subst h hn
  exact OwnI.isInts (heap_alloc_new w _) hm

theorem ownsRow_isInts {w : World} {base : Nat} {v : Value} {n : Nat} {xs : List Int} (h : w.ownsRow base 3 1 v n (xs.map (Value.int .i64))) : IsInts w v xs := by
  obtain ⟨h1, h2⟩ := h
  have hn : n = xs.length := by simpa using h1.symm
  subst hn
  rcases h2 with ⟨rfl, h0⟩ | ⟨g, cap, cur, rfl, _, hg, hc, hm, hsz, htake⟩
  · have : xs = [] := List.eq_nil_of_length_eq_zero h0
    subst this
    exact IsInts.nil w
  · refine ⟨_, cap, rfl, hc, hm, fun _ => ⟨g, 0, rfl, lt_of_block hg, fun i hi => ?_⟩⟩
    rw [Nat.zero_add, cell_of_row w g i cur 3 (0, 0) hg]
    have e : (cur.toList.take (xs.length * 1))[i]? = (xs.map (Value.int .i64))[i]? := by rw [htake]
    rw [List.getElem?_take, if_pos (by omega)] at e
    simp only [Array.getElem?_toList] at e
    rw [e]
    simp [gz, hi]
end Go.Proofs.Ytfcffmjmohkpoaa
