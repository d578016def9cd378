/- The sanity check at the end of each law of package widgetrylaw01. -/
import Derived.Test.YtmennimfjelcfaaInts
namespace Go.Proofs.Ytmennimfjelcfaa
open Go.RowKit

/-- A law's call: it answers true, and of what was there nothing has turned. -/
def True_ (w : World) (e : Ending) (w' : World) : Prop := e = .returned (.bool true) ∧ Below w.heap.size w w'

theorem lit_ints {w : World} {cs : Array Value} (xs : List Int) (h : cs = (xs.map (Value.int .i64)).toArray) (hm : xs.length ≤ maxLen) (n : Nat) (hn : n = xs.length) :
    IsInts (w.alloc (.cells cs 3)) (.slice (some ⟨w.heap.size, 0, none⟩) n n) xs := by
  subst h hn
  exact OwnI.isInts (heap_alloc_new w _) hm

theorem share_awake : shareParts 10 [1, 1, 1] = [4, 3, 3] ∧ shareErr 10 [1, 1, 1] = 0 := by decide

set_option maxHeartbeats 400000 in
theorem awake_any (w : World) : Calls Try.prog 13 #[] w (True_ w) := by
  go_enter Try.func13, Try.ntmps13
  go_wp2_with fail
  refine (share_any _ _ [1, 1, 1] _ (lit_ints [1, 1, 1] rfl (by unfold maxLen; simp) _ rfl)).mono ?_
  rintro e w' ⟨v, rfl, hv, hb⟩
  rw [share_awake.2]
  rw [share_awake.1] at hv
  go_wp2_with fail
  refine (equal_any _ _ [4, 3, 3] [4, 3, 3] _ (hv.of_below ((Below.refl _ _).alloc (Nat.le_refl _) _)) (lit_ints [4, 3, 3] rfl (by unfold maxLen; simp) _ rfl)).mono ?_
  rintro e w'' ⟨rfl, n, rfl⟩
  have e0 : eqL [4, 3, 3] [4, 3, 3] = true := by decide
  rw [e0]
  go_wp2
  go_ret
  refine ⟨rfl, below_drewN (Below.alloc ?_ ?_ _) n⟩
  · exact ((Below.refl _ _).alloc (Nat.le_refl _) _).trans (hb.mono (by simp))
  · have := hb.size; simp at this; omega
end Go.Proofs.Ytmennimfjelcfaa
