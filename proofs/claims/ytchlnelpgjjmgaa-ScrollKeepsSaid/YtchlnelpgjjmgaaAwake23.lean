/- The sanity check at the end of each law of package widgetrylaw23. -/
import Derived.Test.YtchlnelpgjjmgaaVisible
import Derived.Test.YtchlnelpgjjmgaaScrollR
namespace Go.Proofs.Ytchlnelpgjjmgaa
open Go.RowKit

/-- The cells of a list of rows. -/
def stripCells (l : List Strip) : List Value := l.flatMap fun s => [.string s.1, .int .i64 s.2]
theorem stripCells_at (l : List Strip) : ∀ i, i < l.length → (stripCells l)[i * 2]? = some (.string (gk l i)) ∧ (stripCells l)[i * 2 + 1]? = some (.int .i64 (gh l i)) := by
  induction l with
  | nil => intro i h; simp at h
  | cons s t ih =>
    intro i h
    have e : stripCells (s :: t) = .string s.1 :: .int .i64 s.2 :: stripCells t := rfl
    rw [e]
    cases i with
    | zero => simp [gk, gh]
    | succ i =>
      have hh := ih i (by simpa using h)
      have e1 : (i + 1) * 2 = i * 2 + 1 + 1 := by omega
      rw [e1]
      simp only [List.getElem?_cons_succ]
      exact ⟨by rw [hh.1]; simp [gk], by rw [hh.2]; simp [gh]⟩

theorem lit_strips {w : World} {g : Nat} {t : TypeId} {cs : Array Value} (l : List Strip) (hg : w.heap[g]? = some (.cells cs t (0, 0))) (h : cs.toList = stripCells l) (hm : l.length ≤ maxLen) (n : Nat) (hn : n = l.length) :
    IsStrips w (.slice (some ⟨g, 0, none⟩) n n) l := by
  subst hn
  refine ⟨_, _, rfl, Nat.le_refl _, hm, fun _ => ⟨g, 0, rfl, lt_of_block hg, fun i hi => ?_⟩⟩
  have := stripCells_at l i hi
  rw [← h] at this
  simp only [Array.getElem?_toList] at this
  rw [cell_of_row w g _ cs t (0, 0) hg, cell_of_row w g _ cs t (0, 0) hg]
  simpa using this

def awakeRows : List Strip := [(⟨#[97]⟩, 10), (⟨#[98]⟩, 20), (⟨#[99]⟩, 30)]
theorem awake_vis : visF awakeRows 10 = 1 ∧ visL awakeRows 10 20 = 2 := ⟨rfl, rfl⟩
theorem awake_ok : visOk awakeRows 10 20 := by
  refine ⟨by decide, ?_, by decide, by decide⟩
  exact (rowsOk_iff awakeRows).1 (by decide)

set_option maxHeartbeats 400000 in
theorem awake_any (w : World) : Calls Try.prog 11 #[] w (True_ w) := by
  go_enter Try.func11, Try.ntmps11
  go_wp2_with fail
  refine ((visible_any _ awakeRows _ _ _ ?_).1 awake_ok).mono ?_
  · exact lit_strips awakeRows (heap_alloc_new w _) rfl (by unfold maxLen; decide) _ rfl
  rw [awake_vis.1, awake_vis.2]
  rintro e w1 ⟨rfl, hb1⟩
  go_wp2_with fail
  refine (sClamp_any _ _ _ _).mono ?_
  rw [show sClamp 100 60 20 = 40 from by decide]
  rintro e w2 ⟨rfl, hb2⟩
  go_wp2_with fail
  refine (sReveal_any _ _ _ _ _).mono ?_
  rw [show sReveal 0 20 30 10 = 20 from by decide]
  rintro e w3 ⟨rfl, hb3⟩
  go_wp2
  go_ret
  have s1 := hb1.size
  have s2 := hb2.size
  simp at s1
  refine ⟨rfl, (((below_one w _).trans (hb1.mono (by simp))).trans (hb2.mono (by omega))).trans (hb3.mono (by omega))⟩
end Go.Proofs.Ytchlnelpgjjmgaa
