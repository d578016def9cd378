/- Scale of package fixed. -/
import Derived.Test.YtcjhefkipghloaaRoundP
import Derived.Test.YtcjhefkipghloaaScalePlain
namespace Go.Proofs.Ytcjhefkipghloaa
open Go.RowKit

set_option maxHeartbeats 400000 in
/-- SCALE OF PACKAGE fixed. -/
theorem Scale_any (x num den : Int) (w : World) :
    Calls Try.prog 23 #[.int .i64 x, .int .i64 num, .int .i64 den] w fun e w' => e = .returned (.tuple #[.int .i64 (scaleZ x num den), .int .i64 (scaleE x num den)]) ∧ w = w' := by
  rcases scale_case x num den with ⟨e0, e1, h⟩ | ⟨e0, e1, h1, h2, h3, h4, h5, h6⟩
  · rw [e0, e1]
    clear e0 e1
    rcases h with h | h | h | h | h | h
    all_goals
      go_enter Try.func23, Try.ntmps23
      go_wp2
      go_ret2
      exact ⟨rfl, rfl⟩
  · rw [e0, e1]
    clear e0 e1
    have hm := mul_bd_sym h1 h2 h3 h4 (by omega)
    go_enter Try.func23, Try.ntmps23
    go_wp2_with (go_at_call 35; refine (Round_any _ _ _).mono ?_; rintro e w' ⟨rfl, rfl⟩)
    go_ret2
    exact ⟨rfl, rfl⟩

end Go.Proofs.Ytcjhefkipghloaa
