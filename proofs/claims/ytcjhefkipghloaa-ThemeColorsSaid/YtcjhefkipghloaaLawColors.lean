/- The walk of the law ThemeColors. -/
import Derived.Test.YtcjhefkipghloaaAwake16
import Derived.Test.YtcjhefkipghloaaThemeR
import Derived.Test.YtcjhefkipghloaaOpen
namespace Go.Proofs.Ytcjhefkipghloaa
open Go.RowKit

set_option maxHeartbeats 1600000 in
theorem colors_core (v0 v1 least a b : Int) (w : World) (e0 : bits .and .i64 v0 16777215 = a) (e1 : bits .and .i64 v1 16777215 = b) :
    Calls Try.prog 4 #[.int .i64 v0, .int .i64 v1, .int .i64 least] w (True_ w) := by
  go_enter Try.func4, Try.ntmps4
  go_wp2_with (first | (go_at_call 13; refine (con_any _ _ _).mono ?_; rintro e w' ⟨rfl, rfl⟩) | (go_at_call 15; refine (read_any _ _ _ _).mono ?_; rintro e w' ⟨rfl, rfl⟩) | (go_at_call 11; refine (lum_any _ _).mono ?_; rintro e w' ⟨rfl, rfl⟩) | (go_at_call 14; refine (rcon_any _ _ _).mono ?_; rintro e w' ⟨rfl, rfl⟩) | (go_at_call 16; refine (rread_any _ _ _ _).mono ?_; rintro e w' ⟨rfl, rfl⟩) | (go_at_call 12; refine (rlum_any _ _).mono ?_; rintro e w' ⟨rfl, rfl⟩) | (go_at_call 10; refine (awake_any _).mono ?_; rintro e w3 ⟨rfl, hb3⟩))
  go_ret
  exact ⟨rfl, ‹_›⟩

theorem walk_ThemeColors (u0 : Value) (v0 : Int) (u1 : Value) (v1 : Int) (u2 : Value) (v2 : Int) (w : World)
    (h0 : u0 = .int .i64 v0 ∧ (Lit.int .i64 v0).wf = true) (h1 : u1 = .int .i64 v1 ∧ (Lit.int .i64 v1).wf = true) (h2 : u2 = .int .i64 v2 ∧ (Lit.int .i64 v2).wf = true) :
    Calls Try.prog 4 #[u0, u1, u2] w (True_ w) := by
  obtain ⟨rfl, -⟩ := h0
  obtain ⟨rfl, -⟩ := h1
  obtain ⟨rfl, -⟩ := h2
  exact colors_core v0 v1 v2 _ _ w rfl rfl
end Go.Proofs.Ytcjhefkipghloaa
