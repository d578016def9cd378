/- The walk of the law ThemeReadable. -/
import Derived.Test.YtcjhefkipghloaaAwake16
import Derived.Test.YtcjhefkipghloaaOpen
namespace Go.Proofs.Ytcjhefkipghloaa
open Go.RowKit

theorem mask_color (n : Int) : 0 ≤ n % 16777216 ∧ n % 16777216 ≤ 16777215 ∧ colorZ (n % 16777216) = true := by
  have h : 0 ≤ n % 16777216 ∧ n % 16777216 ≤ 16777215 := by omega
  exact ⟨h.1, h.2, color_iff.2 h⟩

set_option maxHeartbeats 800000 in
theorem readable_core (v0 v1 least a b : Int) (w : World) (e0 : bits .and .i64 v0 16777215 = a) (e1 : bits .and .i64 v1 16777215 = b) (ha : colorZ a = true) (hb : colorZ b = true) :
    Calls Try.prog 5 #[.int .i64 v0, .int .i64 v1, .int .i64 least] w (True_ w) := by
  have hc := conZ_bd ha hb
  have hs : (conZ a b == conZ b a) = true := by rw [conZ_symm b a]; simp
  have hd : (conZ a a == 100) = true := by rw [conZ_self ha]; rfl
  by_cases hl : 450 < least
  · have hr := readZ_reaches (least := 450) ha hb (Int.le_refl _)
    clear ha hb
    go_enter Try.func5, Try.ntmps5
    go_wp2_with (first | (go_at_call 13; refine (con_any _ _ _).mono ?_; rintro e w' ⟨rfl, rfl⟩) | (go_at_call 15; refine (read_any _ _ _ _).mono ?_; rintro e w' ⟨rfl, rfl⟩) | (go_at_call 10; refine (awake_any _).mono ?_; rintro e w3 ⟨rfl, hb3⟩))
    go_ret
    exact ⟨rfl, ‹_›⟩
  · have hr := readZ_reaches (least := least) ha hb (by omega)
    clear ha hb
    go_enter Try.func5, Try.ntmps5
    go_wp2_with (first | (go_at_call 13; refine (con_any _ _ _).mono ?_; rintro e w' ⟨rfl, rfl⟩) | (go_at_call 15; refine (read_any _ _ _ _).mono ?_; rintro e w' ⟨rfl, rfl⟩) | (go_at_call 10; refine (awake_any _).mono ?_; rintro e w3 ⟨rfl, hb3⟩))
    go_ret
    exact ⟨rfl, ‹_›⟩

theorem walk_ThemeReadable (u0 : Value) (v0 : Int) (u1 : Value) (v1 : Int) (u2 : Value) (v2 : Int) (w : World)
    (h0 : u0 = .int .i64 v0 ∧ (Lit.int .i64 v0).wf = true) (h1 : u1 = .int .i64 v1 ∧ (Lit.int .i64 v1).wf = true) (h2 : u2 = .int .i64 v2 ∧ (Lit.int .i64 v2).wf = true) :
    Calls Try.prog 5 #[u0, u1, u2] w (True_ w) := by
  obtain ⟨rfl, -⟩ := h0
  obtain ⟨rfl, -⟩ := h1
  obtain ⟨rfl, -⟩ := h2
  exact readable_core v0 v1 v2 _ _ w (and_16777215 v0) (and_16777215 v1) (mask_color v0).2.2 (mask_color v1).2.2
end Go.Proofs.Ytcjhefkipghloaa
