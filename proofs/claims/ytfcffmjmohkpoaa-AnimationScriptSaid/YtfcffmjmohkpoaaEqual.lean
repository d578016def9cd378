/- Equal and EqualMotions of the reference, at two slices that read alike; spring of the law's package. -/
import Derived.Test.YtfcffmjmohkpoaaAnims
import Derived.Test.YtfcffmjmohkpoaaSrcR
namespace Go.Proofs.Ytfcffmjmohkpoaa
open Go.RowKit
set_option linter.unusedVariables false
set_option linter.unusedSimpArgs false

set_option maxHeartbeats 4000000 in
set_option maxRecDepth 100000 in
theorem equal_same (v u : Value) (l : List Anim) (w : World) (hv : IsAnims w v l) (hu : IsAnims w u l) :
    Calls Try.prog 31 #[v, u] w (Quiet (.bool true) w) := by
  obtain ⟨a, cap, rfl, h1, h2, h3⟩ := hv.open_
  obtain ⟨b, cap', rfl, k1, k2, k3⟩ := hu.open_
  obtain ⟨n, hn⟩ : ∃ n, l.length = n := ⟨_, rfl⟩
  rw [hn] at h1 h3 k1 k3 ⊢
  have H3 := Lib.hid h3
  have K3 := Lib.hid k3
  unfold maxLen at h2 k2
  clear h3 k3 hn hv hu
  go_enter Try.func31, Try.ntmps31
  go_wp2_with fail
  go_loopw [5] (fun i wr => ∃ k d : Nat, k ≤ n ∧ i = .int .i64 k ∧ wr = w.drewN d) (fun i _ => n - (intOf i).toNat)
  case atStart => exact ⟨0, 0, Nat.zero_le _, rfl, rfl⟩
  case round =>
    obtain ⟨k, d, hk, rfl, rfl⟩ := hrel
    by_cases hkn : k < n
    · as_aux_lemma =>
      obtain ⟨b1, o1, rfl, -, c1⟩ := H3.out (by omega)
      obtain ⟨b2, o2, rfl, -, c2⟩ := K3.out (by omega)
      have x := c1 k hkn
      have y := c2 k hkn
      obtain ⟨g, hg⟩ : ∃ g, ga l k = g := ⟨_, rfl⟩
      rw [hg] at x y
      obtain ⟨q0, q1, q2, q3, q4, q5, q6, q7, q8, q9, q10, q11, q12, q13, q14, q15⟩ := g
      obtain ⟨x0, x1, x2, x3, x4, x5, x6, x7, x8, x9, x10, x11, x12, x13, x14, x15⟩ := x
      obtain ⟨y0, y1, y2, y3, y4, y5, y6, y7, y8, y9, y10, y11, y12, y13, y14, y15⟩ := y
      simp only at x0 x1 x2 x3 x4 x5 x6 x7 x8 x9 x10 x11 x12 x13 x14 x15 y0 y1 y2 y3 y4 y5 y6 y7 y8 y9 y10 y11 y12 y13 y14 y15
      have hkn' : (k : Int) < (n : Int) := by omega
      clear c1 c2 hg
      go_wp2_with fail
      go_quiet (fail)
      go_wp2
      go_roundw
      case rel => exact ⟨k + 1, _, by omega, by go_num, rfl⟩
      case measure => simp [intOf]; omega
    · obtain rfl : k = n := by omega
      go_wp2
      go_ret
      exact ⟨rfl, _, rfl⟩
end Go.Proofs.Ytfcffmjmohkpoaa
