/- Sum of the reference. -/
import Derived.Test.YtadkkkdecejkeaaMem
import Derived.Test.YtadkkkdecejkeaaQuiet
import Derived.Test.YtadkkkdecejkeaaPlainB
namespace Go.Proofs.Ytadkkkdecejkeaa
open Go.RowKit
set_option linter.unusedVariables false
set_option linter.unusedSimpArgs false

set_option maxHeartbeats 2000000 in
theorem rsum_any (v : Value) (xs : List Int) (w : World) (hv : IsInts w v xs) (hb : ∀ k, k ≤ xs.length → -4611686018427387904 ≤ sumTo xs k ∧ sumTo xs k ≤ 4611686018427387904) :
    Calls Try.prog 17 #[v] w fun e w' => e = .returned (.int .i64 (sumTo xs xs.length)) ∧ w = w' := by
  obtain ⟨a, cap, rfl, h1, h2, h3⟩ := hv
  obtain ⟨n, hn⟩ : ∃ n, xs.length = n := ⟨_, rfl⟩
  rw [hn] at h1 h3 hb ⊢
  have H3 := Lib.hid h3
  have HB := Lib.hid hb
  unfold maxLen at h2
  clear h3 hb hn
  go_enter Try.func17, Try.ntmps17
  go_wp2
  go_loopw [3, 4] (fun s i wr => ∃ j : Nat, j ≤ n ∧ i = .int .i64 j ∧ s = .int .i64 (sumTo xs j) ∧ wr = w) (fun _ i _ => n - (intOf i).toNat)
  case atStart => exact ⟨0, Nat.zero_le _, rfl, rfl, rfl⟩
  case round =>
    obtain ⟨j, hj, rfl, rfl, rfl⟩ := hrel
    by_cases hjn : j < n
    · obtain ⟨b, off, rfl, hlt, hc⟩ := H3.out (by omega)
      have c := hc j hjn
      have b0 := HB.out j hj
      have b1 := HB.out (j + 1) hjn
      have hs : sumTo xs (j + 1) = sumTo xs j + gz xs j := rfl
      have hw : IntKind.i64.wrap (sumTo xs j + gz xs j) = sumTo xs (j + 1) := by rw [hs]; exact IntWalk.i64_in _ (by omega)
      have hjn' : (j : Int) < (n : Int) := by omega
      clear hc hs
      go_wp2
      go_roundw
      case rel => exact ⟨j + 1, by omega, by go_num, by first | rfl | rw [hw], by first | rfl | trivial⟩
      case measure => simp [intOf]; omega
    · obtain rfl : j = n := by omega
      go_wp2
      go_ret
      exact ⟨rfl, rfl⟩
end Go.Proofs.Ytadkkkdecejkeaa
