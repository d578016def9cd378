/- The reader's Range. -/
import Derived.Test.YtfcffmjmohkpoaaSrc
namespace Go.Proofs.Ytfcffmjmohkpoaa
open Go.RowKit
set_option linter.unusedVariables false
set_option linter.unusedSimpArgs false

set_option maxHeartbeats 400000 in
theorem srcRange_any (g : Nat) (lo hi : Int) (w : World) (hs : SrcOk w g) (h0 : -1000000000 ≤ lo) (h1 : lo ≤ hi) (h2 : hi ≤ 1000000000) :
    Calls Try.prog 17 #[.pointer (some ⟨g, 0, none⟩), .int .i64 lo, .int .i64 hi] w (SrcInt lo hi g w) := by
  go_enter Try.func17, Try.ntmps17
  go_wp2_with fail
  refine (srcN_any g _ _ hs (by omega) (by omega)).mono ?_
  rintro e w' ⟨z, hz0, hz1, rfl, hs', hg⟩
  have HS := Lib.hid hs'
  have HG := Lib.hid hg
  clear hs' hg hs
  go_wp2
  go_ret
  exact ⟨_, by omega, by omega, rfl, HS.out, HG.out⟩

end Go.Proofs.Ytfcffmjmohkpoaa
