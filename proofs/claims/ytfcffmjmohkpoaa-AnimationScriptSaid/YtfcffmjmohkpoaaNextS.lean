/- next of a spring (printed by wip/gen_anim4.py). -/
import Derived.Test.YtfcffmjmohkpoaaNextS1
import Derived.Test.YtfcffmjmohkpoaaNextS2
import Derived.Test.YtfcffmjmohkpoaaNextS3
namespace Go.Proofs.Ytfcffmjmohkpoaa
open Go.RowKit
set_option linter.unusedVariables false
set_option linter.unusedSimpArgs false

theorem next_spring (n p f t s du x1 y1 x2 y2 st da x v nw now : Int) (X : Int × Int) (w : World) (hs0 : 0 ≤ s) (hs1 : s ≤ 1099511627776) (hn0 : 0 ≤ now) (hn1 : now ≤ 1099511627776) (ht0 : -1048576 ≤ t) (ht1 : t ≤ 1048576) (hw0 : 0 ≤ nw) (hw1 : nw ≤ 1099511627776) (HX : Hid ((⟨n, p, 2, f, t, s, du, x1, y1, x2, y2, st, da, x, v, nw⟩ : Anim).state now = X)) :
    Calls Try.prog 57 #[.agg #[.int .i64 n, .int .i64 p, .int .i64 2, .int .i64 f, .int .i64 t, .int .i64 s, .int .i64 du, .int .i64 x1, .int .i64 y1, .int .i64 x2, .int .i64 y2, .int .i64 st, .int .i64 da, .int .i64 x, .int .i64 v, .int .i64 nw], .int .i64 now] w (GivesV (.tuple #[.agg #[.int .i64 n, .int .i64 p, .int .i64 2, .int .i64 f, .int .i64 t, .int .i64 s, .int .i64 du, .int .i64 x1, .int .i64 y1, .int .i64 x2, .int .i64 y2, .int .i64 st, .int .i64 da, .int .i64 X.1, .int .i64 X.2, .int .i64 now], .bool (!(decide (X.1 = 65536 * t) && decide (X.2 = 0)))]) w) := by
  obtain ⟨X1, X2⟩ := X
  by_cases h1 : X1 = 65536 * t
  · by_cases h2 : X2 = 0
    · exact next_s1 n p f t s du x1 y1 x2 y2 st da x v nw now X1 X2 w hs0 hs1 hn0 hn1 ht0 ht1 hw0 hw1 HX h1 h2
    · exact next_s2 n p f t s du x1 y1 x2 y2 st da x v nw now X1 X2 w hs0 hs1 hn0 hn1 ht0 ht1 hw0 hw1 HX h1 h2
  · exact next_s3 n p f t s du x1 y1 x2 y2 st da x v nw now X1 X2 w hs0 hs1 hn0 hn1 ht0 ht1 hw0 hw1 HX h1
end Go.Proofs.Ytfcffmjmohkpoaa
