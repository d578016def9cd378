/- The walk of the law GridTracksRaw. -/
import Derived.Test.YtadkkkdecejkeaaSame
import Derived.Test.YtadkkkdecejkeaaAwake19
import Derived.Test.YtadkkkdecejkeaaRecs
import Derived.Test.YtadkkkdecejkeaaOpen
namespace Go.Proofs.Ytadkkkdecejkeaa
open Go.RowKit Go.ChangeShapes Go.WideShapes Go.ChangeAt Go.Deep
set_option linter.unusedVariables false
set_option linter.unusedSimpArgs false

section
variable {H : Type} {enc : TypeId × Value → H} {W : World} {base : Nat} {v : Value} {d : DataW H} {p : List MemPlace}
theorem open_tracks (hok : Value.okWide Try.prog W .any base 22 v) (h : DataW.Trod enc Try.prog W 0 (fun _ => true) true 22 v d p) : ∃ l, InRecs 2 W v l :=
  open_recs Try.underlying22 Try.underlying42 (by
    intro j hj
    have h5 : j = 0 ∨ j = 1 := by omega
    rcases h5 with rfl | rfl <;> exact ⟨_, rfl, rfl, rfl⟩) (by kernel_rfl) (by omega) hok h
theorem open_items (hok : Value.okWide Try.prog W .any base 23 v) (h : DataW.Trod enc Try.prog W 0 (fun _ => true) true 23 v d p) : ∃ l, InRecs 4 W v l :=
  open_recs Try.underlying23 Try.underlying44 (by
    intro j hj
    have h5 : j = 0 ∨ j = 1 ∨ j = 2 ∨ j = 3 := by omega
    rcases h5 with rfl | rfl | rfl | rfl <;> exact ⟨_, rfl, rfl, rfl⟩) (by kernel_rfl) (by omega) hok h
end
set_option maxHeartbeats 8000000 in
set_option maxRecDepth 100000 in
theorem walk_GridTracksRaw (v0 : Value) (av : Int) (v1 : Value) (gp : Int) (v2 : Value) (l : List Rec) (v3 : Value) (it : List Rec) (w : World)
    (h0 : v0 = .int .i64 av ∧ (Lit.int .i64 av).wf = true) (h1 : v1 = .int .i64 gp ∧ (Lit.int .i64 gp).wf = true) (h2 : InRecs 2 w v2 l) (h3 : InRecs 4 w v3 it) :
    Calls Try.prog 3 #[v0, v1, v2, v3] w (True_ w) := by
  obtain ⟨rfl, -⟩ := h0
  obtain ⟨rfl, -⟩ := h1
  have HV := Lib.hid h2.1
  have HI := Lib.hid h3
  obtain ⟨⟨a, cap, rfl, m1, m2, -⟩, -⟩ := h2
  obtain ⟨⟨ia, icap, rfl, g1, g2, -⟩, -⟩ := h3
  unfold maxLen at m2 g2
  obtain ⟨n, hn⟩ : ∃ n, l.length = n := ⟨_, rfl⟩
  obtain ⟨q, hq⟩ : ∃ n, it.length = n := ⟨_, rfl⟩
  rw [hn] at m1 HV ⊢
  rw [hq] at g1 HI ⊢
  clear hn hq
  by_cases hl : 30 < n
  · have hl' : (30 : Int) < (n : Int) := by omega
    go_enter Try.func3, Try.ntmps3
    go_wp2
    go_ret
    exact ⟨rfl, Below.refl _ _⟩
  have hl1 : (n : Int) ≤ 30 := by omega
  by_cases hk : 110 < q
  · have hk' : (110 : Int) < (q : Int) := by omega
    go_enter Try.func3, Try.ntmps3
    go_wp2
    go_ret
    exact ⟨rfl, Below.refl _ _⟩
  have hk1 : (q : Int) ≤ 110 := by omega
  go_enter Try.func3, Try.ntmps3
  go_wp2_with fail
  refine (same_any _ _ av gp l it _ HV.out HI.out).mono ?_
  rintro e w1 ⟨rfl, hb1⟩
  go_wp2_with fail
  refine (awake_any _).mono ?_
  rintro e w2 ⟨rfl, hb2⟩
  go_wp2
  go_ret
  exact ⟨rfl, hb1.trans (hb2.mono hb1.size)⟩
end Go.Proofs.Ytadkkkdecejkeaa

