/- Rows that came in. -/
import Derived.Test.YtchlnelpgjjmgaaOpenRows
import Derived.Test.YtchlnelpgjjmgaaStrips
import Derived.ChangeSame
namespace Go.Proofs.Ytchlnelpgjjmgaa
open Go.RowKit Go.ChangeShapes Go.WideShapes Go.ChangeAt Go.Deep

/-- Rows that came in: each height fits an int, each key its length. -/
def InStrips (w : World) (v : Value) (l : List Strip) : Prop := IsStrips w v l ∧ (∀ s ∈ l, -9223372036854775808 ≤ s.2 ∧ s.2 ≤ 9223372036854775807 ∧ s.1.size ≤ maxLen)

section
variable {H : Type} {enc : TypeId × Value → H} {W : World} {base : Nat} {v : Value} {d : DataW H} {p : List MemPlace}
theorem shape_strip (n : Nat) (cs : List Value) (x : DataW H × List MemPlace) (h : DataW.trod enc Try.prog W 0 (fun _ => true) true n 32 cs = some x) :
    ∃ s : Strip, cs = [.string s.1, .int .i64 s.2] ∧ (-9223372036854775808 ≤ s.2 ∧ s.2 ≤ 9223372036854775807 ∧ s.1.size ≤ maxLen) := by
  obtain ⟨y0, y1, m, _, hl, h0, h1⟩ := trod_struct2 Try.underlying32 h
  have hc : Try.prog.cellsOf 32 = 2 := by kernel_rfl
  have c0 : Try.prog.cellsOf 9 = 1 := by kernel_rfl
  have c1 : Try.prog.cellsOf 3 = 1 := by kernel_rfl
  rw [hc] at hl
  match cs, hl with
  | [a, b], _ =>
    simp only [c0, c1, List.drop_zero, List.take_succ_cons, List.take_zero, List.drop_succ_cons] at h0 h1
    obtain ⟨s, e0, _, hs⟩ := DataW.trod_string Try.underlying9 h0
    obtain ⟨k, e1, _, hk⟩ := DataW.trod_int Try.underlying3 h1
    simp at e0 e1
    subst e0 e1
    have := bounds_i64 hk
    exact ⟨(s, k), rfl, by omega, by omega, hs⟩

theorem open_strips (hok : Value.okWide Try.prog W .any base 27 v) (h : DataW.Trod enc Try.prog W 0 (fun _ => true) true 27 v d p) : ∃ l, InStrips W v l := by
  obtain ⟨l, hl, a, cap, rfl, h1, h2, h3⟩ := open_rows (α := Strip) (fun s => [.string s.1, .int .i64 s.2]) _ Try.underlying27 (c := 2) (by kernel_rfl) (by omega) shape_strip hok h
  refine ⟨l, ⟨a, cap, rfl, h1, h2, fun hp => ?_⟩, hl⟩
  obtain ⟨b, off, rfl, hlt, hc⟩ := h3 hp
  refine ⟨b, off, rfl, hlt, fun i hi => ⟨?_, ?_⟩⟩
  · have := hc i hi 0 (by omega)
    rw [Nat.add_zero] at this
    rw [this]
    simp [gk, hi]
  · have := hc i hi 1 (by omega)
    rw [this]
    simp [gh, hi]
end
end Go.Proofs.Ytchlnelpgjjmgaa
