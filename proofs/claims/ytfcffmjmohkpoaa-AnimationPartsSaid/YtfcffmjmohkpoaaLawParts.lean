/- The walk of the law AnimationParts at arguments that came in. -/
import Derived.Test.YtfcffmjmohkpoaaPartsW
namespace Go.Proofs.Ytfcffmjmohkpoaa
open Go.RowKit Go.ChangeShapes Go.WideShapes Go.ChangeAt
theorem open_U16 {H : Type} {enc : TypeId × Value → H} {W : World} {base : Nat} {v : Value} {d : DataW H} {p : List MemPlace} (hok : Value.okWide Try.prog W .any base 35 v) (h : DataW.Trod enc Try.prog W 0 (fun _ => true) true 35 v d p) : ∃ x, v = .int .u16 x ∧ (Lit.int .u16 x).wf = true := by
  obtain ⟨a, rfl, rfl, rfl, w⟩ := Go.ChangeShapes.open_int Try.underlying35 hok h
  exact ⟨a, rfl, w⟩
theorem walk_AnimationParts (u0 : Value) (l : List Int) (u1 : Value) (v1 : Int) (u2 : Value) (v2 : Int) (w : World) (h0 : InInts w u0 l) (h1 : u1 = .int .u16 v1 ∧ (Lit.int .u16 v1).wf = true) (h2 : u2 = .int .u16 v2 ∧ (Lit.int .u16 v2).wf = true) :
    Calls Try.prog 7 #[u0, u1, u2] w (True_ w) := by
  obtain ⟨rfl, w1⟩ := h1
  obtain ⟨rfl, w2⟩ := h2
  have b1 := bounds_u16 w1
  have b2 := bounds_u16 w2
  exact parts_core u0 l v1 v2 (by omega) (by omega) w h0
end Go.Proofs.Ytfcffmjmohkpoaa
