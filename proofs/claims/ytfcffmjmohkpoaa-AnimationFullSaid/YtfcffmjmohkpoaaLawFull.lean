/- The walk of the law AnimationFull at arguments that came in. -/
import Derived.Test.YtfcffmjmohkpoaaFullW
namespace Go.Proofs.Ytfcffmjmohkpoaa
open Go.RowKit Go.ChangeShapes Go.WideShapes Go.ChangeAt
theorem open_U8 {H : Type} {enc : TypeId × Value → H} {W : World} {base : Nat} {v : Value} {d : DataW H} {p : List MemPlace} (hok : Value.okWide Try.prog W .any base 5 v) (h : DataW.Trod enc Try.prog W 0 (fun _ => true) true 5 v d p) : ∃ x, v = .int .u8 x ∧ (Lit.int .u8 x).wf = true := by
  obtain ⟨a, rfl, rfl, rfl, w⟩ := Go.ChangeShapes.open_int Try.underlying5 hok h
  exact ⟨a, rfl, w⟩
theorem walk_AnimationFull (u : Value) (x : Int) (w : World) (h0 : u = .int .u8 x ∧ (Lit.int .u8 x).wf = true) :
    Calls Try.prog 10 #[u] w (True_ w) := by
  obtain ⟨rfl, w1⟩ := h0
  have b1 := bounds_u8 w1
  obtain ⟨n, rfl⟩ := Int.eq_ofNat_of_zero_le b1.1
  exact full_core n w (by omega)
end Go.Proofs.Ytfcffmjmohkpoaa
