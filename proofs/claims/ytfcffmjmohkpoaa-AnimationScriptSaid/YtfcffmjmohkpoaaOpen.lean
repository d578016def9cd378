/- From the form's readings of the arguments to what the walks take. -/
import Derived.Test.YtfcffmjmohkpoaaMem
import Derived.ProofKit
import Derived.OpenShut
import Derived.ChangeOld
namespace Go.Proofs.Ytfcffmjmohkpoaa
open Go.RowKit Go.ChangeShapes Go.WideShapes Go.ChangeAt

section
variable {H : Type} {enc : TypeId × Value → H} {W : World} {base : Nat} {v : Value} {d : DataW H} {p : List MemPlace}

theorem open_I64 (hok : Value.okWide Try.prog W .any base 3 v) (h : DataW.Trod enc Try.prog W 0 (fun _ => true) true 3 v d p) : ∃ x, v = .int .i64 x ∧ (Lit.int .i64 x).wf = true := by
  obtain ⟨a, rfl, rfl, rfl, w⟩ := open_int Try.underlying3 hok h
  exact ⟨a, rfl, w⟩
theorem open_B (hok : Value.okWide Try.prog W .any base 4 v) (h : DataW.Trod enc Try.prog W 0 (fun _ => true) true 4 v d p) : ∃ x : Bool, v = .bool x := by
  obtain ⟨a, rfl, rfl, rfl⟩ := open_bool Try.underlying4 hok h
  exact ⟨a, rfl⟩
/-- What a list of numbers that came in gives: it reads as xs, and each number fits an int. -/
def InInts (w : World) (v : Value) (xs : List Int) : Prop := IsInts w v xs ∧ ∀ k, -9223372036854775808 ≤ gz xs k ∧ gz xs k ≤ 9223372036854775807
theorem open_isInts (hok : Value.okWide Try.prog W .any base 24 v) (h : DataW.Trod enc Try.prog W 0 (fun _ => true) true 24 v d p) :
    ∃ xs, InInts W v xs := by
  obtain ⟨a, len, cap, rfl⟩ := okWide_slice Try.underlying24 hok
  obtain ⟨fuel, hf⟩ := h
  rcases open_ints Try.underlying24 Try.underlying3 (by kernel_rfl) hf with ⟨hcs, _⟩ | ⟨x, l, c, zs, hcs, _, hl, hm, hz, _, hcell, hwz⟩
  · simp [Value.cells] at hcs
    obtain ⟨rfl, rfl, rfl⟩ := hcs
    exact ⟨[], IsInts.nil W, fun k => by simp [gz]⟩
  · simp [Value.cells] at hcs
    obtain ⟨rfl, rfl, rfl⟩ := hcs
    simp at hz
    have hlen : (zs.take len).length = len := by simp; omega
    have hg : ∀ i, i < len → gz (zs.take len) i = zs.getD i 0 := fun i hi => by simp [gz, hi]
    refine ⟨zs.take len, ⟨some x, cap, by rw [hlen], by omega, hm, fun hp => ?_⟩, fun k => ?_⟩
    · rw [hlen] at hp
      have h0 := hcell 0 (by omega)
      obtain ⟨b, off, spot⟩ := x
      have hspot : spot = none := by simpa [Addr.add] using World.cell?_spot h0
      subst hspot
      refine ⟨b, off, rfl, ?_, fun i hi => ?_⟩
      · have := World.block_lt_of_cell? W _ h0
        simpa [Addr.add] using this
      · rw [hlen] at hi
        have := hcell i (by omega)
        rw [hg i hi]
        have e : (⟨b, off, none⟩ : Addr).add i = ⟨b, off + i, none⟩ := by unfold Addr.add; split <;> simp_all
        rwa [e] at this
    · by_cases hk : k < len
      · rw [hg k hk]
        have hk2 : k < zs.length := by omega
        have : zs.getD k 0 ∈ zs := by simp [hk2]
        exact bounds_i64 (hwz _ this)
      · have : gz (zs.take len) k = 0 := by simp [gz, List.getElem?_take, hk]
        rw [this]; omega
end
end Go.Proofs.Ytfcffmjmohkpoaa
