/- A slice of structs that came in: its cells, row by row. -/
import Derived.Test.YtfcffmjmohkpoaaOpen
import Derived.Deep.Slices
namespace Go.Proofs.Ytfcffmjmohkpoaa
open Go.RowKit Go.ChangeShapes Go.WideShapes Go.ChangeAt Go.Deep

section
variable {H : Type} {enc : TypeId × Value → H} {W : World} {base : Nat} {v : Value} {d : DataW H} {p : List MemPlace}

theorem open_rows_form {α : Type} [Inhabited α] (cells : α → List Value) (Pr : α → Prop) {t e : TypeId} {c : Nat} (ht : Try.prog.underlying t = some (.slice e)) (hce : Try.prog.cellsOf e = c) (hc0 : 0 < c)
    (shape : ∀ n cs x, DataW.trod enc Try.prog W 0 (fun _ => true) true n e cs = some x → ∃ s, cs = cells s ∧ Pr s)
    (hform : ∃ a len cap, v = .slice a len cap) (h : DataW.Trod enc Try.prog W 0 (fun _ => true) true t v d p) :
    ∃ l : List α, (∀ s ∈ l, Pr s) ∧ ∃ a cap, v = .slice a l.length cap ∧ l.length ≤ cap ∧ cap ≤ maxLen ∧
      (0 < l.length → ∃ b off, a = some ⟨b, off, none⟩ ∧ b < W.heap.size ∧ ∀ i, i < l.length → ∀ j, j < c → W.cell? ⟨b, off + i * c + j, none⟩ = (cells (l.getD i default))[j]?) := by
  obtain ⟨a, len, cap, rfl⟩ := hform
  obtain ⟨fuel, hf⟩ := h
  rcases open_slice ht hf with ⟨hcs, _⟩ | ⟨a', len', cap', m, n, D, Pl, hcs, _, hl, hm, hmm, _, hx⟩
  · simp [Value.cells] at hcs
    obtain ⟨rfl, rfl, rfl⟩ := hcs
    exact ⟨[], by simp, none, 0, rfl, Nat.le_refl _, Nat.zero_le _, fun h => absurd h (Nat.lt_irrefl _)⟩
  · simp [Value.cells] at hcs
    obtain ⟨rfl, rfl, rfl⟩ := hcs
    simp at hmm
    subst hmm
    obtain ⟨f, hfn⟩ := choose_lt (α := α) (n := len) (p := fun i s => W.cells? 0 (a'.add (i * Try.prog.cellsOf e)) (Try.prog.cellsOf e) = some (cells s) ∧ Pr s) (fun i hi => by
      obtain ⟨cs, h1, h2⟩ := hx i (by omega)
      obtain ⟨s, rfl, hs⟩ := shape _ _ _ h2
      exact ⟨s, h1, hs⟩)
    have hlen : ((List.range len).map f).length = len := by simp
    have hget : ∀ i, i < len → ((List.range len).map f).getD i default = f i := fun i hi => by simp [hi]
    refine ⟨(List.range len).map f, ?_, some a', m, by rw [hlen], by rw [hlen]; exact hl, hm, fun hp => ?_⟩
    · intro s hs
      obtain ⟨i, hi, rfl⟩ := List.mem_map.1 hs
      exact (hfn i (by simpa using hi)).2
    · rw [hlen] at hp ⊢
      obtain ⟨b, off, spot⟩ := a'
      have h0 := (hfn 0 hp).1
      rw [hce] at h0
      obtain ⟨_, hl0, hc'⟩ := World.cells?_some h0
      have h00 := hc' 0 hc0
      have hsome : ∃ u, (cells (f 0))[0]? = some u := ⟨_, List.getElem?_eq_getElem (by omega)⟩
      obtain ⟨u, hu⟩ := hsome
      rw [hu] at h00
      simp only [Nat.zero_mul] at h00
      have e0 : ((⟨b, off, spot⟩ : Addr).add 0).add 0 = ⟨b, off, spot⟩ := by simp [Addr.add]
      rw [e0] at h00
      have hspot : spot = none := World.cell?_spot h00
      subst hspot
      refine ⟨b, off, rfl, World.block_lt_of_cell? W _ h00, fun i hi j hj => ?_⟩
      rw [hget i hi]
      have hi' := (hfn i hi).1
      rw [hce] at hi'
      have := (World.cells?_some hi').2.2 j hj
      rw [← this]
      congr 1
      unfold Addr.add
      split <;> split <;> simp_all

theorem open_rows {α : Type} [Inhabited α] (cells : α → List Value) (Pr : α → Prop) {t e : TypeId} {c : Nat} (ht : Try.prog.underlying t = some (.slice e)) (hce : Try.prog.cellsOf e = c) (hc0 : 0 < c)
    (shape : ∀ n cs x, DataW.trod enc Try.prog W 0 (fun _ => true) true n e cs = some x → ∃ s, cs = cells s ∧ Pr s)
    (hok : Value.okWide Try.prog W .any base t v) (h : DataW.Trod enc Try.prog W 0 (fun _ => true) true t v d p) :
    ∃ l : List α, (∀ s ∈ l, Pr s) ∧ ∃ a cap, v = .slice a l.length cap ∧ l.length ≤ cap ∧ cap ≤ maxLen ∧
      (0 < l.length → ∃ b off, a = some ⟨b, off, none⟩ ∧ b < W.heap.size ∧ ∀ i, i < l.length → ∀ j, j < c → W.cell? ⟨b, off + i * c + j, none⟩ = (cells (l.getD i default))[j]?) :=
  open_rows_form cells Pr ht hce hc0 shape (okWide_slice ht hok) h
end
end Go.Proofs.Ytfcffmjmohkpoaa
