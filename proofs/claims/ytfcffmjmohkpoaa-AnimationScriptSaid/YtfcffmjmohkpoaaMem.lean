/- Memory: what it means that a slice of numbers reads as a list, and that a block of the call's own holds a list. -/
import Derived.Test.YtfcffmjmohkpoaaRows
import Derived.Test.YtfcffmjmohkpoaaPlain
import Derived.WalkKit
import Derived.WalkSpells
import Derived.WalkLawsBesides
import Derived.Lib.Hide
namespace Go.Proofs.Ytfcffmjmohkpoaa
open Go.RowKit

/-- The slice v reads as the list xs of numbers. -/
def IsInts (w : World) (v : Value) (xs : List Int) : Prop :=
  ∃ a cap, v = .slice a xs.length cap ∧ xs.length ≤ cap ∧ cap ≤ maxLen ∧
    (0 < xs.length → ∃ b off, a = some ⟨b, off, none⟩ ∧ b < w.heap.size ∧ ∀ i, i < xs.length → w.cell? ⟨b, off + i, none⟩ = some (.int .i64 (gz xs i)))

theorem IsInts.nil (w : World) : IsInts w (.slice none 0 0) [] := ⟨none, 0, rfl, Nat.le_refl _, Nat.zero_le _, fun h => absurd h (Nat.lt_irrefl _)⟩
theorem IsInts.of_below {w w' : World} {v : Value} {xs : List Int} (h : IsInts w v xs) (hb : Below w.heap.size w w') : IsInts w' v xs := by
  obtain ⟨a, cap, hv, h1, h2, h3⟩ := h
  refine ⟨a, cap, hv, h1, h2, fun hp => ?_⟩
  obtain ⟨b, off, ha, hlt, hc⟩ := h3 hp
  exact ⟨b, off, ha, Nat.lt_of_lt_of_le hlt hb.size, fun i hi => (hb.cell (p := ⟨b, off + i, none⟩) hlt).trans (hc i hi)⟩

/-- Block g, made by the call, holds just the numbers xs. -/
def OwnI (w : World) (g : Nat) (xs : List Int) : Prop := w.heap[g]? = some (.cells ((xs.map (Value.int .i64)).toArray) 3 (0, 0))

section
variable {w : World} {g : Nat} {xs : List Int}
theorem OwnI.lt (h : OwnI w g xs) : g < w.heap.size := lt_of_block h
theorem OwnI.cell (h : OwnI w g xs) {i : Nat} (hi : i < xs.length) : w.cell? ⟨g, i, none⟩ = some (.int .i64 (gz xs i)) := by
  unfold OwnI at h
  simp [World.cell?, h, hi, gz]
theorem OwnI.free (h : OwnI w g xs) (i : Nat) : w.frozen? ⟨g, i, none⟩ = false := by
  unfold OwnI at h
  simp [World.frozen?, h]
theorem OwnI.set (h : OwnI w g xs) (i : Nat) (x : Int) : OwnI (w.setCell ⟨g, i, none⟩ (.int .i64 x)) g (xs.set i x) := by
  unfold OwnI at h ⊢
  simp [World.setCell, h, Array.getElem?_modify, List.map_set]
theorem OwnI.set_other (h : OwnI w g xs) {g' : Nat} (hg : g' ≠ g) (i : Nat) (v : Value) : OwnI (w.setCell ⟨g', i, none⟩ v) g xs := by
  unfold OwnI at h ⊢
  rw [Below.heap_setCell _ _ _ _ (by simpa using fun e => hg e.symm)]
  exact h
theorem OwnI.alloc (h : OwnI w g xs) (o : Obj) : OwnI (w.alloc o) g xs := by
  have := h.lt
  unfold OwnI at h ⊢
  rw [Below.heap_alloc _ _ _ this]; exact h
theorem OwnI.drewN (h : OwnI w g xs) (n : Nat) : OwnI (w.drewN n) g xs := h
theorem OwnI.drew (h : OwnI w g xs) : OwnI w.drew g xs := h
theorem OwnI.of_below {w' : World} {B : Nat} (h : OwnI w g xs) (hb : Below B w w') (hg : g < B) : OwnI w' g xs := by
  unfold OwnI at h ⊢
  rw [hb.block g hg]; exact h
theorem OwnI.made (w : World) (n : Nat) : OwnI (w.alloc (.cells (madeCells #[.int .i64 0] n) 3)) w.heap.size (List.replicate n 0) := by
  unfold OwnI
  have e : madeCells #[Value.int .i64 0] n = ((List.replicate n (0 : Int)).map (Value.int .i64)).toArray := by
    apply Array.toList_inj.1
    rw [toList_madeCells_one]; simp
  rw [e]
  exact heap_alloc_new w _
theorem OwnI.isInts (h : OwnI w g xs) (hm : xs.length ≤ maxLen) : IsInts w (.slice (some ⟨g, 0, none⟩) xs.length xs.length) xs :=
  ⟨_, _, rfl, Nat.le_refl _, hm, fun _ => ⟨g, 0, rfl, h.lt, fun i hi => by rw [Nat.zero_add]; exact h.cell hi⟩⟩
end

theorem info_int : (Try.prog.info? 3).map (fun i => (i.zero, i.size, i.bytes)) = some (some (.int .i64 0), 1, 8) := by kernel_rfl

/-- make([]int, n). -/
theorem make_ints (n : Nat) (hn : n ≤ 1000000) (w : World) :
    (Instr.makeSlice 24 (.int .i64 (n : Int)) (.int .i64 (n : Int))).run Try.prog w = .ok (.slice (some ⟨w.heap.size, 0, none⟩) n n) (w.alloc (.cells (madeCells #[.int .i64 0] n) 3)) := by
  obtain ⟨i, hi, hz, hs, hb⟩ := info_parts info_int
  have := run_make (P := Try.prog) w 24 3 i _ Try.underlying24 hi hz .i64 .i64 n n (by omega) (Int.le_refl _) (by rw [hb]; omega) (by omega)
  rw [hs] at this
  simpa [Value.cells] using this

theorem drewN_size (w : World) (n : Nat) : (w.drewN n).heap.size = w.heap.size := rfl
end Go.Proofs.Ytfcffmjmohkpoaa
