/- Slices of structs of numbers: what it means that one reads as a list of records. -/
import Derived.Test.YtfcffmjmohkpoaaOpenRows
import Derived.Test.YtfcffmjmohkpoaaQuiet
import Derived.WalkSmall
namespace Go.Proofs.Ytfcffmjmohkpoaa
open Go.RowKit Go.ChangeShapes Go.WideShapes Go.ChangeAt Go.Deep

/-- A record: its numbers in the struct's order. -/
abbrev Rec := List Int
/-- Number j of record i. -/
def gf (l : List Rec) (i j : Nat) : Int := (l.getD i []).getD j 0

/-- The slice v reads as the list l of records of c numbers each. -/
def IsRecs (c : Nat) (w : World) (v : Value) (l : List Rec) : Prop :=
  ∃ a cap, v = .slice a l.length cap ∧ l.length ≤ cap ∧ cap ≤ maxLen ∧
    (0 < l.length → ∃ b off, a = some ⟨b, off, none⟩ ∧ b < w.heap.size ∧ ∀ i, i < l.length → ∀ j, j < c → w.cell? ⟨b, off + i * c + j, none⟩ = some (.int .i64 (gf l i j)))

theorem IsRecs.nil (c : Nat) (w : World) : IsRecs c w (.slice none 0 0) [] := ⟨none, 0, rfl, Nat.le_refl _, Nat.zero_le _, fun h => absurd h (Nat.lt_irrefl _)⟩
theorem IsRecs.of_below {c : Nat} {w w' : World} {v : Value} {l : List Rec} (h : IsRecs c w v l) (hb : Below w.heap.size w w') : IsRecs c w' v l := by
  obtain ⟨a, cap, hv, h1, h2, h3⟩ := h
  refine ⟨a, cap, hv, h1, h2, fun hp => ?_⟩
  obtain ⟨b, off, ha, hlt, hc⟩ := h3 hp
  exact ⟨b, off, ha, Nat.lt_of_lt_of_le hlt hb.size, fun i hi j hj => (hb.cell (p := ⟨b, off + i * c + j, none⟩) hlt).trans (hc i hi j hj)⟩

/-- The cells of a list of records. -/
def recCells (l : List Rec) : List Value := l.flatMap fun r => r.map (Value.int .i64)
theorem recCells_append (a b : List Rec) : recCells (a ++ b) = recCells a ++ recCells b := by simp [recCells]
def wide (c : Nat) (l : List Rec) : Prop := ∀ r ∈ l, r.length = c
theorem recCells_at {c : Nat} (l : List Rec) (h : wide c l) : ∀ i, i < l.length → ∀ j, j < c → (recCells l)[i * c + j]? = some (.int .i64 (gf l i j)) := by
  induction l with
  | nil => intro i h; simp at h
  | cons s t ih =>
    intro i hi j hj
    have hs : s.length = c := h s (by simp)
    have e : recCells (s :: t) = s.map (Value.int .i64) ++ recCells t := rfl
    rw [e]
    cases i with
    | zero =>
      rw [List.getElem?_append_left (by simp; omega)]
      have : j < s.length := by omega
      simp [gf, this]
    | succ i =>
      have e1 : (i + 1) * c + j = s.length + (i * c + j) := by rw [hs, Nat.add_mul]; omega
      rw [e1, List.getElem?_append_right (by simp)]
      have e2 : s.length + (i * c + j) - (s.map (Value.int .i64)).length = i * c + j := by simp
      rw [e2, ih (fun r hr => h r (by simp [hr])) i (by simpa using hi) j hj]
      simp [gf]

theorem ownsRow_isRecs {c : Nat} {w : World} {base e : Nat} {v : Value} {n : Nat} {l : List Rec} (h : w.ownsRow base e c v n (recCells l)) (hn : n = l.length) (hw : wide c l) : IsRecs c w v l := by
  subst hn
  obtain ⟨h1, h2⟩ := h
  rcases h2 with ⟨rfl, h0⟩ | ⟨g, cap, cur, rfl, _, hg, hcp, hm, hsz, htake⟩
  · exact ⟨none, 0, by rw [h0], by omega, by unfold maxLen; simp, fun hp => by omega⟩
  · refine ⟨_, cap, rfl, hcp, hm, fun _ => ⟨g, 0, rfl, lt_of_block hg, fun i hi j hj => ?_⟩⟩
    have := recCells_at l hw i hi j hj
    rw [← htake] at this
    have hlt : i * c + j < l.length * c := by
      have : (i + 1) * c ≤ l.length * c := Nat.mul_le_mul_right c hi
      rw [Nat.add_mul] at this; omega
    rw [List.getElem?_take, if_pos hlt] at this
    simp only [Array.getElem?_toList] at this
    rw [cell_of_row w g _ cur e (0, 0) hg]
    simpa using this

/-- Records that came in: each number fits an int. -/
def InRecs (c : Nat) (w : World) (v : Value) (l : List Rec) : Prop := IsRecs c w v l ∧ ∀ i j, -9223372036854775808 ≤ gf l i j ∧ gf l i j ≤ 9223372036854775807

section
variable {H : Type} {enc : TypeId × Value → H} {W : World} {base : Nat} {v : Value} {d : DataW H} {p : List MemPlace}
theorem shape_rec {e c : Nat} {fs : Array Field} (he : Try.prog.underlying e = some (.struct fs)) (hfs : ∀ j, j < c → ∃ f, fs[j]? = some f ∧ f.type = 3 ∧ f.offset = j) (hce : Try.prog.cellsOf e = c)
    (n : Nat) (cs : List Value) (x : DataW H × List MemPlace) (h : DataW.trod enc Try.prog W 0 (fun _ => true) true n e cs = some x) :
    ∃ r : Rec, cs = r.map (Value.int .i64) ∧ (r.length = c ∧ ∀ k ∈ r, -9223372036854775808 ≤ k ∧ k ≤ 9223372036854775807) := by
  obtain ⟨xs, m, _, _, hl, hxs, hf⟩ := DataW.trod_struct he h
  rw [hce] at hl
  have c1 : Try.prog.cellsOf 3 = 1 := by kernel_rfl
  have each : ∀ j, j < c → ∃ k : Int, cs[j]? = some (.int .i64 k) ∧ -9223372036854775808 ≤ k ∧ k ≤ 9223372036854775807 := by
    intro j hj
    obtain ⟨f, h1, h2, h3⟩ := hfs j hj
    have hh := hf j f h1
    rw [h2, h3, c1] at hh
    have hsz : j < xs.length := by
      rw [hxs]; exact (Array.getElem?_eq_some_iff.1 h1).1
    rw [List.getElem?_eq_getElem hsz] at hh
    obtain ⟨k, e1, _, hk⟩ := DataW.trod_int Try.underlying3 hh
    refine ⟨k, ?_, bounds_i64 hk⟩
    have : ((cs.drop j).take 1)[0]? = some (.int .i64 k) := by rw [e1]; rfl
    simpa using this
  refine ⟨(List.range c).map fun j => intOf ((cs[j]?).getD undef), ?_, by simp, ?_⟩
  · apply List.ext_getElem?
    intro j
    by_cases hj : j < c
    · obtain ⟨k, e1, _⟩ := each j hj
      simp [hj, e1, intOf]
    · rw [List.getElem?_eq_none (by omega), List.getElem?_eq_none (by simp; omega)]
  · intro k hk
    obtain ⟨j, hj, rfl⟩ := List.mem_map.1 hk
    obtain ⟨k', e1, hb⟩ := each j (by simpa using hj)
    rw [e1]
    exact hb

theorem open_recs {t e c : Nat} {fs : Array Field} (ht : Try.prog.underlying t = some (.slice e)) (he : Try.prog.underlying e = some (.struct fs)) (hfs : ∀ j, j < c → ∃ f, fs[j]? = some f ∧ f.type = 3 ∧ f.offset = j)
    (hce : Try.prog.cellsOf e = c) (hc0 : 0 < c) (hok : Value.okWide Try.prog W .any base t v) (h : DataW.Trod enc Try.prog W 0 (fun _ => true) true t v d p) :
    ∃ l, InRecs c W v l := by
  obtain ⟨l, hl, a, cap, rfl, h1, h2, h3⟩ := open_rows (α := Rec) (fun r => r.map (Value.int .i64)) _ ht hce hc0 (shape_rec he hfs hce) hok h
  refine ⟨l, ⟨a, cap, rfl, h1, h2, fun hp => ?_⟩, fun i j => ?_⟩
  · obtain ⟨b, off, rfl, hlt, hcell⟩ := h3 hp
    refine ⟨b, off, rfl, hlt, fun i hi j hj => ?_⟩
    rw [hcell i hi j hj]
    have hr := (hl l[i] (List.getElem_mem hi)).1
    have : j < l[i].length := by omega
    simp [gf, hi, this]
  · by_cases hi : i < l.length
    · have hr := hl l[i] (List.getElem_mem hi)
      by_cases hj : j < l[i].length
      · have := hr.2 l[i][j] (List.getElem_mem hj)
        simpa [gf, hi, hj] using this
      · have : gf l i j = 0 := by simp [gf, hi, hj]
        omega
    · have : gf l i j = 0 := by simp [gf, hi]
      omega
end
end Go.Proofs.Ytfcffmjmohkpoaa
