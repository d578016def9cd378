/- A row in the middle of Resolve: its block, its sizes, what is frozen; clamp of a row; slices.Contains over bools. -/
import Derived.Test.YtadkkkdecejkeaaBoxValid
import Derived.Test.YtadkkkdecejkeaaClampP
import Derived.WalkSmall
namespace Go.Proofs.Ytadkkkdecejkeaa
open Go.RowKit
set_option linter.unusedVariables false
set_option linter.unusedSimpArgs false

/-- Block g, made by the call, holds just the bools f. -/
def OwnB (w : World) (g : Nat) (f : List Bool) : Prop := w.heap[g]? = some (.cells ((f.map Value.bool).toArray) 4 (0, 0))
section
variable {w : World} {g : Nat} {f : List Bool}
theorem OwnB.lt (h : OwnB w g f) : g < w.heap.size := lt_of_block h
theorem OwnB.cell (h : OwnB w g f) {i : Nat} (hi : i < f.length) : w.cell? ⟨g, i, none⟩ = some (.bool (gb f i)) := by
  unfold OwnB at h
  simp [World.cell?, h, hi, gb]
theorem OwnB.free (h : OwnB w g f) (i : Nat) : w.frozen? ⟨g, i, none⟩ = false := by
  unfold OwnB at h
  simp [World.frozen?, h]
theorem OwnB.set (h : OwnB w g f) (i : Nat) (x : Bool) : OwnB (w.setCell ⟨g, i, none⟩ (.bool x)) g (f.set i x) := by
  unfold OwnB at h ⊢
  simp [World.setCell, h, Array.getElem?_modify, List.map_set]
theorem OwnB.set_other (h : OwnB w g f) {g' : Nat} (hg : g' ≠ g) (i : Nat) (v : Value) : OwnB (w.setCell ⟨g', i, none⟩ v) g f := by
  unfold OwnB at h ⊢
  rw [Below.heap_setCell _ _ _ _ (by simpa using fun e => hg e.symm)]
  exact h
theorem OwnB.alloc (h : OwnB w g f) (o : Obj) : OwnB (w.alloc o) g f := by
  have := h.lt
  unfold OwnB at h ⊢
  rw [Below.heap_alloc _ _ _ this]; exact h
theorem OwnB.of_below {w' : World} {B : Nat} (h : OwnB w g f) (hb : Below B w w') (hg : g < B) : OwnB w' g f := by
  unfold OwnB at h ⊢
  rw [hb.block g hg]; exact h
theorem OwnB.made (w : World) (n : Nat) : OwnB (w.alloc (.cells (madeCells #[.bool false] n) 4)) w.heap.size (List.replicate n false) := by
  unfold OwnB
  have e : madeCells #[Value.bool false] n = ((List.replicate n false).map Value.bool).toArray := by
    apply Array.toList_inj.1
    rw [toList_madeCells_one]; simp
  rw [e]
  exact heap_alloc_new w _
end
theorem info_bool : (Try.prog.info? 4).map (fun i => (i.zero, i.size, i.bytes)) = some (some (.bool false), 1, 1) := by kernel_rfl
/-- make([]bool, n). -/
theorem make_bools (n : Nat) (hn : n ≤ 1000000) (w : World) :
    (Instr.makeSlice 69 (.int .i64 (n : Int)) (.int .i64 (n : Int))).run Try.prog w = .ok (.slice (some ⟨w.heap.size, 0, none⟩) n n) (w.alloc (.cells (madeCells #[.bool false] n) 4)) := by
  obtain ⟨i, hi, hz, hs, hb⟩ := info_parts info_bool
  have := run_make (P := Try.prog) w 69 4 i _ Try.underlying69 hi hz .i64 .i64 n n (by omega) (Int.le_refl _) (by rw [hb]; omega) (by omega)
  rw [hs] at this
  simpa [Value.cells] using this

/-- The block of a row. -/
structure Line (X SZ FR : Nat) (vl vw : Value) (n : Nat) (sp : Int) (g : Bool) (st : St) (w : World) : Prop where
  x : w.heap[X]? = some (.cells #[vl, .int .i64 sp, .bool g, vw, .slice (some ⟨SZ, 0, none⟩) n n, .slice (some ⟨FR, 0, none⟩) n n] 71 (0, 0))
  s : OwnI w SZ st.1
  f : OwnB w FR st.2
  xs : X ≠ SZ
  xf : X ≠ FR
  sf : SZ ≠ FR
section
variable {X SZ FR : Nat} {vl vw : Value} {n : Nat} {sp : Int} {g : Bool} {st : St} {w : World}
theorem Line.cells (h : Line X SZ FR vl vw n sp g st w) : w.cell? ⟨X, 0, none⟩ = some vl ∧ w.cell? ⟨X, 1, none⟩ = some (.int .i64 sp) ∧ w.cell? ⟨X, 2, none⟩ = some (.bool g) ∧ w.cell? ⟨X, 3, none⟩ = some vw ∧
    w.cell? ⟨X, 4, none⟩ = some (.slice (some ⟨SZ, 0, none⟩) n n) ∧ w.cell? ⟨X, 5, none⟩ = some (.slice (some ⟨FR, 0, none⟩) n n) := by
  refine ⟨?_, ?_, ?_, ?_, ?_, ?_⟩
  all_goals (rw [cell_of_row w X _ _ _ (0, 0) h.x]; rfl)
theorem Line.free (h : Line X SZ FR vl vw n sp g st w) (i : Nat) : w.frozen? ⟨X, i, none⟩ = false := by simp [World.frozen?, h.x]
theorem Line.lt (h : Line X SZ FR vl vw n sp g st w) : X < w.heap.size ∧ SZ < w.heap.size ∧ FR < w.heap.size := ⟨lt_of_block h.x, h.s.lt, h.f.lt⟩
theorem Line.below {w' : World} {B : Nat} (h : Line X SZ FR vl vw n sp g st w) (hb : Below B w w') (hB : w.heap.size ≤ B) : Line X SZ FR vl vw n sp g st w' := by
  have := h.lt
  exact ⟨(hb.block X (by omega)).trans h.x, h.s.of_below hb (by omega), h.f.of_below hb (by omega), h.xs, h.xf, h.sf⟩
theorem Line.drew (h : Line X SZ FR vl vw n sp g st w) : Line X SZ FR vl vw n sp g st w.drew := ⟨h.x, h.s, h.f, h.xs, h.xf, h.sf⟩
theorem Line.drewN (h : Line X SZ FR vl vw n sp g st w) (d : Nat) : Line X SZ FR vl vw n sp g st (w.drewN d) := ⟨h.x, h.s, h.f, h.xs, h.xf, h.sf⟩
theorem Line.setS (h : Line X SZ FR vl vw n sp g st w) (i : Nat) (x : Int) : Line X SZ FR vl vw n sp g (st.1.set i x, st.2) (w.setCell ⟨SZ, i, none⟩ (.int .i64 x)) := by
  refine ⟨?_, h.s.set i x, h.f.set_other h.sf i _, h.xs, h.xf, h.sf⟩
  rw [Below.heap_setCell _ _ _ _ (by simpa using h.xs)]; exact h.x
theorem Line.setF (h : Line X SZ FR vl vw n sp g st w) (i : Nat) (x : Bool) : Line X SZ FR vl vw n sp g (st.1, st.2.set i x) (w.setCell ⟨FR, i, none⟩ (.bool x)) := by
  refine ⟨?_, h.s.set_other (Ne.symm h.sf) i _, h.f.set i x, h.xs, h.xf, h.sf⟩
  rw [Below.heap_setCell _ _ _ _ (by simpa using h.xf)]; exact h.x
end

theorem same_symm {P : Program} {f : FuncId} {args : Array Value} {w : World} {v : Value} (h : Calls P f args w fun e w' => e = .returned v ∧ w = w') : Calls P f args w fun e w' => e = .returned v ∧ w' = w := h.mono fun _ _ ⟨a, b⟩ => ⟨a, b.symm⟩
set_option maxHeartbeats 2000000 in
theorem lclamp_any (X k n cap b off : Nat) (x lo hi : Int) (w : World) (hX : w.cell? ⟨X, 0, none⟩ = some (.slice (some ⟨b, off, none⟩) n cap)) (h1 : w.cell? ⟨b, off + k * 5 + 1, none⟩ = some (.int .i64 lo)) (h2 : w.cell? ⟨b, off + k * 5 + 2, none⟩ = some (.int .i64 hi)) (hk : k < n) (hn : n ≤ 100) :
    Calls Try.prog 45 #[.pointer (some ⟨X, 0, none⟩), .int .i64 (k : Int), .int .i64 x] w (Quiet (.int .i64 (clampZ x lo hi)) w) := by
  have hk0 : (0 : Int) ≤ (k : Int) := by omega
  have hk' : (k : Int) < (n : Int) := by omega
  have hn' : (n : Int) ≤ 100 := by omega
  go_enter Try.func45, Try.ntmps45
  go_wp2_with fail
  go_quiet ((go_at_call 26; exact Calls.quiet_of_same (same_symm (clamp_any _ _ _ _))))
  go_wp2_with fail
  go_ret
  exact ⟨rfl, _, rfl⟩

def noneB (f : List Bool) (k : Nat) : Prop := ∀ j, j < k → gb f j = true
theorem count_none {f : List Bool} (h : noneB f f.length) : f.count false = 0 := by
  rw [List.count_eq_zero]
  intro hm
  obtain ⟨j, hj, e⟩ := List.mem_iff_getElem.1 hm
  have := h j hj
  simp [gb, hj, e] at this
theorem count_some {f : List Bool} {k : Nat} (hk : k < f.length) (h : gb f k = false) : f.count false ≠ 0 := by
  have e : f[k] = false := by simpa [gb, hk] using h
  have : 0 < f.count false := List.count_pos_iff.2 (by rw [← e]; exact List.getElem_mem hk)
  omega
def FoundB (f : List Bool) (w : World) (e : Ending) (w' : World) : Prop := ∃ m : Int, e = .returned (.int .i64 m) ∧ (f.count false ≠ 0 ↔ 0 ≤ m) ∧ w = w'

set_option maxHeartbeats 2000000 in
theorem bindex_any (FR n cap : Nat) (f : List Bool) (w : World) (hf : OwnB w FR f) (hn : f.length = n) (h100 : n ≤ 100) :
    Calls Try.prog 54 #[.slice (some ⟨FR, 0, none⟩) n cap, .bool false] w (FoundB f w) := by
  have HF := Lib.hid hf
  have HN := Lib.hid hn
  have hn' : (n : Int) ≤ 100 := by omega
  clear hf hn
  go_enter Try.func54, Try.ntmps54
  go_wp2
  go_loop [8] (fun i => ∃ k : Nat, k ≤ n ∧ i = .int .i64 k ∧ Hid (noneB f k)) (fun i => n - (intOf i).toNat)
  case atStart => exact ⟨0, Nat.zero_le _, rfl, fun j hj => absurd hj (Nat.not_lt_zero _)⟩
  case round =>
    obtain ⟨k, hk, rfl, HO⟩ := hrel
    by_cases hkn : k < n
    · have hc := HF.out.cell (i := k) (by rw [HN.out]; exact hkn)
      have hkn' : (k : Int) < (n : Int) := by omega
      cases hb : gb f k with
      | true =>
        rw [hb] at hc
        have HON : Hid (noneB f (k + 1)) := fun j hj => by
          by_cases e : j = k
          · subst e; exact hb
          · exact HO.out j (by omega)
        clear hb
        go_wp2
        go_round
        case rel => exact ⟨k + 1, by omega, by go_num, HON⟩
        case measure => simp [intOf]; omega
      | false =>
        rw [hb] at hc
        have HC : Hid (f.count false ≠ 0) := count_some (by rw [HN.out]; exact hkn) hb
        clear hb
        go_wp2
        go_ret
        exact ⟨k, rfl, ⟨fun _ => by omega, fun _ => HC.out⟩, rfl⟩
    · obtain rfl : k = n := by omega
      have HC : Hid (f.count false = 0) := count_none (by rw [HN.out]; exact HO.out)
      go_wp2
      go_ret
      exact ⟨-1, rfl, ⟨fun h => absurd HC.out h, fun h => by omega⟩, rfl⟩

set_option maxHeartbeats 2000000 in
theorem bcontains_any (FR n cap : Nat) (f : List Bool) (w : World) (hf : OwnB w FR f) (hn : f.length = n) (h100 : n ≤ 100) :
    Calls Try.prog 46 #[.slice (some ⟨FR, 0, none⟩) n cap, .bool false] w fun e w' => e = .returned (.bool (decide (f.count false ≠ 0))) ∧ w = w' := by
  have HF := Lib.hid hf
  have HN := Lib.hid hn
  clear hf hn
  go_enter Try.func46, Try.ntmps46
  go_wp2_with fail
  refine (bindex_any _ _ _ f _ HF.out HN.out h100).mono ?_
  rintro e w' ⟨m, rfl, hm, rfl⟩
  have H := Lib.hid hm
  clear hm
  go_wp2
  go_ret
  exact ⟨ret_bool (by rw [Bool.eq_iff_iff]; simp only [decide_eq_true_iff]; exact H.out.symm), rfl⟩
end Go.Proofs.Ytadkkkdecejkeaa

