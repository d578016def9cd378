/- Blocks of an animation: what a store leaves (printed by wip/gen_fill.py). -/
import Derived.Test.YtfcffmjmohkpoaaNext
import Derived.Lib.SmallJoins
import Derived.Deep.MidRow
namespace Go.Proofs.Ytfcffmjmohkpoaa
open Go.RowKit Go.Joins
set_option linter.unusedVariables false
set_option linter.unusedSimpArgs false

/-- Block b is an animation's: its sixteen cells. -/
def AnimBlk (w : World) (b : Nat) (t : TypeId) (cs : List Value) : Prop := cs.length = 16 ∧ w.heap[b]? = some (.cells cs.toArray t (0, 0))
theorem AnimBlk.set {w : World} {b : Nat} {t : TypeId} {cs : List Value} (h : AnimBlk w b t cs) (i : Nat) (v : Value) : AnimBlk (w.setCell ⟨b, i, none⟩ v) b t (cs.set i v) := by
  refine ⟨by rw [List.length_set]; exact h.1, ?_⟩
  rw [block_setCell h.2 v]
  simp
theorem AnimBlk.set_other {w : World} {b c : Nat} {t : TypeId} {cs : List Value} (h : AnimBlk w b t cs) (hc : b ≠ c) (i : Nat) (v : Value) : AnimBlk (w.setCell ⟨c, i, none⟩ v) b t cs :=
  ⟨h.1, by rw [Below.heap_setCell _ _ _ _ hc]; exact h.2⟩
theorem AnimBlk.cell {w : World} {b : Nat} {t : TypeId} {cs : List Value} (h : AnimBlk w b t cs) (i : Nat) : w.cell? ⟨b, i, none⟩ = cs[i]? := by
  rw [cell_of_row w b i _ t (0, 0) h.2]; simp
theorem AnimBlk.free {w : World} {b : Nat} {t : TypeId} {cs : List Value} (h : AnimBlk w b t cs) (i : Nat) : w.frozen? ⟨b, i, none⟩ = false := by simp [World.frozen?, h.2]
theorem AnimBlk.lt {w : World} {b : Nat} {t : TypeId} {cs : List Value} (h : AnimBlk w b t cs) : b < w.heap.size := lt_of_block h.2
theorem AnimBlk.kept {w w' : World} {b B : Nat} {t : TypeId} {cs : List Value} (h : AnimBlk w b t cs) (hb : Below B w w') (hg : b < B) : AnimBlk w' b t cs := ⟨h.1, (hb.block b hg).trans h.2⟩
theorem AnimBlk.alloc {w : World} {b : Nat} {t : TypeId} {cs : List Value} (h : AnimBlk w b t cs) (o : Obj) : AnimBlk (w.alloc o) b t cs := ⟨h.1, by rw [Below.heap_alloc _ _ _ h.lt]; exact h.2⟩
theorem AnimBlk.drew {w : World} {b : Nat} {t : TypeId} {cs : List Value} (h : AnimBlk w b t cs) : AnimBlk w.drew b t cs := h

theorem AnimBlk.fillL (b : Nat) (t : TypeId) : ∀ (vs : List Value) (o : Nat) (w : World) (cs : List Value), AnimBlk w b t cs → o + vs.length = cs.length → AnimBlk (w.setCells b o vs) b t (cs.take o ++ vs)
  | [], o, w, cs, h, hl => by
    have e : cs.take o = cs := List.take_of_length_le (by simp at hl; omega)
    rw [e, List.append_nil]; exact h
  | v :: vs, o, w, cs, h, hl => by
    have k := AnimBlk.fillL b t vs (o + 1) (w.setCell ⟨b, o, none⟩ v) (cs.set o v) (h.set o v) (by simp at hl ⊢; omega)
    have e : (cs.set o v).take (o + 1) ++ vs = cs.take o ++ v :: vs := by
      have ho : o < cs.length := by simp at hl; omega
      rw [List.take_set, List.take_succ_eq_append_getElem ho, List.set_append_right _ _ (by simp; omega)]
      simp [Nat.min_eq_left (Nat.le_of_lt ho)]
    rw [e] at k
    exact k
theorem below_fillL {w' : World} {b B : Nat} (hb : B ≤ b) : ∀ (vs : List Value) (o : Nat) (w : World), Below B w' w → Below B w' (w.setCells b o vs)
  | [], o, w, h => h
  | v :: vs, o, w, h => below_fillL hb vs (o + 1) _ (h.setCell hb v)
theorem AnimBlk.fill {w : World} {b : Nat} {t : TypeId} {cs : List Value} (h : AnimBlk w b t cs) (v0 v1 v2 v3 v4 v5 v6 v7 v8 v9 v10 v11 v12 v13 v14 v15 : Value) : AnimBlk ((((((((((((((((w.setCell ⟨b, 0, none⟩ v0).setCell ⟨b, 1, none⟩ v1).setCell ⟨b, 2, none⟩ v2).setCell ⟨b, 3, none⟩ v3).setCell ⟨b, 4, none⟩ v4).setCell ⟨b, 5, none⟩ v5).setCell ⟨b, 6, none⟩ v6).setCell ⟨b, 7, none⟩ v7).setCell ⟨b, 8, none⟩ v8).setCell ⟨b, 9, none⟩ v9).setCell ⟨b, 10, none⟩ v10).setCell ⟨b, 11, none⟩ v11).setCell ⟨b, 12, none⟩ v12).setCell ⟨b, 13, none⟩ v13).setCell ⟨b, 14, none⟩ v14).setCell ⟨b, 15, none⟩ v15) b t [v0, v1, v2, v3, v4, v5, v6, v7, v8, v9, v10, v11, v12, v13, v14, v15] := by
  have e : ((((((((((((((((w.setCell ⟨b, 0, none⟩ v0).setCell ⟨b, 1, none⟩ v1).setCell ⟨b, 2, none⟩ v2).setCell ⟨b, 3, none⟩ v3).setCell ⟨b, 4, none⟩ v4).setCell ⟨b, 5, none⟩ v5).setCell ⟨b, 6, none⟩ v6).setCell ⟨b, 7, none⟩ v7).setCell ⟨b, 8, none⟩ v8).setCell ⟨b, 9, none⟩ v9).setCell ⟨b, 10, none⟩ v10).setCell ⟨b, 11, none⟩ v11).setCell ⟨b, 12, none⟩ v12).setCell ⟨b, 13, none⟩ v13).setCell ⟨b, 14, none⟩ v14).setCell ⟨b, 15, none⟩ v15) = w.setCells b 0 [v0, v1, v2, v3, v4, v5, v6, v7, v8, v9, v10, v11, v12, v13, v14, v15] := rfl
  rw [e]
  have k := AnimBlk.fillL b t [v0, v1, v2, v3, v4, v5, v6, v7, v8, v9, v10, v11, v12, v13, v14, v15] 0 w cs h (by rw [h.1]; rfl)
  simpa using k

theorem animBlk_new (w : World) (cs : List Value) (t : TypeId) (h : cs.length = 16) : AnimBlk (w.alloc (.cells cs.toArray t)) w.heap.size t cs := ⟨h, heap_alloc_new w _⟩
theorem animBlk_at {w : World} {n : Nat} (cs : List Value) (t : TypeId) (h : cs.length = 16) (hn : n = w.heap.size) : AnimBlk (w.alloc (.cells cs.toArray t)) n t cs := by subst hn; exact animBlk_new w cs t h
theorem AnimBlk.range {w : World} {b : Nat} {t : TypeId} {cs : List Value} (h : AnimBlk w b t cs) : w.rangeAt b 0 cs := fun j v hv => by rw [Nat.zero_add, h.cell j]; exact hv
theorem AnimBlk.there {w : World} {b : Nat} {t : TypeId} {cs : List Value} (h : AnimBlk w b t cs) : w.there b 0 16 := fun j hj => by
  rw [Nat.zero_add]
  exact ⟨by rw [h.cell j, List.getElem?_eq_getElem (by rw [h.1]; exact hj)]; rfl, h.free j⟩
theorem anim_row : (Try.prog.underlying 38).map TypeDesc.isRow = some true ∧ (Try.prog.info? 38).map (·.size) = some 16 := by constructor <;> kernel_rfl
/-- A load of a whole animation. -/
theorem load_anim {ops : Array Oper} {rest : List Oper} {op : Oper} {a : Act} {w : World} {Q : Exit → Act → World → Prop} (hgd : op.guard = none) (x : Operand) (ho : op.op = .load 38 x)
    (b : Nat) (hx : a.eval x = .pointer (some ⟨b, 0, none⟩)) (cs : List Value) (t : TypeId) (hc : AnimBlk w b t cs)
    (h : wpList Try.prog ops Q rest (a.put op.dst (.agg cs.toArray)) w) : wpList Try.prog ops Q (op :: rest) a w := by
  obtain ⟨k1, k2⟩ := anim_row
  obtain ⟨d, hd, hr⟩ : ∃ d, Try.prog.underlying 38 = some d ∧ d.isRow = true := by
    cases hq : Try.prog.underlying 38 with
    | none => rw [hq] at k1; cases k1
    | some d => rw [hq] at k1; exact ⟨d, rfl, by simpa using k1⟩
  exact wpList_load_mid hgd 38 x ho b 0 hx cs d hc.range hd hr (by rw [hc.1]; exact k2) h
/-- A store of a whole animation. -/
theorem store_anim {ops : Array Oper} {rest : List Oper} {op : Oper} {a : Act} {w : World} {Q : Exit → Act → World → Prop} (hgd : op.guard = none) (x y : Operand) (ho : op.op = .store 38 x y)
    (b : Nat) (vs : List Value) (hl : vs.length = 16) (hx : a.eval x = .pointer (some ⟨b, 0, none⟩)) (hy : a.eval y = .agg vs.toArray) (cs : List Value) (t : TypeId) (hc : AnimBlk w b t cs)
    (h1 : vs.toArray.all (·.oneCell') = true)
    (h : ∀ w', AnimBlk w' b t vs → (∀ B, B ≤ b → Below B w w') → wpList Try.prog ops Q rest (a.put op.dst undef) w') : wpList Try.prog ops Q (op :: rest) a w := by
  obtain ⟨k1, k2⟩ := anim_row
  refine wpList_store_mid hgd 38 x y ho b 0 vs.toArray hx hy (by rw [List.size_toArray, hl]; exact hc.there) (by rw [List.size_toArray, hl]; exact k2) h1 (h _ ?_ (fun B hB => ?_))
  · have k := AnimBlk.fillL b t vs 0 w cs hc (by rw [hl, hc.1])
    simpa using k
  · exact below_fillL hB vs 0 w (Below.refl _ _)

theorem below_fill {w w' : World} {b B : Nat} (h : Below B w' w) (hb : B ≤ b) (v0 v1 v2 v3 v4 v5 v6 v7 v8 v9 v10 v11 v12 v13 v14 v15 : Value) : Below B w' ((((((((((((((((w.setCell ⟨b, 0, none⟩ v0).setCell ⟨b, 1, none⟩ v1).setCell ⟨b, 2, none⟩ v2).setCell ⟨b, 3, none⟩ v3).setCell ⟨b, 4, none⟩ v4).setCell ⟨b, 5, none⟩ v5).setCell ⟨b, 6, none⟩ v6).setCell ⟨b, 7, none⟩ v7).setCell ⟨b, 8, none⟩ v8).setCell ⟨b, 9, none⟩ v9).setCell ⟨b, 10, none⟩ v10).setCell ⟨b, 11, none⟩ v11).setCell ⟨b, 12, none⟩ v12).setCell ⟨b, 13, none⟩ v13).setCell ⟨b, 14, none⟩ v14).setCell ⟨b, 15, none⟩ v15) := by
  have e : ((((((((((((((((w.setCell ⟨b, 0, none⟩ v0).setCell ⟨b, 1, none⟩ v1).setCell ⟨b, 2, none⟩ v2).setCell ⟨b, 3, none⟩ v3).setCell ⟨b, 4, none⟩ v4).setCell ⟨b, 5, none⟩ v5).setCell ⟨b, 6, none⟩ v6).setCell ⟨b, 7, none⟩ v7).setCell ⟨b, 8, none⟩ v8).setCell ⟨b, 9, none⟩ v9).setCell ⟨b, 10, none⟩ v10).setCell ⟨b, 11, none⟩ v11).setCell ⟨b, 12, none⟩ v12).setCell ⟨b, 13, none⟩ v13).setCell ⟨b, 14, none⟩ v14).setCell ⟨b, 15, none⟩ v15) = w.setCells b 0 [v0, v1, v2, v3, v4, v5, v6, v7, v8, v9, v10, v11, v12, v13, v14, v15] := rfl
  rw [e]
  exact below_fillL hb _ _ _ h
end Go.Proofs.Ytfcffmjmohkpoaa
