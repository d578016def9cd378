/- Animations that came in: by value, and as a slice. -/
import Derived.Test.YtfcffmjmohkpoaaAnims
import Derived.Test.YtfcffmjmohkpoaaOpenRows
import Derived.Lib.SmallJoins
namespace Go.Proofs.Ytfcffmjmohkpoaa
open Go.RowKit Go.ChangeShapes Go.WideShapes Go.ChangeAt Go.Joins
set_option linter.unusedVariables false
set_option linter.unusedSimpArgs false
section
variable {H : Type} {enc : TypeId × Value → H} {W : World} {base : Nat} {v : Value} {d : DataW H} {p : List MemPlace}
theorem cells_int : Try.prog.cellsOf 3 = 1 := by kernel_rfl
theorem cells_curve : Try.prog.cellsOf 23 = 4 := by kernel_rfl
theorem cells_anim : Try.prog.cellsOf 38 = 16 := by kernel_rfl
theorem int_cell {m : Nat} {c : Value} {y : DataW H × List MemPlace} (h : DataW.trod enc Try.prog W 0 (fun _ => true) true m 3 [c] = some y) : ∃ a : Int, c = .int .i64 a := by
  obtain ⟨a, e, _, _⟩ := DataW.trod_int Try.underlying3 h
  exact ⟨a, by simpa using e⟩
theorem curve_cells4 {m : Nat} {c0 c1 c2 c3 : Value} {y : DataW H × List MemPlace} (h : DataW.trod enc Try.prog W 0 (fun _ => true) true m 23 [c0, c1, c2, c3] = some y) :
    (∃ a : Int, c0 = .int .i64 a) ∧ (∃ a : Int, c1 = .int .i64 a) ∧ (∃ a : Int, c2 = .int .i64 a) ∧ (∃ a : Int, c3 = .int .i64 a) := by
  obtain ⟨xs, m, _, _, hl, hlen, hf⟩ := DataW.trod_struct Try.underlying23 h
  match xs, hlen with
  | [y0, y1, y2, y3], _ =>
  have k0 : DataW.trod enc Try.prog W 0 (fun _ => true) true m 3 (([c0, c1, c2, c3].drop 0).take (Try.prog.cellsOf 3)) = ([y0, y1, y2, y3] : List (DataW H × List MemPlace))[0]? := hf 0 _ rfl
  have k1 : DataW.trod enc Try.prog W 0 (fun _ => true) true m 3 (([c0, c1, c2, c3].drop 1).take (Try.prog.cellsOf 3)) = ([y0, y1, y2, y3] : List (DataW H × List MemPlace))[1]? := hf 1 _ rfl
  have k2 : DataW.trod enc Try.prog W 0 (fun _ => true) true m 3 (([c0, c1, c2, c3].drop 2).take (Try.prog.cellsOf 3)) = ([y0, y1, y2, y3] : List (DataW H × List MemPlace))[2]? := hf 2 _ rfl
  have k3 : DataW.trod enc Try.prog W 0 (fun _ => true) true m 3 (([c0, c1, c2, c3].drop 3).take (Try.prog.cellsOf 3)) = ([y0, y1, y2, y3] : List (DataW H × List MemPlace))[3]? := hf 3 _ rfl
  rw [cells_int] at k0 k1 k2 k3
  exact ⟨int_cell (y := y0) k0, int_cell (y := y1) k1, int_cell (y := y2) k2, int_cell (y := y3) k3⟩
theorem anim_shape {n : Nat} {cs : List Value} {x : DataW H × List MemPlace} (h : DataW.trod enc Try.prog W 0 (fun _ => true) true n 38 cs = some x) : ∃ l : List Int, cs = l.map (Value.int .i64) ∧ l.length = 16 := by
  obtain ⟨xs, m, _, _, hl, hlen, hf⟩ := DataW.trod_struct Try.underlying38 h
  have hl16 : cs.length = 16 := hl.trans cells_anim
  match cs, hl16 with
  | [c0, c1, c2, c3, c4, c5, c6, c7, c8, c9, c10, c11, c12, c13, c14, c15], _ =>
  match xs, hlen with
  | [y0, y1, y2, y3, y4, y5, y6, y7, y8, y9, y10, y11, y12], _ =>
  have k0 : DataW.trod enc Try.prog W 0 (fun _ => true) true m 3 (([c0, c1, c2, c3, c4, c5, c6, c7, c8, c9, c10, c11, c12, c13, c14, c15].drop 0).take (Try.prog.cellsOf 3)) = ([y0, y1, y2, y3, y4, y5, y6, y7, y8, y9, y10, y11, y12] : List (DataW H × List MemPlace))[0]? := hf 0 _ rfl
  have k1 : DataW.trod enc Try.prog W 0 (fun _ => true) true m 3 (([c0, c1, c2, c3, c4, c5, c6, c7, c8, c9, c10, c11, c12, c13, c14, c15].drop 1).take (Try.prog.cellsOf 3)) = ([y0, y1, y2, y3, y4, y5, y6, y7, y8, y9, y10, y11, y12] : List (DataW H × List MemPlace))[1]? := hf 1 _ rfl
  have k2 : DataW.trod enc Try.prog W 0 (fun _ => true) true m 3 (([c0, c1, c2, c3, c4, c5, c6, c7, c8, c9, c10, c11, c12, c13, c14, c15].drop 2).take (Try.prog.cellsOf 3)) = ([y0, y1, y2, y3, y4, y5, y6, y7, y8, y9, y10, y11, y12] : List (DataW H × List MemPlace))[2]? := hf 2 _ rfl
  have k3 : DataW.trod enc Try.prog W 0 (fun _ => true) true m 3 (([c0, c1, c2, c3, c4, c5, c6, c7, c8, c9, c10, c11, c12, c13, c14, c15].drop 3).take (Try.prog.cellsOf 3)) = ([y0, y1, y2, y3, y4, y5, y6, y7, y8, y9, y10, y11, y12] : List (DataW H × List MemPlace))[3]? := hf 3 _ rfl
  have k4 : DataW.trod enc Try.prog W 0 (fun _ => true) true m 3 (([c0, c1, c2, c3, c4, c5, c6, c7, c8, c9, c10, c11, c12, c13, c14, c15].drop 4).take (Try.prog.cellsOf 3)) = ([y0, y1, y2, y3, y4, y5, y6, y7, y8, y9, y10, y11, y12] : List (DataW H × List MemPlace))[4]? := hf 4 _ rfl
  have k5 : DataW.trod enc Try.prog W 0 (fun _ => true) true m 3 (([c0, c1, c2, c3, c4, c5, c6, c7, c8, c9, c10, c11, c12, c13, c14, c15].drop 5).take (Try.prog.cellsOf 3)) = ([y0, y1, y2, y3, y4, y5, y6, y7, y8, y9, y10, y11, y12] : List (DataW H × List MemPlace))[5]? := hf 5 _ rfl
  have k6 : DataW.trod enc Try.prog W 0 (fun _ => true) true m 3 (([c0, c1, c2, c3, c4, c5, c6, c7, c8, c9, c10, c11, c12, c13, c14, c15].drop 6).take (Try.prog.cellsOf 3)) = ([y0, y1, y2, y3, y4, y5, y6, y7, y8, y9, y10, y11, y12] : List (DataW H × List MemPlace))[6]? := hf 6 _ rfl
  have k7 : DataW.trod enc Try.prog W 0 (fun _ => true) true m 23 (([c0, c1, c2, c3, c4, c5, c6, c7, c8, c9, c10, c11, c12, c13, c14, c15].drop 7).take (Try.prog.cellsOf 23)) = ([y0, y1, y2, y3, y4, y5, y6, y7, y8, y9, y10, y11, y12] : List (DataW H × List MemPlace))[7]? := hf 7 _ rfl
  have k8 : DataW.trod enc Try.prog W 0 (fun _ => true) true m 3 (([c0, c1, c2, c3, c4, c5, c6, c7, c8, c9, c10, c11, c12, c13, c14, c15].drop 11).take (Try.prog.cellsOf 3)) = ([y0, y1, y2, y3, y4, y5, y6, y7, y8, y9, y10, y11, y12] : List (DataW H × List MemPlace))[8]? := hf 8 _ rfl
  have k9 : DataW.trod enc Try.prog W 0 (fun _ => true) true m 3 (([c0, c1, c2, c3, c4, c5, c6, c7, c8, c9, c10, c11, c12, c13, c14, c15].drop 12).take (Try.prog.cellsOf 3)) = ([y0, y1, y2, y3, y4, y5, y6, y7, y8, y9, y10, y11, y12] : List (DataW H × List MemPlace))[9]? := hf 9 _ rfl
  have k10 : DataW.trod enc Try.prog W 0 (fun _ => true) true m 3 (([c0, c1, c2, c3, c4, c5, c6, c7, c8, c9, c10, c11, c12, c13, c14, c15].drop 13).take (Try.prog.cellsOf 3)) = ([y0, y1, y2, y3, y4, y5, y6, y7, y8, y9, y10, y11, y12] : List (DataW H × List MemPlace))[10]? := hf 10 _ rfl
  have k11 : DataW.trod enc Try.prog W 0 (fun _ => true) true m 3 (([c0, c1, c2, c3, c4, c5, c6, c7, c8, c9, c10, c11, c12, c13, c14, c15].drop 14).take (Try.prog.cellsOf 3)) = ([y0, y1, y2, y3, y4, y5, y6, y7, y8, y9, y10, y11, y12] : List (DataW H × List MemPlace))[11]? := hf 11 _ rfl
  have k12 : DataW.trod enc Try.prog W 0 (fun _ => true) true m 3 (([c0, c1, c2, c3, c4, c5, c6, c7, c8, c9, c10, c11, c12, c13, c14, c15].drop 15).take (Try.prog.cellsOf 3)) = ([y0, y1, y2, y3, y4, y5, y6, y7, y8, y9, y10, y11, y12] : List (DataW H × List MemPlace))[12]? := hf 12 _ rfl
  rw [cells_int] at k0 k1 k2 k3 k4 k5 k6 k8 k9 k10 k11 k12
  rw [cells_curve] at k7
  obtain ⟨a0, rfl⟩ := int_cell (y := y0) (show DataW.trod enc Try.prog W 0 (fun _ => true) true m 3 [c0] = some y0 from k0)
  obtain ⟨a1, rfl⟩ := int_cell (y := y1) (show DataW.trod enc Try.prog W 0 (fun _ => true) true m 3 [c1] = some y1 from k1)
  obtain ⟨a2, rfl⟩ := int_cell (y := y2) (show DataW.trod enc Try.prog W 0 (fun _ => true) true m 3 [c2] = some y2 from k2)
  obtain ⟨a3, rfl⟩ := int_cell (y := y3) (show DataW.trod enc Try.prog W 0 (fun _ => true) true m 3 [c3] = some y3 from k3)
  obtain ⟨a4, rfl⟩ := int_cell (y := y4) (show DataW.trod enc Try.prog W 0 (fun _ => true) true m 3 [c4] = some y4 from k4)
  obtain ⟨a5, rfl⟩ := int_cell (y := y5) (show DataW.trod enc Try.prog W 0 (fun _ => true) true m 3 [c5] = some y5 from k5)
  obtain ⟨a6, rfl⟩ := int_cell (y := y6) (show DataW.trod enc Try.prog W 0 (fun _ => true) true m 3 [c6] = some y6 from k6)
  obtain ⟨a11, rfl⟩ := int_cell (y := y8) (show DataW.trod enc Try.prog W 0 (fun _ => true) true m 3 [c11] = some y8 from k8)
  obtain ⟨a12, rfl⟩ := int_cell (y := y9) (show DataW.trod enc Try.prog W 0 (fun _ => true) true m 3 [c12] = some y9 from k9)
  obtain ⟨a13, rfl⟩ := int_cell (y := y10) (show DataW.trod enc Try.prog W 0 (fun _ => true) true m 3 [c13] = some y10 from k10)
  obtain ⟨a14, rfl⟩ := int_cell (y := y11) (show DataW.trod enc Try.prog W 0 (fun _ => true) true m 3 [c14] = some y11 from k11)
  obtain ⟨a15, rfl⟩ := int_cell (y := y12) (show DataW.trod enc Try.prog W 0 (fun _ => true) true m 3 [c15] = some y12 from k12)
  obtain ⟨⟨a7, rfl⟩, ⟨a8, rfl⟩, ⟨a9, rfl⟩, ⟨a10, rfl⟩⟩ := curve_cells4 (y := y7) (show DataW.trod enc Try.prog W 0 (fun _ => true) true m 23 [c7, c8, c9, c10] = some y7 from k7)
  exact ⟨[a0, a1, a2, a3, a4, a5, a6, a7, a8, a9, a10, a11, a12, a13, a14, a15], rfl, rfl⟩

/-- An animation that came in. -/
def InAnim (v : Value) (a : Anim) : Prop := v = .agg #[.int .i64 a.node, .int .i64 a.prop, .int .i64 a.kind, .int .i64 a.start0, .int .i64 a.goal, .int .i64 a.begin_, .int .i64 a.dur, .int .i64 a.x1, .int .i64 a.y1, .int .i64 a.x2, .int .i64 a.y2, .int .i64 a.stiff, .int .i64 a.damp, .int .i64 a.x, .int .i64 a.v, .int .i64 a.now]
theorem open_anim (hok : Value.okWide Try.prog W .any base 38 v) (h : DataW.Trod enc Try.prog W 0 (fun _ => true) true 38 v d p) : ∃ a, InAnim v a := by
  obtain ⟨cs, rfl, hsz⟩ := okWide_struct Try.underlying38 hok
  obtain ⟨fuel, hf⟩ := h
  obtain ⟨l, hl, h16⟩ := anim_shape hf
  have hcs : cs = (l.map (Value.int .i64)).toArray := by
    have hl2 : cs.toList = l.map (Value.int .i64) := hl
    exact Array.toList_inj.1 hl2
  subst hcs
  match l, h16 with
  | [a0, a1, a2, a3, a4, a5, a6, a7, a8, a9, a10, a11, a12, a13, a14, a15], _ => exact ⟨⟨a0, a1, a2, a3, a4, a5, a6, a7, a8, a9, a10, a11, a12, a13, a14, a15⟩, rfl⟩
def ofL (l : List Int) : Anim := ⟨gz l 0, gz l 1, gz l 2, gz l 3, gz l 4, gz l 5, gz l 6, gz l 7, gz l 8, gz l 9, gz l 10, gz l 11, gz l 12, gz l 13, gz l 14, gz l 15⟩
theorem recA_ofL {l : List Int} (h : l.length = 16) : recA (ofL l) = l := by
  match l, h with
  | [a0, a1, a2, a3, a4, a5, a6, a7, a8, a9, a10, a11, a12, a13, a14, a15], _ => rfl
theorem open_anims (hok : Value.okWide Try.prog W .any base 40 v) (h : DataW.Trod enc Try.prog W 0 (fun _ => true) true 40 v d p) : ∃ l, IsAnims W v l := by
  obtain ⟨l, hp, a, cap, hv, h1, h2, h3⟩ := open_rows (fun l : List Int => l.map (Value.int .i64)) (fun l => l.length = 16) Try.underlying40 cells_anim (by omega) (fun n cs x h => anim_shape h) hok h
  have he : (l.map ofL).map recA = l := by
    rw [List.map_map]
    have h0 : ∀ x ∈ l, (recA ∘ ofL) x = x := fun x hx => recA_ofL (hp x hx)
    rw [List.map_congr_left h0, List.map_id']
  refine ⟨l.map ofL, ?_⟩
  unfold IsAnims IsRecs
  rw [he]
  refine ⟨a, cap, hv, h1, h2, fun hq => ?_⟩
  obtain ⟨b, off, ha, hlt, hc⟩ := h3 hq
  refine ⟨b, off, ha, hlt, fun i hi j hj => ?_⟩
  rw [hc i hi j hj]
  have hlen := hp (l.getD i default) (by simp [hi])
  have hj2 : j < (l.getD i default).length := by rw [hlen]; exact hj
  simp only [List.getElem?_map, List.getElem?_eq_getElem hj2, Option.map_some]
  have hl2 : (l.getD i default)[j] = gf l i j := by
    have e1 : l.getD i default = l[i] := by simp [hi]
    have hj3 : j < l[i].length := by rw [← e1]; exact hj2
    simp [gf, hi, hj3]
  rw [hl2]
end
end Go.Proofs.Ytfcffmjmohkpoaa
