/- A theme, a mode and a text that came in. -/
import Derived.Test.YtcjhefkipghloaaThemeVal
import Derived.Lib.SmallJoins
import Derived.ChangeMaps5
namespace Go.Proofs.Ytcjhefkipghloaa
open Go.RowKit Go.ChangeShapes Go.WideShapes Go.ChangeAt Go.Deep Go.ChangeMaps
set_option linter.unusedVariables false
set_option linter.unusedSimpArgs false

def InTheme (w : World) (v : Value) (l : List Tok) : Prop := ∃ u, v = .agg #[u] ∧ IsToks w u l ∧ namesOk l
structure ModeZ where
  dark : Bool
  high : Bool
  scale : Int
def InMode (v : Value) (m : ModeZ) : Prop := v = .agg #[.bool m.dark, .bool m.high, .int .i64 m.scale]
def InText (v : Value) (s : ByteArray) : Prop := v = .string s ∧ s.size ≤ maxLen

section
variable {H : Type} {enc : TypeId × Value → H} {W : World} {base : Nat} {v : Value} {d : DataW H} {p : List MemPlace}
instance : Inhabited Tok := ⟨tok0⟩
theorem shape_tok (n : Nat) (cs : List Value) (x : DataW H × List MemPlace) (h : DataW.trod enc Try.prog W 0 (fun _ => true) true n 35 cs = some x) :
    ∃ s : Tok, cs = [.string s.name, .int .i64 s.light, .int .i64 s.dark, .int .i64 s.hlight, .int .i64 s.hdark] ∧ s.name.size ≤ maxLen := by
  obtain ⟨xs, m, _, _, hl, hxs, hf⟩ := DataW.trod_struct Try.underlying35 h
  have hc : Try.prog.cellsOf 35 = 5 := by kernel_rfl
  have c0 : Try.prog.cellsOf 9 = 1 := by kernel_rfl
  have c1 : Try.prog.cellsOf 3 = 1 := by kernel_rfl
  rw [hc] at hl
  match xs, hxs with
  | [y0, y1, y2, y3, y4], _ =>
    match cs, hl with
    | [a0, a1, a2, a3, a4], _ =>
      have h0 : DataW.trod enc Try.prog W 0 (fun _ => true) true m 9 [a0] = some y0 := by simpa [c0] using hf 0 _ rfl
      have h1 : DataW.trod enc Try.prog W 0 (fun _ => true) true m 3 [a1] = some y1 := by simpa [c1] using hf 1 _ rfl
      have h2 : DataW.trod enc Try.prog W 0 (fun _ => true) true m 3 [a2] = some y2 := by simpa [c1] using hf 2 _ rfl
      have h3 : DataW.trod enc Try.prog W 0 (fun _ => true) true m 3 [a3] = some y3 := by simpa [c1] using hf 3 _ rfl
      have h4 : DataW.trod enc Try.prog W 0 (fun _ => true) true m 3 [a4] = some y4 := by simpa [c1] using hf 4 _ rfl
      obtain ⟨s, e0, _, hs⟩ := DataW.trod_string Try.underlying9 h0
      obtain ⟨k1, e1, _, _⟩ := DataW.trod_int Try.underlying3 h1
      obtain ⟨k2, e2, _, _⟩ := DataW.trod_int Try.underlying3 h2
      obtain ⟨k3, e3, _, _⟩ := DataW.trod_int Try.underlying3 h3
      obtain ⟨k4, e4, _, _⟩ := DataW.trod_int Try.underlying3 h4
      simp at e0 e1 e2 e3 e4
      subst e0 e1 e2 e3 e4
      exact ⟨⟨s, k1, k2, k3, k4⟩, rfl, hs⟩

theorem open_theme (hok : Value.okWide Try.prog W .any base 32 v) (h : DataW.Trod enc Try.prog W 0 (fun _ => true) true 32 v d p) : ∃ l, InTheme W v l := by
  obtain ⟨cs, rfl, hsz⟩ := okWide_struct Try.underlying32 hok
  have hc : Try.prog.cellsOf 32 = 1 := by kernel_rfl
  rw [hc] at hsz
  obtain ⟨u, rfl⟩ : ∃ u, cs = #[u] := by
    obtain ⟨l⟩ := cs
    match l, hsz with
    | [c0], _ => exact ⟨c0, rfl⟩
  obtain ⟨fuel, hf⟩ := h
  obtain ⟨y0, n, hx, _, h0⟩ := trod_struct1 Try.underlying32 hf
  have cS : Try.prog.cellsOf 30 = 1 := by kernel_rfl
  have hu : DataW.trod enc Try.prog W 0 (fun _ => true) true n 30 [u] = some y0 := by simpa [Value.cells, cS] using h0
  obtain ⟨a, len, cap, hform⟩ := Joins.slice_form Try.underlying30 hu
  simp at hform
  subst hform
  obtain ⟨l, hl, a', cap', hv, h1, h2, h3⟩ := open_rows_form (enc := enc) (W := W) (d := y0.1) (p := y0.2) (α := Tok) (fun s => [.string s.name, .int .i64 s.light, .int .i64 s.dark, .int .i64 s.hlight, .int .i64 s.hdark]) (fun s => s.name.size ≤ maxLen) Try.underlying30 (e := 35) (c := 5) (by kernel_rfl) (by omega) shape_tok (v := .slice a len cap) ⟨a, len, cap, rfl⟩ ⟨n, by simpa [Value.cells] using hu⟩
  refine ⟨l, _, rfl, ⟨a', cap', hv, h1, h2, fun hp => ?_⟩, fun i => ?_⟩
  · obtain ⟨b, off, rfl, hlt, hcell⟩ := h3 hp
    refine ⟨b, off, rfl, hlt, fun i hi => ?_⟩
    have e : l.getD i default = gt l i := rfl
    have k0 := hcell i hi 0 (by omega)
    have k1 := hcell i hi 1 (by omega)
    have k2 := hcell i hi 2 (by omega)
    have k3 := hcell i hi 3 (by omega)
    have k4 := hcell i hi 4 (by omega)
    rw [e] at k0 k1 k2 k3 k4
    rw [Nat.add_zero] at k0
    exact ⟨k0, k1, k2, k3, k4⟩
  · by_cases hi : i < l.length
    · have := hl l[i] (List.getElem_mem hi)
      have e : gt l i = l[i] := by simp [gt, hi]
      rw [e]; exact this
    · have e : gt l i = tok0 := by simp [gt, hi]
      rw [e]
      show ByteArray.size ByteArray.empty ≤ maxLen
      unfold maxLen
      decide

theorem open_mode (hok : Value.okWide Try.prog W .any base 23 v) (h : DataW.Trod enc Try.prog W 0 (fun _ => true) true 23 v d p) : ∃ m, InMode v m := by
  obtain ⟨v0, v1, v2, y0, y1, y2, n, rfl, _, _, h0, h1, h2⟩ := Joins.open_agg3 Try.underlying23 (by kernel_rfl) (by kernel_rfl) hok h
  obtain ⟨a, e0, _⟩ := DataW.trod_bool Try.underlying4 h0
  obtain ⟨b, e1, _⟩ := DataW.trod_bool Try.underlying4 h1
  obtain ⟨c, e2, _, _⟩ := DataW.trod_int Try.underlying3 h2
  simp at e0 e1 e2
  subst e0 e1 e2
  exact ⟨⟨a, b, c⟩, rfl⟩
theorem open_text (hok : Value.okWide Try.prog W .any base 9 v) (h : DataW.Trod enc Try.prog W 0 (fun _ => true) true 9 v d p) : ∃ s, InText v s := by
  obtain ⟨s, rfl, _, _, hs⟩ := open_string Try.underlying9 hok h
  exact ⟨s, rfl, hs⟩
end
end Go.Proofs.Ytcjhefkipghloaa
