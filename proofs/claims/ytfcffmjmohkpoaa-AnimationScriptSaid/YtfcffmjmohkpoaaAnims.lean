/- Lists of animations and of motions. -/
import Derived.Test.YtfcffmjmohkpoaaValue
import Derived.Test.YtfcffmjmohkpoaaRecs
namespace Go.Proofs.Ytfcffmjmohkpoaa
open Go.RowKit
set_option linter.unusedVariables false
set_option linter.unusedSimpArgs false

def recA (a : Anim) : Rec := [a.node, a.prop, a.kind, a.start0, a.goal, a.begin_, a.dur, a.x1, a.y1, a.x2, a.y2, a.stiff, a.damp, a.x, a.v, a.now]
theorem recA_wide (l : List Anim) : wide 16 (l.map recA) := by
  intro r hr
  obtain ⟨a, _, rfl⟩ := List.mem_map.1 hr
  rfl
/-- Animation number i. -/
def ga (l : List Anim) (i : Nat) : Anim := l.getD i ⟨0, 0, 0, 0, 0, 0, 0, 0, 0, 0, 0, 0, 0, 0, 0, 0⟩
theorem ga_gf {l : List Anim} {i : Nat} (h : i < l.length) (j : Nat) : gf (l.map recA) i j = (recA (ga l i)).getD j 0 := by
  simp [gf, ga, h]
/-- The slice v reads as the list l of animations. -/
def IsAnims (w : World) (v : Value) (l : List Anim) : Prop := IsRecs 16 w v (l.map recA)
theorem IsAnims.of_below {w w' : World} {v : Value} {l : List Anim} (h : IsAnims w v l) (hb : Below w.heap.size w w') : IsAnims w' v l := IsRecs.of_below h hb

/-- From offset o on block b holds the animation. -/
def AnimOff (w : World) (b o : Nat) (a : Anim) : Prop :=
  w.cell? ⟨b, o, none⟩ = some (.int .i64 a.node) ∧ w.cell? ⟨b, o + 1, none⟩ = some (.int .i64 a.prop) ∧ w.cell? ⟨b, o + 2, none⟩ = some (.int .i64 a.kind) ∧ w.cell? ⟨b, o + 3, none⟩ = some (.int .i64 a.start0) ∧
  w.cell? ⟨b, o + 4, none⟩ = some (.int .i64 a.goal) ∧ w.cell? ⟨b, o + 5, none⟩ = some (.int .i64 a.begin_) ∧ w.cell? ⟨b, o + 6, none⟩ = some (.int .i64 a.dur) ∧ w.cell? ⟨b, o + 7, none⟩ = some (.int .i64 a.x1) ∧
  w.cell? ⟨b, o + 8, none⟩ = some (.int .i64 a.y1) ∧ w.cell? ⟨b, o + 9, none⟩ = some (.int .i64 a.x2) ∧ w.cell? ⟨b, o + 10, none⟩ = some (.int .i64 a.y2) ∧ w.cell? ⟨b, o + 11, none⟩ = some (.int .i64 a.stiff) ∧
  w.cell? ⟨b, o + 12, none⟩ = some (.int .i64 a.damp) ∧ w.cell? ⟨b, o + 13, none⟩ = some (.int .i64 a.x) ∧ w.cell? ⟨b, o + 14, none⟩ = some (.int .i64 a.v) ∧ w.cell? ⟨b, o + 15, none⟩ = some (.int .i64 a.now)
theorem AnimOff.kept {w w' : World} {b o B : Nat} {a : Anim} (h : AnimOff w b o a) (hb : Below B w w') (hg : b < B) : AnimOff w' b o a := by
  obtain ⟨c0, c1, c2, c3, c4, c5, c6, c7, c8, c9, c10, c11, c12, c13, c14, c15⟩ := h
  have k : ∀ p, w'.cell? ⟨b, p, none⟩ = w.cell? ⟨b, p, none⟩ := fun p => hb.cell (p := ⟨b, p, none⟩) hg
  exact ⟨(k _).trans c0, (k _).trans c1, (k _).trans c2, (k _).trans c3, (k _).trans c4, (k _).trans c5, (k _).trans c6, (k _).trans c7, (k _).trans c8, (k _).trans c9, (k _).trans c10, (k _).trans c11, (k _).trans c12, (k _).trans c13, (k _).trans c14, (k _).trans c15⟩
/-- What a slice of animations gives: its address and each of its elements. -/
theorem IsAnims.open_ {w : World} {v : Value} {l : List Anim} (h : IsAnims w v l) :
    ∃ a cap, v = .slice a l.length cap ∧ l.length ≤ cap ∧ cap ≤ maxLen ∧ (0 < l.length → ∃ b off, a = some ⟨b, off, none⟩ ∧ b < w.heap.size ∧ ∀ i, i < l.length → AnimOff w b (off + i * 16) (ga l i)) := by
  obtain ⟨a, cap, hv, h1, h2, h3⟩ := h
  simp only [List.length_map] at hv h1 h3
  refine ⟨a, cap, hv, h1, h2, fun hp => ?_⟩
  obtain ⟨b, off, ha, hlt, hc⟩ := h3 hp
  refine ⟨b, off, ha, hlt, fun i hi => ?_⟩
  have hcc : ∀ j, j < 16 → w.cell? ⟨b, off + i * 16 + j, none⟩ = some (.int .i64 ((recA (ga l i)).getD j 0)) := fun j hj => by rw [hc i hi j hj, ga_gf hi]
  exact ⟨hcc 0 (by omega), hcc 1 (by omega), hcc 2 (by omega), hcc 3 (by omega), hcc 4 (by omega), hcc 5 (by omega), hcc 6 (by omega), hcc 7 (by omega), hcc 8 (by omega), hcc 9 (by omega), hcc 10 (by omega), hcc 11 (by omega), hcc 12 (by omega), hcc 13 (by omega), hcc 14 (by omega), hcc 15 (by omega)⟩

/-- Next of an animation: none if it ends. -/
def Anim.next (a : Anim) (now : Int) : Option Anim :=
  if a.kind = 1 then (if now - a.begin_ < a.dur then some a else none)
  else (if (a.state now).1 = 65536 * a.goal ∧ (a.state now).2 = 0 then none else some { a with x := (a.state now).1, v := (a.state now).2, now := now })
def Anim.late (a : Anim) (now : Int) : Bool := decide (a.kind = 2) && decide (now < a.now)
def motionR (now : Int) (a : Anim) : Rec := [a.node, a.prop, a.value now]
/-- The first error of a list. -/
def firstErr : List Anim → Int
  | [] => 0
  | a :: t => if a.err = 0 then firstErr t else a.err
def lateL (l : List Anim) (now : Int) : Bool := !btw now 0 1099511627776 || l.any fun a => a.late now
def advErr (l : List Anim) (now : Int) : Int := if 64 < l.length then 2 else if firstErr l ≠ 0 then firstErr l else if lateL l now then 1 else 0
def advOn (l : List Anim) (now : Int) : List Anim := if advErr l now = 0 then l.filterMap fun a => a.next now else []
def advOut (l : List Anim) (now : Int) : List Rec := if advErr l now = 0 then l.map (motionR now) else []
/-- All animations ahead of number k are valid. -/
def validTo (l : List Anim) (k : Nat) : Prop := ∀ i, i < k → (ga l i).err = 0
theorem firstErr_stop {l : List Anim} : ∀ {k : Nat}, validTo l k → k < l.length → (ga l k).err ≠ 0 → firstErr l = (ga l k).err := by
  induction l with
  | nil => intro k _ h; simp at h
  | cons a t ih =>
    intro k hv hk he
    cases k with
    | zero =>
      have e : ga (a :: t) 0 = a := rfl
      rw [e] at he ⊢
      simp only [firstErr]; rw [if_neg he]
    | succ k =>
      have e : ga (a :: t) (k + 1) = ga t k := rfl
      have h0 : a.err = 0 := hv 0 (by omega)
      rw [e] at he ⊢
      simp only [firstErr]; rw [if_pos h0]
      exact ih (fun i hi => hv (i + 1) (by omega)) (by simpa using hk) he
theorem firstErr_none {l : List Anim} (h : validTo l l.length) : firstErr l = 0 := by
  induction l with
  | nil => rfl
  | cons a t ih =>
    have h0 : a.err = 0 := h 0 (by simp)
    simp only [firstErr]; rw [if_pos h0]
    exact ih (fun i hi => h (i + 1) (by simpa using hi))
def lateTo (l : List Anim) (now : Int) (k : Nat) : Bool := !btw now 0 1099511627776 || (l.take k).any fun a => a.late now
theorem lateTo_succ {l : List Anim} {now : Int} {k : Nat} (h : k < l.length) : lateTo l now (k + 1) = (lateTo l now k || (ga l k).late now) := by
  have e : l.take (k + 1) = l.take k ++ [l[k]] := by rw [List.take_succ_eq_append_getElem h]
  have g : ga l k = l[k] := by simp [ga, h]
  rw [lateTo, e, List.any_append, lateTo, g]
  simp [Bool.or_assoc]
theorem lateTo_all (l : List Anim) (now : Int) : lateTo l now l.length = lateL l now := by rw [lateTo, lateL, List.take_length]
theorem take_ga {l : List Anim} {k : Nat} (h : k < l.length) : l.take (k + 1) = l.take k ++ [ga l k] := by
  rw [List.take_succ_eq_append_getElem h]
  simp [ga, h]
theorem ownsRow_ne {w : World} {base base' : Nat} {e e' : TypeId} {s s' n n' : Nat} {v v' : Value} {xs xs' : List Value} (h : w.ownsRow base e s v n xs) (h' : w.ownsRow base' e' s' v' n' xs') (hne : e ≠ e') : v.ownBlock = none ∨ v.ownBlock ≠ v'.ownBlock := by
  rcases h.2 with ⟨rfl, _⟩ | ⟨g, cap, cur, rfl, _, hg, _⟩
  · left; rfl
  · right
    rcases h'.2 with ⟨rfl, _⟩ | ⟨g', cap', cur', rfl, _, hg', _⟩
    · simp [Value.ownBlock]
    · intro he
      have : g = g' := by simpa [Value.ownBlock] using he
      subst this
      rw [hg] at hg'
      simp at hg'
      exact hne hg'.2
theorem ownsRow_below {w w' : World} {base : Nat} {e : TypeId} {size : Nat} {v : Value} {n : Nat} {xs : List Value} (h : w.ownsRow base e size v n xs) (hb : Below w.heap.size w w') : w'.ownsRow base e size v n xs := by
  refine ⟨h.1, ?_⟩
  rcases h.2 with hn | ⟨g, cap, cur, rfl, hbb, hg, rest⟩
  · exact .inl hn
  · exact .inr ⟨g, cap, cur, rfl, hbb, (hb.block g (lt_of_block hg)).trans hg, rest⟩
end Go.Proofs.Ytfcffmjmohkpoaa
