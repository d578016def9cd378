/- Plain facts for the reference's Resolve: ranks of open elements. No program in sight. -/
import Derived.Test.YtadkkkdecejkeaaBoxPlain
namespace Go.Proofs.Ytadkkkdecejkeaa
set_option linter.unusedVariables false
set_option linter.unusedSimpArgs false

theorem opens_prefix {f : List Bool} : ∀ {m i j : Nat}, i ≤ m → j < (opensTo f i).length → gn (opensTo f m) j = gn (opensTo f i) j
  | 0, i, j, hi, hj => by
    obtain rfl : i = 0 := by omega
    rfl
  | m + 1, i, j, hi, hj => by
    by_cases e : i = m + 1
    · subst e; rfl
    · have ih := opens_prefix (f := f) (m := m) (by omega) hj
      have hle : (opensTo f i).length ≤ (opensTo f m).length := by
        have hmono : ∀ q, i ≤ q → (opensTo f i).length ≤ (opensTo f q).length := by
          intro q hq
          induction q with
          | zero => obtain rfl : i = 0 := by omega
                    exact Nat.le_refl _
          | succ q ihq =>
            by_cases e2 : i = q + 1
            · subst e2; exact Nat.le_refl _
            · have := ihq (by omega)
              simp only [opensTo]
              split
              · exact this
              · simp; omega
        exact hmono m (by omega)
      simp only [opensTo]
      split
      · exact ih
      · rw [gn_append_lt (by omega)]; exact ih
theorem opens_below {f : List Bool} {i j : Nat} (hi : i ≤ f.length) (hj : j < (opensTo f i).length) : gn (opens f) j < i := by
  unfold opens
  rw [opens_prefix hi hj]
  exact (opensTo_mem hj).1
theorem opens_at {f : List Bool} {i : Nat} (hi : i < f.length) (h : gb f i = false) : (opensTo f i).length < (opens f).length ∧ gn (opens f) (opensTo f i).length = i := opensTo_rank hi h
theorem frz_keep {l : List Rec} {g : Bool} {P : List Int} {o : List Nat} {v : Int} {st : St} {i : Nat} : ∀ k, (∀ j, j < k → gn o j ≠ i) → gb (frz l g P o v st k).2 i = gb st.2 i
  | 0, _ => rfl
  | k + 1, h => by
    have ih := frz_keep (l := l) (g := g) (P := P) (o := o) (v := v) (st := st) k (fun j hj => h j (by omega))
    simp only [frz]
    split
    · rw [gb_set_other (h k (by omega))]; exact ih
    · exact ih
/-- Ahead of element i only elements below i have been frozen. -/
theorem frz_here {l : List Rec} {g : Bool} {P : List Int} {v : Int} {st : St} {i : Nat} (hi : i ≤ st.2.length) : gb (frz l g P (opens st.2) v st (opensTo st.2 i).length).2 i = gb st.2 i :=
  frz_keep _ fun j hj => by have := opens_below hi hj; omega
theorem frz_count_hit {l : List Rec} {g : Bool} {P : List Int} {v : Int} {st : St} {k : Nat} (hk : k < (opens st.2).length) (h : hitB v (cl l (gn (opens st.2) k) (tg l g P (opens st.2) k)) (tg l g P (opens st.2) k) = true) :
    (frz l g P (opens st.2) v st (k + 1)).2.count false + 1 = (frz l g P (opens st.2) v st k).2.count false := by
  rw [frz_hit h]
  have ho := frz_open (l := l) (g := g) (P := P) (v := v) (st := st) k k (Nat.le_refl _) hk
  have hm := (opensTo_mem (f := st.2) (m := st.2.length) (k := k) hk).1
  exact count_set_lt (by rw [(frz_len l g P (opens st.2) v st k).2]; exact hm) ho
theorem spTo_next (av gp : Int) (k : Nat) (h : 0 < k) : spTo av gp (k + 1) = spTo av gp k - gp := by
  unfold spTo
  obtain ⟨j, rfl⟩ : ∃ j, k = j + 1 := ⟨k - 1, by omega⟩
  have e1 : ((j + 1 + 1 - 1 : Nat) : Int) = (j : Int) + 1 := by omega
  have e2 : ((j + 1 - 1 : Nat) : Int) = (j : Int) := by omega
  rw [e1, e2, Int.mul_add]
  omega
theorem spTo_one (av gp : Int) : spTo av gp 1 = av ∧ spTo av gp 0 = av := by simp [spTo]
theorem tgTo_rank {l : List Rec} {g : Bool} {P : List Int} {f : List Bool} {i : Nat} (hi : i < f.length) (h : gb f i = false) :
    tg l g P (opens f) (opensTo f i).length = gf l i 0 + sgn g * gz P (opensTo f i).length := by
  unfold tg
  rw [(opens_at hi h).2]
theorem frozenTo_left {f : List Bool} {k : Nat} : (opensTo f (k + 1)).length = (opensTo f k).length + (if gb f k then 0 else 1) := by
  simp only [opensTo]; split <;> simp
end Go.Proofs.Ytadkkkdecejkeaa
