/- Plain mathematics of the law AnimationScript: no two animations of a list have one key, and Set and Advance keep that. -/
import Derived.Test.YtfcffmjmohkpoaaSetPlain
namespace Go.Proofs.Ytfcffmjmohkpoaa
set_option linter.unusedVariables false
set_option linter.unusedSimpArgs false

def Anim.key (a : Anim) : Int × Int := (a.node, a.prop)
def Keys (l : List Anim) : Prop := (l.map Anim.key).Nodup
theorem Keys.nil : Keys [] := List.nodup_nil
theorem next_key {a b : Anim} {now : Int} (h : a.next now = some b) : b.key = a.key := by
  unfold Anim.next at h
  split at h
  · split at h
    · cases h; rfl
    · cases h
  · split at h
    · cases h
    · cases h; rfl
theorem adv_sub (now : Int) : ∀ l : List Anim, ((l.filterMap fun a => a.next now).map Anim.key).Sublist (l.map Anim.key)
  | [] => List.Sublist.slnil
  | a :: t => by
    have ih := adv_sub now t
    cases h : a.next now with
    | none => rw [List.filterMap_cons_none (f := fun a : Anim => a.next now) h]; exact ih.cons _
    | some b => rw [List.filterMap_cons_some (f := fun a : Anim => a.next now) h, List.map_cons, List.map_cons, next_key h]; exact ih.cons_cons _
theorem Keys.adv {l : List Anim} (h : Keys l) (now : Int) : Keys (advOn l now) := by
  unfold advOn
  split
  · exact List.Nodup.sublist (adv_sub now l) h
  · exact Keys.nil
theorem settled_key (l : List Anim) (a : Anim) (now : Int) : (settled l a now).key = a.key := by
  unfold settled Anim.still Anim.after
  simp only
  repeat' split
  all_goals rfl
theorem sameKey_iff {o a : Anim} : sameKey o a = true ↔ o.key = a.key := by simp [sameKey, Anim.key]
theorem Keys.set {l : List Anim} (h : Keys l) (a : Anim) (now : Int) : Keys (setOn l a now) := by
  unfold setOn
  split
  · split
    · rename_i hp
      have hk : (l[place l a]).key = a.key := sameKey_iff.1 (List.findIdx_getElem (w := hp))
      unfold Keys
      have e : (l.set (place l a) (settled l a now)).map Anim.key = l.map Anim.key := by
        rw [List.map_set, settled_key, ← hk]
        apply List.ext_getElem (by simp)
        intro i h1 h2
        rw [List.getElem_set]
        split
        · rename_i e; subst e; simp
        · rfl
      rw [e]; exact h
    · rename_i hp
      have hn : ∀ x ∈ l, sameKey x a = false := by
        have : place l a = l.length := Nat.le_antisymm (List.findIdx_le_length) (by omega)
        unfold place at this
        exact List.findIdx_eq_length.1 this
      unfold Keys
      rw [List.map_append, List.map_cons, List.map_nil, settled_key]
      refine List.nodup_append.2 ⟨h, by simp, fun k hk k' hk' => ?_⟩
      obtain ⟨x, hx, rfl⟩ := List.mem_map.1 hk
      have := hn x hx
      simp at hk'
      subst hk'
      intro e
      rw [sameKey_iff.2 e] at this
      cases this
  · exact Keys.nil
theorem Keys.apart {l : List Anim} (h : Keys l) {i j : Nat} (hij : j < i) (hi : i < l.length) : ¬ ((ga l i).node = (ga l j).node ∧ (ga l i).prop = (ga l j).prop) := by
  rintro ⟨h1, h2⟩
  have hk := List.pairwise_iff_getElem.1 h j i (by simp; omega) (by simpa using hi) hij
  have e1 : ga l i = l[i] := by simp [ga, hi]
  have e2 : ga l j = l[j]'(by omega) := by simp [ga, (by omega : j < l.length)]
  rw [e1] at h1 h2
  rw [e2] at h1 h2
  apply hk
  simp [Anim.key, h1, h2]
end Go.Proofs.Ytfcffmjmohkpoaa
