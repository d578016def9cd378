/- Operations of a drawn region that a guard strikes out, taken all at once. Conditions: each one's guard is an operation that is struck out itself, or a root that holds the other value. -/
import Derived.Test.YtadkkkdecejkeaaMany
namespace Go.Proofs.Ytadkkkdecejkeaa
open Go
set_option linter.unusedVariables false
set_option linter.unusedSimpArgs false

section
variable {P : Program} {ops : Array Oper} {Q : Exit → Act → World → Prop} {md : Region.Mode} {S : World → Prop} {n : Nat}

def deadB (ops : Array Oper) (roots : List (Nat × Bool)) : List Nat → List Nat → Bool
  | [], _ => true
  | i :: is, dead => (match ops[i]? with
      | some o => o.dst.isSome && (match o.guard with
        | some (g, want) => dead.contains g || roots.contains (g, !want)
        | none => false)
      | none => false) && deadB ops roots is (i :: dead)

def maskV : List Bool → List Value → List Value
  | _, [] => []
  | [], x :: l => x :: l
  | b :: m, x :: l => (if b then undef else x) :: maskV m l
theorem maskV_t {m : List Bool} {x : Value} {l : List Value} : maskV (true :: m) (x :: l) = undef :: maskV m l := rfl
theorem maskV_f {m : List Bool} {x : Value} {l : List Value} : maskV (false :: m) (x :: l) = x :: maskV m l := rfl
theorem maskV_n {m : List Bool} : maskV m [] = [] := by cases m <;> rfl
theorem maskV_0 : ∀ {l : List Value}, maskV [] l = l
  | [] => rfl
  | _ :: _ => rfl

def maskAll (ops : Array Oper) : List Nat → List Bool → Option (List Bool)
  | [], m => some m
  | i :: is, m => match (ops[i]?).bind (·.dst) with
    | some j => if j < m.length then maskAll ops is (m.set j true) else none
    | none => none

theorem maskV_set : ∀ (m : List Bool) (l : List Value) (j : Nat), j < m.length → maskV (m.set j true) l = (maskV m l).set j undef
  | [], _, j, h => absurd h (by simp)
  | b :: m, [], j, h => by cases j <;> simp [maskV]
  | b :: m, x :: l, 0, h => by simp [maskV]
  | b :: m, x :: l, j + 1, h => by
    have h' : j < m.length := by simpa using h
    simp [maskV, maskV_set m l j h']
theorem maskV_false : ∀ (N : Nat) (l : List Value), maskV (List.replicate N false) l = l
  | 0, l => maskV_0
  | N + 1, [] => rfl
  | N + 1, x :: l => by rw [List.replicate_succ, maskV_f, maskV_false N l]

theorem yielded_keep {t : Array Value} {j g : Nat} {b : Bool} (h : yielded ops t g ≠ some b) : yielded ops (t.setIfInBounds j undef) g ≠ some b := by
  unfold yielded at *
  cases hd : (ops[g]?).bind (·.dst) with
  | none => simp
  | some d =>
    rw [hd] at h
    simp only [Option.bind_some] at h ⊢
    by_cases hjd : j = d
    · subst hjd
      by_cases hs : j < t.size
      · simp [hs, undef]
      · rw [Array.setIfInBounds_eq_of_size_le (by omega)]; exact h
    · rw [Array.getElem?_setIfInBounds_ne hjd]; exact h
theorem yielded_gone {t : Array Value} {j g : Nat} {o : Oper} {b : Bool} (ho : ops[g]? = some o) (hd : o.dst = some j) : yielded ops (t.setIfInBounds j undef) g ≠ some b := by
  unfold yielded
  rw [ho]
  simp only [Option.bind_some, hd]
  by_cases hs : j < t.size
  · simp [hs, undef]
  · rw [Array.setIfInBounds_eq_of_size_le (by omega), Array.getElem?_eq_none (by omega)]; simp

theorem runs_dead (roots : List (Nat × Bool)) : ∀ (is dead : List Nat) (m m' : List Bool) (l : List Value) (ds : List Deferred), deadB ops roots is dead = true → maskAll ops is m = some m' →
    (∀ r ∈ roots, yielded ops ⟨maskV m l⟩ r.1 ≠ some (!r.2)) → (∀ g ∈ dead, ∀ b, yielded ops ⟨maskV m l⟩ g ≠ some b) → Runs P ops S is ⟨⟨maskV m l⟩, ds⟩ ⟨⟨maskV m' l⟩, ds⟩
  | [], dead, m, m', l, ds, _, hm, _, _ => by
    simp only [maskAll, Option.some.injEq] at hm
    rw [hm]; exact rfl
  | i :: is, dead, m, m', l, ds, hd, hm, hr, hg => by
    cases ho : ops[i]? with
    | none => simp [deadB, ho] at hd
    | some o =>
      cases hj : o.dst with
      | none => simp [deadB, ho, hj] at hd
      | some j =>
        cases hgd : o.guard with
        | none => simp [deadB, ho, hj, hgd] at hd
        | some gw =>
          obtain ⟨g, want⟩ := gw
          simp only [deadB, ho, hj, hgd, Option.isSome_some, Bool.true_and, Bool.and_eq_true, Bool.or_eq_true, List.contains_iff_mem] at hd
          obtain ⟨h1, h2⟩ := hd
          simp only [maskAll, ho, Option.bind_some, hj] at hm
          split at hm
          case isFalse => cases hm
          case isTrue hlt =>
            have hw : Region.wanted o (yielded ops (maskV m l).toArray) = false := by
              have : yielded ops ⟨maskV m l⟩ g ≠ some want := by
                rcases h1 with h1 | h1
                · exact hg g h1 want
                · have := hr _ h1; simpa using this
              simp only [Region.wanted, hgd]
              simpa using this
            have e : (Act.put ⟨⟨maskV m l⟩, ds⟩ (some j) undef) = ⟨⟨maskV (m.set j true) l⟩, ds⟩ := by
              rw [maskV_set m l j hlt]
              simp [Act.put]
            have e2 : (⟨maskV (m.set j true) l⟩ : Array Value) = (⟨maskV m l⟩ : Array Value).setIfInBounds j undef := by
              rw [maskV_set m l j hlt]; simp
            refine Runs.cons ho hj (Or.inr ⟨hw, rfl⟩) ?_
            rw [e]
            refine runs_dead roots is (i :: dead) (m.set j true) m' l ds h2 hm (fun r hrr => ?_) (fun k hk b => ?_)
            · rw [e2]; exact yielded_keep (hr r hrr)
            · rw [e2]
              rcases List.mem_cons.1 hk with rfl | hk
              · exact yielded_gone ho hj
              · exact yielded_keep (hg k hk b)

/-- The roots hold what strikes the others out (or nothing at all). -/
def rootsOk (ops : Array Oper) (t : Array Value) : List (Nat × Bool) → Prop
  | [] => True
  | r :: rs => (yielded ops t r.1 = some r.2 ∨ yielded ops t r.1 = none) ∧ rootsOk ops t rs
theorem rootsOk_out {t : Array Value} : ∀ {rs : List (Nat × Bool)}, rootsOk ops t rs → ∀ r ∈ rs, yielded ops t r.1 ≠ some (!r.2)
  | [], _, r, hr => by cases hr
  | q :: rs, h, r, hr => by
    rcases List.mem_cons.1 hr with rfl | hr
    · rcases h.1 with h | h <;> rw [h] <;> simp
    · exact rootsOk_out h.2 r hr

theorem wpAnyT_dead (roots : List (Nat × Bool)) (is : List Nat) (N : Nat) (m' : List Bool) (listed : Array Bool) (fuel : Nat) (l : List Value) (ds : List Deferred) (w : World)
    (ht : tailB md ops n = true) (hQ : ∀ c a j v w, Q (.panic c) (a.put (some j) v) w → Q (.panic c) a w)
    (hs : seqB md ops n listed is = true) (hd : deadB ops roots is [] = true) (hm : maskAll ops is (List.replicate N false) = some m') (hr : rootsOk ops l.toArray roots) (hS : S w)
    (h : wpAnyT P md ops Q S n fuel (listAll listed is) ⟨(maskV m' l).toArray, ds⟩ w) : wpAnyT P md ops Q S n (fuel + is.length) listed ⟨l.toArray, ds⟩ w := by
  refine wpAnyT_many ht hQ is listed fuel _ _ w hs ?_ hS h
  have := runs_dead (P := P) (S := S) roots is [] (List.replicate N false) m' l ds hd hm (by rw [maskV_false]; exact rootsOk_out hr) (fun g hg => by cases hg)
  rw [maskV_false] at this
  exact this
end
end Go.Proofs.Ytadkkkdecejkeaa
