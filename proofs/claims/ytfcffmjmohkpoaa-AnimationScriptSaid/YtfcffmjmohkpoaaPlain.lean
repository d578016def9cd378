/- Plain mathematics of package fixed: what Share, Floor, Round, Clamp and Scale compute. No program in sight. -/
import Derived.KernelRfl
namespace Go.Proofs.Ytfcffmjmohkpoaa

/-- Element k of a list of numbers; 0 behind its end. -/
def gz (l : List Int) (k : Nat) : Int := l.getD k 0
theorem gz_set_same (l : List Int) (k : Nat) (x : Int) (h : k < l.length) : gz (l.set k x) k = x := by simp [gz, h]
theorem gz_set_other (l : List Int) (j k : Nat) (x : Int) (h : j ≠ k) : gz (l.set j x) k = gz l k := by
  simp [gz, h]
theorem gz_map (l : List Int) (f : Int → Int) (k : Nat) (h : k < l.length) : gz (l.map f) k = f (gz l k) := by simp [gz, h]
theorem gz_replicate (n k : Nat) : gz (List.replicate n 0) k = 0 := by
  simp [gz, List.getElem?_replicate]; split <;> rfl

/-- The sum of the first k numbers. -/
def sumTo (l : List Int) : Nat → Int
  | 0 => 0
  | k + 1 => sumTo l k + gz l k

/-- The first k numbers are weights. -/
def goodTo (l : List Int) (k : Nat) : Prop := ∀ j, j < k → 0 ≤ gz l j ∧ gz l j ≤ 2147483648

theorem goodTo_zero (l : List Int) : goodTo l 0 := fun _ h => absurd h (Nat.not_lt_zero _)
theorem goodTo_succ {l : List Int} {k : Nat} (h : goodTo l k) (h0 : 0 ≤ gz l k) (h1 : gz l k ≤ 2147483648) : goodTo l (k + 1) := by
  intro j hj
  by_cases e : j = k
  · subst e; exact ⟨h0, h1⟩
  · exact h j (by omega)
theorem goodTo_le {l : List Int} {k j : Nat} (h : goodTo l k) (hj : j ≤ k) : goodTo l j := fun i hi => h i (by omega)
theorem sumTo_bd {l : List Int} : ∀ {k : Nat}, goodTo l k → 0 ≤ sumTo l k ∧ sumTo l k ≤ k * 2147483648
  | 0, _ => by simp [sumTo]
  | k + 1, h => by
    have ih := sumTo_bd (goodTo_le h (Nat.le_succ k))
    have h1 := h k (by omega)
    simp only [sumTo]
    omega
theorem le_sumTo {l : List Int} : ∀ {n j : Nat}, goodTo l n → j < n → gz l j ≤ sumTo l n
  | 0, _, _, hj => absurd hj (Nat.not_lt_zero _)
  | n + 1, j, h, hj => by
    have hb := sumTo_bd (goodTo_le h (Nat.le_succ n))
    have h1 := h n (by omega)
    simp only [sumTo]
    by_cases e : j = n
    · subst e; omega
    · have := le_sumTo (j := j) (goodTo_le h (Nat.le_succ n)) (by omega); omega

/-- The index of the first greatest of the first k numbers. -/
def best (r : List Int) : Nat → Nat
  | 0 => 0
  | k + 1 => if gz r (best r k) < gz r k then k else best r k
theorem best_lt (r : List Int) : ∀ {k n : Nat}, k ≤ n → 0 < n → best r k < n
  | 0, _, _, h => h
  | k + 1, n, hk, h => by
    simp only [best]
    split
    · omega
    · exact best_lt r (by omega) h
theorem best_one (r : List Int) : best r 1 = 0 := by simp [best]

/-- One round: the greatest rest gets one more. -/
def giveP (p r : List Int) : List Int := p.set (best r r.length) (gz p (best r r.length) + 1)
def giveR (r : List Int) : List Int := r.set (best r r.length) (-1)
/-- n rounds. -/
def roundsP : Nat → List Int → List Int → List Int
  | 0, p, _ => p
  | n + 1, p, r => roundsP n (giveP p r) (giveR r)

theorem length_giveP (p r : List Int) : (giveP p r).length = p.length := by simp [giveP]
theorem length_giveR (r : List Int) : (giveR r).length = r.length := by simp [giveR]
theorem length_roundsP : ∀ (n : Nat) (p r : List Int), (roundsP n p r).length = p.length
  | 0, _, _ => rfl
  | n + 1, p, r => by rw [roundsP, length_roundsP n, length_giveP]

/-- The parts rounded down, and the rests. -/
def parts0 (total sum : Int) (ws : List Int) : List Int := ws.map fun x => total * x / sum
def rests0 (total sum : Int) (ws : List Int) : List Int := ws.map fun x => total * x % sum
/-- What is left behind k parts. -/
def leftTo (total sum : Int) (ws : List Int) : Nat → Int
  | 0 => total
  | k + 1 => leftTo total sum ws k - total * gz ws k / sum

def wsBad (ws : List Int) : Bool := ws.any fun x => decide (x < 0) || decide (2147483648 < x)
/-- The error of Share. -/
def shareErr (total : Int) (ws : List Int) : Int :=
  if 100 < ws.length then 2 else if total < 0 ∨ 1073741824 < total then 1 else if wsBad ws then 1 else 0
/-- The parts of Share. -/
def shareParts (total : Int) (ws : List Int) : List Int :=
  if shareErr total ws ≠ 0 then [] else
  if sumTo ws ws.length = 0 then List.replicate ws.length 0 else
  roundsP (leftTo total (sumTo ws ws.length) ws ws.length).toNat (parts0 total (sumTo ws ws.length) ws) (rests0 total (sumTo ws ws.length) ws)

theorem goodTo_of {ws : List Int} (h : wsBad ws = false) : goodTo ws ws.length := by
  intro j hj
  simp only [wsBad, List.any_eq_false] at h
  have := h ws[j] (List.getElem_mem hj)
  simp at this
  have e : gz ws j = ws[j] := by simp [gz, hj]
  rw [e]; omega
theorem bad_of {ws : List Int} {k : Nat} (hk : k < ws.length) (h : gz ws k < 0 ∨ 2147483648 < gz ws k) : wsBad ws = true := by
  simp only [wsBad, List.any_eq_true]
  have e : gz ws k = ws[k] := by simp [gz, hk]
  exact ⟨ws[k], List.getElem_mem hk, by rw [e] at h; simp; exact h⟩
theorem not_bad_of {ws : List Int} (h : goodTo ws ws.length) : wsBad ws = false := by
  simp only [wsBad, List.any_eq_false]
  intro x hx
  obtain ⟨j, hj, rfl⟩ := List.mem_iff_getElem.1 hx
  have := h j hj
  have e : gz ws j = ws[j] := by simp [gz, hj]
  rw [e] at this
  simp; omega

/-- All numbers lie from 0 to m. -/
def allTo (l : List Int) (m : Int) : Prop := ∀ j, j < l.length → 0 ≤ gz l j ∧ gz l j ≤ m
theorem allTo_giveP {p r : List Int} {m : Int} (h : allTo p m) : allTo (giveP p r) (m + 1) := by
  intro j hj
  rw [length_giveP] at hj
  have hj' := h j hj
  unfold giveP
  by_cases e : best r r.length = j
  · rw [e, gz_set_same _ _ _ hj]; omega
  · rw [gz_set_other _ _ _ _ e]; omega

theorem mul_bd {a b m k : Int} (ha : 0 ≤ a) (hb : 0 ≤ b) (h1 : a ≤ m) (h2 : b ≤ k) : 0 ≤ a * b ∧ a * b ≤ m * k :=
  ⟨Int.mul_nonneg ha hb, Int.mul_le_mul h1 h2 hb (by omega)⟩
theorem quot_bd {t x s : Int} (ht : 0 ≤ t) (hx : 0 ≤ x) (hs : 0 < s) (hle : x ≤ s) : 0 ≤ t * x / s ∧ t * x / s ≤ t := by
  refine ⟨Int.ediv_nonneg (Int.mul_nonneg ht hx) (by omega), ?_⟩
  have h1 : t * x ≤ t * s := Int.mul_le_mul_of_nonneg_left hle ht
  exact Int.le_trans (Int.ediv_le_ediv hs h1) (by rw [Int.mul_ediv_cancel _ (by omega)]; exact Int.le_refl _)
theorem leftTo_bd {t s : Int} {ws : List Int} {n : Nat} (hg : goodTo ws n) (ht : 0 ≤ t) (hs : 0 < s) (hle : ∀ j, j < n → gz ws j ≤ s) :
    ∀ k, k ≤ n → t - k * t ≤ leftTo t s ws k ∧ leftTo t s ws k ≤ t
  | 0, _ => by simp [leftTo]
  | k + 1, h => by
    have ih := leftTo_bd hg ht hs hle k (by omega)
    have hq := quot_bd ht (hg k (by omega)).1 hs (hle k (by omega))
    have e : ((k + 1 : Nat) : Int) * t = k * t + t := by rw [Int.natCast_add, Int.add_mul]; simp
    rw [e]
    simp only [leftTo]
    omega

/-- The first k numbers of a list, then zeros. -/
def stage (l : List Int) (k : Nat) : List Int := l.take k ++ List.replicate (l.length - k) 0
theorem length_stage (l : List Int) (k : Nat) : (stage l k).length = l.length := by simp [stage]; omega
theorem stage_zero (l : List Int) : stage l 0 = List.replicate l.length 0 := by simp [stage]
theorem stage_all (l : List Int) : stage l l.length = l := by simp [stage]
theorem stage_set (l : List Int) (k : Nat) (h : k < l.length) : (stage l k).set k (gz l k) = stage l (k + 1) := by
  apply List.ext_getElem?
  intro j
  simp only [stage, gz, List.getElem?_set, List.length_append, List.length_take, List.length_replicate, List.getElem?_append, List.getElem?_take, List.getElem?_replicate]
  have e1 : min k l.length = k := by omega
  have e2 : min (k + 1) l.length = k + 1 := by omega
  rw [e1, e2]
  by_cases c : k = j
  · subst c
    have : k < k + (l.length - k) := by omega
    simp [this, h]
  · by_cases d : j < k
    · simp [c, d, Nat.lt_succ_of_lt d]
    · have d' : ¬ j < k + 1 := by omega
      simp only [c, d, d', if_false]
      congr 1
      exact propext ⟨fun _ => by omega, fun _ => by omega⟩

def clampZ (x low high : Int) : Int := if x < low ∨ high < low then low else if high < x then high else x
end Go.Proofs.Ytfcffmjmohkpoaa
