/- Plain mathematics of Resolve: the sizes of a row's elements. No program in sight. -/
import Derived.Test.YtadkkkdecejkeaaPlainD
import Derived.Test.YtadkkkdecejkeaaRecs
namespace Go.Proofs.Ytadkkkdecejkeaa
set_option linter.unusedVariables false
set_option linter.unusedSimpArgs false

def lenB (x : Int) : Bool := decide (0 ≤ x) && decide (x ≤ 1048576)
theorem lenB_iff {x : Int} : lenB x = true ↔ 0 ≤ x ∧ x ≤ 1048576 := by simp [lenB]
def cntB (x : Int) : Bool := decide (0 ≤ x) && decide (x ≤ 1000)
theorem cntB_iff {x : Int} : cntB x = true ↔ 0 ≤ x ∧ x ≤ 1000 := by simp [cntB]
/-- Element i of a row is valid. -/
def flexB (l : List Rec) (i : Nat) : Bool := lenB (gf l i 0) && lenB (gf l i 1) && lenB (gf l i 2) && cntB (gf l i 3) && cntB (gf l i 4)
theorem flexB_iff {l : List Rec} {i : Nat} : flexB l i = true ↔ (0 ≤ gf l i 0 ∧ gf l i 0 ≤ 1048576) ∧ (0 ≤ gf l i 1 ∧ gf l i 1 ≤ 1048576) ∧ (0 ≤ gf l i 2 ∧ gf l i 2 ≤ 1048576) ∧ (0 ≤ gf l i 3 ∧ gf l i 3 ≤ 1000) ∧ (0 ≤ gf l i 4 ∧ gf l i 4 ≤ 1000) := by
  simp only [flexB, Bool.and_eq_true, lenB_iff, cntB_iff, and_assoc]
def flexTo (l : List Rec) (k : Nat) : Prop := ∀ i, i < k → flexB l i = true
theorem flexTo_zero (l : List Rec) : flexTo l 0 := fun _ h => absurd h (Nat.not_lt_zero _)
theorem flexTo_succ {l : List Rec} {k : Nat} (h : flexTo l k) (hk : flexB l k = true) : flexTo l (k + 1) := fun i hi => by
  by_cases e : i = k
  · subst e; exact hk
  · exact h i (by omega)
/-- The error of Resolve. -/
def flexErr (av gp : Int) (l : List Rec) : Int :=
  if 100 < l.length then 2 else if (lenB av && lenB gp) = false then 1 else if (List.range l.length).all (flexB l) then 0 else 1
theorem flexErr_long {av gp : Int} {l : List Rec} (h : 100 < l.length) : flexErr av gp l = 2 := by unfold flexErr; rw [if_pos h]
theorem flexErr_args {av gp : Int} {l : List Rec} (h : l.length ≤ 100) (hb : (lenB av && lenB gp) = false) : flexErr av gp l = 1 := by unfold flexErr; rw [if_neg (by omega), if_pos hb]
theorem flexErr_bad {av gp : Int} {l : List Rec} {k : Nat} (h : l.length ≤ 100) (hk : k < l.length) (hb : flexB l k = false) : flexErr av gp l = 1 := by
  unfold flexErr
  rw [if_neg (by omega)]
  split
  · rfl
  · rw [if_neg]
    simp only [List.all_eq_true, List.mem_range]
    intro hh
    rw [hh k hk] at hb; cases hb
theorem flexErr_ok {av gp : Int} {l : List Rec} (h : l.length ≤ 100) (h2 : (lenB av && lenB gp) = true) (hb : flexTo l l.length) : flexErr av gp l = 0 := by
  unfold flexErr
  rw [if_neg (by omega), if_neg (by simp [h2]), if_pos]
  simp only [List.all_eq_true, List.mem_range]
  exact hb
theorem flexErr_inv {av gp : Int} {l : List Rec} (h : flexErr av gp l = 0) : l.length ≤ 100 ∧ (lenB av && lenB gp) = true ∧ flexTo l l.length := by
  unfold flexErr at h
  by_cases c : 100 < l.length
  · rw [if_pos c] at h; omega
  · rw [if_neg c] at h
    by_cases d : (lenB av && lenB gp) = false
    · rw [if_pos d] at h; omega
    · rw [if_neg d] at h
      by_cases e : (List.range l.length).all (flexB l) = true
      · refine ⟨by omega, by simpa using d, fun i hi => ?_⟩
        simp only [List.all_eq_true, List.mem_range] at e
        exact e i hi
      · rw [if_neg e] at h; omega

def gb (f : List Bool) (i : Nat) : Bool := f.getD i true
def gn (o : List Nat) (k : Nat) : Nat := o.getD k 0
theorem gb_set_same {f : List Bool} {i : Nat} (h : i < f.length) (b : Bool) : gb (f.set i b) i = b := by simp [gb, h]
theorem gb_set_other {f : List Bool} {i j : Nat} (h : i ≠ j) (b : Bool) : gb (f.set i b) j = gb f j := by simp [gb, h]
theorem gn_append_lt {o : List Nat} {k : Nat} (h : k < o.length) (x : Nat) : gn (o ++ [x]) k = gn o k := by simp [gn, List.getElem?_append, h]
theorem gn_append_eq (o : List Nat) (x : Nat) : gn (o ++ [x]) o.length = x := by simp [gn]

/-- The size of element i, brought within its bounds. -/
def cl (l : List Rec) (i : Nat) (x : Int) : Int := clampZ x (gf l i 1) (gf l i 2)
theorem cl_bd {l : List Rec} {i : Nat} (h : flexB l i = true) (x : Int) : 0 ≤ cl l i x ∧ cl l i x ≤ 1048576 := by
  have := flexB_iff.1 h
  unfold cl clampZ
  split
  · omega
  · split <;> omega
def spTo (av gp : Int) (k : Nat) : Int := av - gp * ((k - 1 : Nat) : Int)
def size0 (l : List Rec) : List Int := (List.range l.length).map fun i => cl l i (gf l i 0)
theorem size0_len (l : List Rec) : (size0 l).length = l.length := by simp [size0]
theorem size0_at {l : List Rec} {i : Nat} (h : i < l.length) : gz (size0 l) i = cl l i (gf l i 0) := by simp [size0, gz, h]
/-- Element i's weight; g: the row grows. -/
def wOf (l : List Rec) (g : Bool) (i : Nat) : Int := if g then gf l i 3 else gf l i 4 * gf l i 0
theorem wOf_bd {l : List Rec} {g : Bool} {i : Nat} (h : flexB l i = true) : 0 ≤ wOf l g i ∧ wOf l g i ≤ 1048576000 := by
  have := flexB_iff.1 h
  unfold wOf
  cases g
  · simp only [Bool.false_eq_true, if_false]
    have := mul_bd (a := gf l i 4) (b := gf l i 0) (m := 1000) (k := 1048576) (by omega) (by omega) (by omega) (by omega)
    omega
  · simp only [if_true]; omega
def awayB (l : List Rec) (g : Bool) (i : Nat) : Bool := if g then decide (cl l i (gf l i 0) < gf l i 0) else decide (gf l i 0 < cl l i (gf l i 0))
def frozen0 (l : List Rec) (g : Bool) : List Bool := (List.range l.length).map fun i => decide (wOf l g i = 0) || awayB l g i
theorem frozen0_len (l : List Rec) (g : Bool) : (frozen0 l g).length = l.length := by simp [frozen0]
theorem frozen0_at {l : List Rec} {g : Bool} {i : Nat} (h : i < l.length) : gb (frozen0 l g) i = (decide (wOf l g i = 0) || awayB l g i) := by simp [frozen0, gb, h]

/-- The first k of the elements that are not frozen. -/
def opensTo (f : List Bool) : Nat → List Nat
  | 0 => []
  | k + 1 => if gb f k then opensTo f k else opensTo f k ++ [k]
def opens (f : List Bool) : List Nat := opensTo f f.length
theorem opensTo_yes {f : List Bool} {k : Nat} (h : gb f k = true) : opensTo f (k + 1) = opensTo f k := by simp [opensTo, h]
theorem opensTo_no {f : List Bool} {k : Nat} (h : gb f k = false) : opensTo f (k + 1) = opensTo f k ++ [k] := by simp [opensTo, h]
theorem opensTo_le (f : List Bool) : ∀ k, (opensTo f k).length ≤ k
  | 0 => Nat.le_refl _
  | k + 1 => by
    have := opensTo_le f k
    simp only [opensTo]; split <;> simp <;> omega
/-- The place of an open element among the open ones. -/
theorem opensTo_rank {f : List Bool} : ∀ {m i : Nat}, i < m → gb f i = false → (opensTo f i).length < (opensTo f m).length ∧ gn (opensTo f m) (opensTo f i).length = i
  | 0, _, h, _ => absurd h (Nat.not_lt_zero _)
  | m + 1, i, h, hi => by
    by_cases e : i = m
    · subst e
      rw [opensTo_no hi]
      exact ⟨by simp, gn_append_eq _ _⟩
    · obtain ⟨h1, h2⟩ := opensTo_rank (m := m) (by omega) hi
      simp only [opensTo]
      split
      · exact ⟨h1, h2⟩
      · exact ⟨by simp; omega, by rw [gn_append_lt h1]; exact h2⟩
theorem opensTo_mem {f : List Bool} : ∀ {m k : Nat}, k < (opensTo f m).length → gn (opensTo f m) k < m ∧ gb f (gn (opensTo f m) k) = false ∧ (opensTo f (gn (opensTo f m) k)).length = k
  | 0, _, h => absurd h (Nat.not_lt_zero _)
  | m + 1, k, h => by
    cases c : gb f m with
    | true =>
      rw [opensTo_yes c] at h ⊢
      obtain ⟨h1, h2⟩ := opensTo_mem h
      exact ⟨by omega, h2⟩
    | false =>
      rw [opensTo_no c] at h ⊢
      by_cases e : k < (opensTo f m).length
      · rw [gn_append_lt e]
        obtain ⟨h1, h2⟩ := opensTo_mem e
        exact ⟨by omega, h2⟩
      · have : k = (opensTo f m).length := by simp at h; omega
        subst this
        rw [gn_append_eq]
        exact ⟨by omega, c, rfl⟩
theorem opensTo_inj {f : List Bool} {m j k : Nat} (hj : j < (opensTo f m).length) (hk : k < (opensTo f m).length) (h : gn (opensTo f m) j = gn (opensTo f m) k) : j = k := by
  have a := (opensTo_mem hj).2.2
  have b := (opensTo_mem hk).2.2
  rw [h] at a; omega
theorem opensTo_count {f : List Bool} : ∀ {m : Nat}, m ≤ f.length → (opensTo f m).length = (f.take m).count false
  | 0, _ => by simp [opensTo]
  | m + 1, h => by
    have ih := opensTo_count (f := f) (m := m) (by omega)
    have hm : m < f.length := by omega
    have e : gb f m = f[m] := by simp [gb, hm]
    rw [List.take_succ_eq_append_getElem hm, List.count_append, ← ih, ← e]
    cases c : gb f m
    · rw [opensTo_no c]; simp
    · rw [opensTo_yes c]; simp
theorem opens_count (f : List Bool) : (opens f).length = f.count false := by
  have := opensTo_count (f := f) (Nat.le_refl _)
  rwa [List.take_length] at this
/-- Sizes change nothing: the open elements below i, where an element from i on is frozen. -/
theorem opensTo_congr {f h : List Bool} : ∀ k, (∀ i, i < k → gb f i = gb h i) → opensTo f k = opensTo h k
  | 0, _ => rfl
  | k + 1, e => by simp only [opensTo]; rw [e k (by omega), opensTo_congr k (fun i hi => e i (by omega))]

def wts (l : List Rec) (g : Bool) (o : List Nat) : List Int := o.map (wOf l g)
theorem wts_len (l : List Rec) (g : Bool) (o : List Nat) : (wts l g o).length = o.length := by simp [wts]
theorem wts_at {l : List Rec} {g : Bool} {o : List Nat} {k : Nat} (h : k < o.length) : gz (wts l g o) k = wOf l g (gn o k) := by simp [wts, gz, gn, h]
def freeTo (l : List Rec) (sp : Int) (s : List Int) (f : List Bool) : Nat → Int
  | 0 => sp
  | k + 1 => freeTo l sp s f k - (if gb f k then gz s k else gf l k 0)
def sgn (g : Bool) : Int := if g then 1 else -1
def tot (l : List Rec) (g : Bool) (sp : Int) (s : List Int) (f : List Bool) : Int := max (sgn g * freeTo l sp s f f.length) 0
def prts (l : List Rec) (g : Bool) (sp : Int) (s : List Int) (f : List Bool) : List Int := shareParts (tot l g sp s f) (wts l g (opens f))
/-- The target of the open element of place k. -/
def tg (l : List Rec) (g : Bool) (P : List Int) (o : List Nat) (k : Nat) : Int := gf l (gn o k) 0 + sgn g * gz P k
def vTo (l : List Rec) (g : Bool) (P : List Int) (o : List Nat) : Nat → Int
  | 0 => 0
  | k + 1 => vTo l g P o k + (cl l (gn o k) (tg l g P o k) - tg l g P o k)
def tgTo (n : Nat) (l : List Rec) (g : Bool) (P : List Int) (o : List Nat) : Nat → List Int
  | 0 => List.replicate n 0
  | k + 1 => (tgTo n l g P o k).set (gn o k) (tg l g P o k)
theorem tgTo_len (n : Nat) (l : List Rec) (g : Bool) (P : List Int) (o : List Nat) : ∀ k, (tgTo n l g P o k).length = n
  | 0 => by simp [tgTo]
  | k + 1 => by simp [tgTo, tgTo_len n l g P o k]
theorem tgTo_at {n : Nat} {l : List Rec} {g : Bool} {P : List Int} {f : List Bool} {m : Nat} (hmn : m ≤ n) : ∀ {k j : Nat}, j < k → k ≤ (opensTo f m).length → gz (tgTo n l g P (opensTo f m) k) (gn (opensTo f m) j) = tg l g P (opensTo f m) j
  | 0, _, h, _ => absurd h (Nat.not_lt_zero _)
  | k + 1, j, h, hk => by
    simp only [tgTo]
    by_cases e : j = k
    · subst e
      rw [gz_set_same]
      rw [tgTo_len]
      have := (opensTo_mem (f := f) (m := m) (k := j) (by omega)).1
      omega
    · rw [gz_set_other _ _ _ _ (fun e' => e (opensTo_inj (by omega) (by omega) e'.symm))]
      exact tgTo_at hmn (by omega) (by omega)
/-- Whether an element of target t and size n is frozen, where the sizes differ by v from the targets. -/
def hitB (v n t : Int) : Bool := decide (v = 0) || (decide (0 < v) && decide (t < n)) || (decide (v < 0) && decide (n < t))
abbrev St := List Int × List Bool
def frz (l : List Rec) (g : Bool) (P : List Int) (o : List Nat) (v : Int) (st : St) : Nat → St
  | 0 => st
  | k + 1 => if hitB v (cl l (gn o k) (tg l g P o k)) (tg l g P o k) then ((frz l g P o v st k).1.set (gn o k) (cl l (gn o k) (tg l g P o k)), (frz l g P o v st k).2.set (gn o k) true) else frz l g P o v st k
theorem frz_hit {l : List Rec} {g : Bool} {P : List Int} {o : List Nat} {v : Int} {st : St} {k : Nat} (h : hitB v (cl l (gn o k) (tg l g P o k)) (tg l g P o k) = true) :
    frz l g P o v st (k + 1) = ((frz l g P o v st k).1.set (gn o k) (cl l (gn o k) (tg l g P o k)), (frz l g P o v st k).2.set (gn o k) true) := by simp only [frz]; rw [if_pos h]
theorem frz_miss {l : List Rec} {g : Bool} {P : List Int} {o : List Nat} {v : Int} {st : St} {k : Nat} (h : hitB v (cl l (gn o k) (tg l g P o k)) (tg l g P o k) = false) :
    frz l g P o v st (k + 1) = frz l g P o v st k := by simp only [frz]; rw [if_neg (by rw [h]; simp)]
theorem frz_len (l : List Rec) (g : Bool) (P : List Int) (o : List Nat) (v : Int) (st : St) : ∀ k, (frz l g P o v st k).1.length = st.1.length ∧ (frz l g P o v st k).2.length = st.2.length
  | 0 => ⟨rfl, rfl⟩
  | k + 1 => by
    have := frz_len l g P o v st k
    simp only [frz]; split
    · simpa using this
    · exact this
/-- One round. -/
def stepB (l : List Rec) (g : Bool) (sp : Int) (st : St) : St :=
  frz l g (prts l g sp st.1 st.2) (opens st.2) (vTo l g (prts l g sp st.1 st.2) (opens st.2) (opens st.2).length) st (opens st.2).length
/-- At most m rounds. -/
def finB (l : List Rec) (g : Bool) (sp : Int) : Nat → St → List Int
  | 0, st => st.1
  | m + 1, st => if st.2.count false = 0 then st.1 else finB l g sp m (stepB l g sp st)
theorem finB_end {l : List Rec} {g : Bool} {sp : Int} {m : Nat} {st : St} (h : st.2.count false = 0) : finB l g sp m st = st.1 := by
  cases m with
  | zero => rfl
  | succ m => simp only [finB]; rw [if_pos h]
def growsB (av gp : Int) (l : List Rec) : Bool := decide (sumTo (size0 l) l.length ≤ spTo av gp l.length)
/-- What Resolve returns where it gives no error. -/
def resOk (av gp : Int) (l : List Rec) : List Int := finB l (growsB av gp l) (spTo av gp l.length) l.length (size0 l, frozen0 l (growsB av gp l))
def resL (av gp : Int) (l : List Rec) : List Int := if flexErr av gp l = 0 then resOk av gp l else []

/-- A state of a row of n elements. -/
structure StOk (n : Nat) (st : St) : Prop where
  ls : st.1.length = n
  lf : st.2.length = n
  bd : ∀ i, i < n → 0 ≤ gz st.1 i ∧ gz st.1 i ≤ 1048576
theorem StOk.start {l : List Rec} (h : flexTo l l.length) (g : Bool) : StOk l.length (size0 l, frozen0 l g) :=
  ⟨size0_len l, frozen0_len l g, fun i hi => by show 0 ≤ gz (size0 l) i ∧ _; rw [size0_at hi]; exact cl_bd (h i hi) _⟩
theorem StOk.set {n : Nat} {st : St} (h : StOk n st) {i : Nat} {x : Int} (h0 : 0 ≤ x) (h1 : x ≤ 1048576) (b : Bool) : StOk n (st.1.set i x, st.2.set i b) :=
  ⟨by simpa using h.ls, by simpa using h.lf, fun j hj => by
    show 0 ≤ gz (st.1.set i x) j ∧ _
    by_cases e : i = j
    · subst e; rw [gz_set_same _ _ _ (by rw [h.ls]; exact hj)]; exact ⟨h0, h1⟩
    · rw [gz_set_other _ _ _ _ e]; exact h.bd j hj⟩
theorem StOk.frz {n : Nat} {st : St} {l : List Rec} {g : Bool} {P : List Int} {v : Int} (h : StOk n st) (hn : l.length = n) (hl : flexTo l l.length) :
    ∀ k, k ≤ (opens st.2).length → StOk n (frz l g P (opens st.2) v st k)
  | 0, _ => h
  | k + 1, hk => by
    have ih := StOk.frz (g := g) (P := P) (v := v) h hn hl k (by omega)
    simp only [Proofs.Ytadkkkdecejkeaa.frz]
    split
    · have hm := (opensTo_mem (f := st.2) (m := st.2.length) (k := k) (by unfold opens at hk; omega)).1
      have := h.lf
      have hb := cl_bd (hl (gn (opens st.2) k) (by unfold opens; omega)) (tg l g P (opens st.2) k)
      exact ih.set hb.1 hb.2 true
    · exact ih
theorem StOk.step {n : Nat} {st : St} {l : List Rec} {g : Bool} {sp : Int} (h : StOk n st) (hn : l.length = n) (hl : flexTo l l.length) : StOk n (stepB l g sp st) :=
  h.frz hn hl _ (Nat.le_refl _)

theorem freeTo_bd {n : Nat} {st : St} {l : List Rec} {sp : Int} (h : StOk n st) (hn : l.length = n) (hl : flexTo l l.length) : ∀ k, k ≤ n → sp - 1048576 * (k : Int) ≤ freeTo l sp st.1 st.2 k ∧ freeTo l sp st.1 st.2 k ≤ sp
  | 0, _ => by simp [freeTo]
  | k + 1, hk => by
    have ih := freeTo_bd (sp := sp) h hn hl k (by omega)
    have hb := h.bd k (by omega)
    have hf := (flexB_iff.1 (hl k (by omega))).1
    simp only [freeTo]
    split <;> omega
theorem spTo_bd {av gp : Int} {n : Nat} (h0 : 0 ≤ av) (h1 : av ≤ 1048576) (g0 : 0 ≤ gp) (g1 : gp ≤ 1048576) (hn : n ≤ 100) : -104857600 ≤ spTo av gp n ∧ spTo av gp n ≤ 1048576 := by
  unfold spTo
  have := mul_bd (a := gp) (b := ((n - 1 : Nat) : Int)) (m := 1048576) (k := 100) g0 (by omega) g1 (by omega)
  omega
theorem tot_bd {n : Nat} {st : St} {l : List Rec} {g : Bool} {sp : Int} (h : StOk n st) (hn : l.length = n) (hl : flexTo l l.length) (h100 : n ≤ 100) (hs : -104857600 ≤ sp ∧ sp ≤ 1048576) :
    0 ≤ tot l g sp st.1 st.2 ∧ tot l g sp st.1 st.2 ≤ 1073741824 := by
  have := freeTo_bd (sp := sp) h hn hl n (Nat.le_refl _)
  unfold tot sgn
  rw [h.lf]
  cases g <;> simp <;> omega
theorem wts_good {f : List Bool} {l : List Rec} {g : Bool} {m : Nat} (hm : m ≤ l.length) (hl : flexTo l l.length) : goodTo (wts l g (opensTo f m)) (wts l g (opensTo f m)).length := by
  intro j hj
  rw [wts_len] at hj
  rw [wts_at hj]
  have := (opensTo_mem hj).1
  have := wOf_bd (g := g) (hl (gn (opensTo f m) j) (by omega))
  omega
theorem prts_facts {n : Nat} {st : St} {l : List Rec} {g : Bool} {sp : Int} (h : StOk n st) (hn : l.length = n) (hl : flexTo l l.length) (h100 : n ≤ 100) (hs : -104857600 ≤ sp ∧ sp ≤ 1048576) :
    (prts l g sp st.1 st.2).length = (opens st.2).length ∧ (∀ k, k < (opens st.2).length → 0 ≤ gz (prts l g sp st.1 st.2) k ∧ gz (prts l g sp st.1 st.2) k ≤ 1073741824) := by
  have ht := tot_bd (g := g) h hn hl h100 hs
  have hle := opensTo_le st.2 st.2.length
  have hg := wts_good (f := st.2) (g := g) (m := st.2.length) (by rw [h.lf, hn]; exact Nat.le_refl _) hl
  have hlf := h.lf
  obtain ⟨_, h2, h3, _⟩ := sums_facts (T := tot l g sp st.1 st.2) (ws := wts l g (opens st.2)) ht.1 ht.2 (by rw [wts_len]; unfold opens; omega) hg
  rw [wts_len] at h2 h3
  exact ⟨h2, fun k hk => ⟨(h3 k hk).lo, Int.le_trans (h3 k hk).hi ht.2⟩⟩
theorem tg_bd {l : List Rec} {g : Bool} {P : List Int} {f : List Bool} {m k : Nat} (hm : m ≤ l.length) (hl : flexTo l l.length) (hk : k < (opensTo f m).length) (hP : 0 ≤ gz P k ∧ gz P k ≤ 1073741824) :
    -1073741824 ≤ tg l g P (opensTo f m) k ∧ tg l g P (opensTo f m) k ≤ 1074790400 := by
  have h1 := (opensTo_mem hk).1
  have := (flexB_iff.1 (hl (gn (opensTo f m) k) (by omega))).1
  unfold tg sgn
  cases g <;> simp <;> omega
theorem vTo_bd {l : List Rec} {g : Bool} {P : List Int} {f : List Bool} {m : Nat} (hm : m ≤ l.length) (hl : flexTo l l.length) (hP : ∀ k, k < (opensTo f m).length → 0 ≤ gz P k ∧ gz P k ≤ 1073741824) :
    ∀ k, k ≤ (opensTo f m).length → -2147483648 * (k : Int) ≤ vTo l g P (opensTo f m) k ∧ vTo l g P (opensTo f m) k ≤ 2147483648 * (k : Int)
  | 0, _ => by simp [vTo]
  | k + 1, hk => by
    have ih := vTo_bd (g := g) hm hl hP k (by omega)
    have hkk : k < (opensTo f m).length := by omega
    have ht := tg_bd (g := g) hm hl hkk (hP k hkk)
    have h1 := (opensTo_mem hkk).1
    have hc := cl_bd (hl (gn (opensTo f m) k) (by omega)) (tg l g P (opensTo f m) k)
    simp only [vTo]
    omega

/-! ### each round freezes an element -/
theorem frz_open {l : List Rec} {g : Bool} {P : List Int} {v : Int} {st : St} : ∀ k j, k ≤ j → j < (opens st.2).length → gb (frz l g P (opens st.2) v st k).2 (gn (opens st.2) j) = false
  | 0, j, _, hj => (opensTo_mem hj).2.1
  | k + 1, j, hkj, hj => by
    have ih := frz_open (l := l) (g := g) (P := P) (v := v) (st := st) k j (by omega) hj
    simp only [frz]
    split
    · rw [gb_set_other (fun e => by have := opensTo_inj (f := st.2) (m := st.2.length) (j := k) (k := j) (by unfold opens at hj; omega) hj e; omega)]
      exact ih
    · exact ih
theorem count_set_lt {f : List Bool} {i : Nat} (hi : i < f.length) (h : gb f i = false) : (f.set i true).count false + 1 = f.count false := by
  have e : f[i] = false := by simpa [gb, hi] using h
  have hp : 0 < f.count false := List.count_pos_iff.2 (by rw [← e]; exact List.getElem_mem hi)
  rw [List.count_set hi]
  simp [e]
  omega
theorem frz_count {l : List Rec} {g : Bool} {P : List Int} {v : Int} {st : St} : ∀ k, k ≤ (opens st.2).length →
    (frz l g P (opens st.2) v st k).2.count false ≤ st.2.count false ∧
    (∀ j, j < k → hitB v (cl l (gn (opens st.2) j) (tg l g P (opens st.2) j)) (tg l g P (opens st.2) j) = true → (frz l g P (opens st.2) v st k).2.count false < st.2.count false)
  | 0, _ => ⟨Nat.le_refl _, fun j hj => absurd hj (Nat.not_lt_zero _)⟩
  | k + 1, hk => by
    obtain ⟨h1, h2⟩ := frz_count (l := l) (g := g) (P := P) (v := v) (st := st) k (by omega)
    have hlen := (frz_len l g P (opens st.2) v st k).2
    have ho := frz_open (l := l) (g := g) (P := P) (v := v) (st := st) k k (Nat.le_refl _) (by omega)
    have hm := (opensTo_mem (f := st.2) (m := st.2.length) (k := k) (by unfold opens at hk; omega)).1
    by_cases c : hitB v (cl l (gn (opens st.2) k) (tg l g P (opens st.2) k)) (tg l g P (opens st.2) k) = true
    · rw [frz_hit c]
      have := count_set_lt (by rw [hlen]; exact hm) ho
      exact ⟨by show List.count false (List.set _ _ _) ≤ _; unfold opens at *; omega, fun j _ _ => by show List.count false (List.set _ _ _) < _; unfold opens at *; omega⟩
    · have c' : hitB v (cl l (gn (opens st.2) k) (tg l g P (opens st.2) k)) (tg l g P (opens st.2) k) = false := by simpa using c
      rw [frz_miss c']
      refine ⟨h1, fun j hj hh => ?_⟩
      by_cases e : j = k
      · subst e; rw [c'] at hh; cases hh
      · exact h2 j (by omega) hh
theorem vTo_nonpos {l : List Rec} {g : Bool} {P : List Int} {o : List Nat} : ∀ k, (∀ j, j < k → cl l (gn o j) (tg l g P o j) ≤ tg l g P o j) → vTo l g P o k ≤ 0
  | 0, _ => by simp [vTo]
  | k + 1, h => by
    have := vTo_nonpos (l := l) (g := g) (P := P) (o := o) k (fun j hj => h j (by omega))
    have := h k (by omega)
    simp only [vTo]; omega
theorem vTo_nonneg {l : List Rec} {g : Bool} {P : List Int} {o : List Nat} : ∀ k, (∀ j, j < k → tg l g P o j ≤ cl l (gn o j) (tg l g P o j)) → 0 ≤ vTo l g P o k
  | 0, _ => by simp [vTo]
  | k + 1, h => by
    have := vTo_nonneg (l := l) (g := g) (P := P) (o := o) k (fun j hj => h j (by omega))
    have := h k (by omega)
    simp only [vTo]; omega
theorem some_hit {l : List Rec} {g : Bool} {P : List Int} {o : List Nat} (ho : 0 < o.length) : ∃ j, j < o.length ∧ hitB (vTo l g P o o.length) (cl l (gn o j) (tg l g P o j)) (tg l g P o j) = true := by
  by_cases c : ∃ j, j < o.length ∧ hitB (vTo l g P o o.length) (cl l (gn o j) (tg l g P o j)) (tg l g P o j) = true
  · exact c
  · exfalso
    have hno : ∀ j, j < o.length → hitB (vTo l g P o o.length) (cl l (gn o j) (tg l g P o j)) (tg l g P o j) = false := fun j hj => by
      cases e : hitB (vTo l g P o o.length) (cl l (gn o j) (tg l g P o j)) (tg l g P o j) with
      | false => rfl
      | true => exact absurd ⟨j, hj, e⟩ c
    obtain ⟨v, hv⟩ : ∃ v, vTo l g P o o.length = v := ⟨_, rfl⟩
    rw [hv] at hno
    have h0 := hno 0 ho
    simp only [hitB, Bool.or_eq_false_iff, decide_eq_false_iff_not] at h0
    by_cases p : 0 < v
    · have := vTo_nonpos (l := l) (g := g) (P := P) (o := o) o.length (fun j hj => by
        have := hno j hj
        simp [hitB, p] at this
        omega)
      omega
    · have := vTo_nonneg (l := l) (g := g) (P := P) (o := o) o.length (fun j hj => by
        have := hno j hj
        have q : v < 0 := by omega
        simp [hitB, q] at this
        omega)
      omega
theorem step_count {l : List Rec} {g : Bool} {sp : Int} {st : St} (h : st.2.count false ≠ 0) : (stepB l g sp st).2.count false < st.2.count false := by
  have ho : 0 < (opens st.2).length := by rw [opens_count]; omega
  obtain ⟨j, hj, hh⟩ := some_hit (l := l) (g := g) (P := prts l g sp st.1 st.2) ho
  exact (frz_count _ (Nat.le_refl _)).2 j hj hh
/-- A round takes one off the rounds that are left. -/
theorem finB_step {l : List Rec} {g : Bool} {sp : Int} {m : Nat} {st : St} (hm : st.2.count false ≤ m) (h : st.2.count false ≠ 0) :
    ∃ m', (stepB l g sp st).2.count false ≤ m' ∧ finB l g sp m st = finB l g sp m' (stepB l g sp st) := by
  cases m with
  | zero => omega
  | succ m =>
    have := step_count (l := l) (g := g) (sp := sp) h
    exact ⟨m, by omega, by simp only [finB]; rw [if_neg h]⟩
end Go.Proofs.Ytadkkkdecejkeaa
