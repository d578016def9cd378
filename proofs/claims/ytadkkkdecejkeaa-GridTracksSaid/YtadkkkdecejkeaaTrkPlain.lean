/- Plain mathematics of Tracks of package grid: valid arguments, the demands of single items, the spread of the demands of others. No program in sight. -/
import Derived.Test.YtadkkkdecejkeaaPlainD
import Derived.Test.YtadkkkdecejkeaaBoxPlain
import Derived.Test.YtadkkkdecejkeaaRefPlain
import Derived.Test.YtadkkkdecejkeaaFillTo
namespace Go.Proofs.Ytadkkkdecejkeaa
set_option linter.unusedVariables false
set_option linter.unusedSimpArgs false

/-! ### what is valid -/
def trkB (kd x : Int) : Bool := if kd = 0 then lenB x else if kd = 1 then decide (x = 0) else if kd = 2 then decide (1 ≤ x) && decide (x ≤ 1000) else false
def trksB (l : List Rec) : Bool := (List.range l.length).all fun i => trkB (gf l i 0) (gf l i 1)
/-- Item j is valid among n tracks. -/
def itB (it : List Rec) (n : Nat) (j : Nat) : Bool := lenB (gf it j 2) && lenB (gf it j 3) && decide (0 ≤ gf it j 0) && decide (gf it j 0 < (n : Int)) && decide (1 ≤ gf it j 1) && decide (gf it j 1 ≤ (n : Int) - gf it j 0)
def itsB (it : List Rec) (n : Nat) : Bool := (List.range it.length).all fun j => itB it n j
/-- The error of Tracks. -/
def gErr (av gp : Int) (l it : List Rec) : Int :=
  if 24 < l.length ∨ 100 < it.length then 2 else if (lenB av && lenB gp && trksB l && itsB it l.length) = true then 0 else 1
theorem gErr_ok {av gp : Int} {l it : List Rec} (h : gErr av gp l it = 0) : l.length ≤ 24 ∧ it.length ≤ 100 ∧ lenB av = true ∧ lenB gp = true ∧ trksB l = true ∧ itsB it l.length = true := by
  unfold gErr at h
  split at h
  · omega
  · split at h
    · rename_i h1 h2
      simp only [Bool.and_eq_true] at h2
      exact ⟨by omega, by omega, h2.1.1.1, h2.1.1.2, h2.1.2, h2.2⟩
    · omega
theorem trksB_at {l : List Rec} (h : trksB l = true) {i : Nat} (hi : i < l.length) : trkB (gf l i 0) (gf l i 1) = true := List.all_eq_true.1 h i (List.mem_range.2 hi)
theorem itsB_at {it : List Rec} {n : Nat} (h : itsB it n = true) {j : Nat} (hj : j < it.length) : itB it n j = true := List.all_eq_true.1 h j (List.mem_range.2 hj)
theorem itB_out {it : List Rec} {n j : Nat} (h : itB it n j = true) : (0 ≤ gf it j 2 ∧ gf it j 2 ≤ 1048576) ∧ (0 ≤ gf it j 3 ∧ gf it j 3 ≤ 1048576) ∧ 0 ≤ gf it j 0 ∧ gf it j 0 < (n : Int) ∧ 1 ≤ gf it j 1 ∧ gf it j 1 ≤ (n : Int) - gf it j 0 := by
  simp only [itB, Bool.and_eq_true, lenB_iff, decide_eq_true_eq] at h
  exact ⟨h.1.1.1.1.1, h.1.1.1.1.2, h.1.1.1.2, h.1.1.2, h.1.2, h.2⟩
theorem trkB_kd {kd x : Int} (h : trkB kd x = true) : (kd = 0 ∧ 0 ≤ x ∧ x ≤ 1048576) ∨ (kd = 1 ∧ x = 0) ∨ (kd = 2 ∧ 1 ≤ x ∧ x ≤ 1000) := by
  unfold trkB at h
  split at h
  · exact .inl ⟨by assumption, lenB_iff.1 h⟩
  · split at h
    · exact .inr (.inl ⟨by assumption, by simpa using h⟩)
    · split at h
      · exact .inr (.inr ⟨by assumption, by simpa using h⟩)
      · cases h

/-! ### the demands of single items -/
/-- The demand of track k by the first j items; c: the item's number that says it. -/
def one (it : List Rec) (c : Nat) : Nat → Nat → Int
  | 0, _ => 0
  | j + 1, k => if gf it j 1 = 1 ∧ gf it j 0 = (k : Int) then (if one it c j k < gf it j c then gf it j c else one it c j k) else one it c j k
def dmAt (l it : List Rec) (c j k : Nat) : Int := if gf l k 0 = 0 then gf l k 1 else one it c j k
def dmL (l it : List Rec) (c j : Nat) : List Int := (List.range l.length).map (dmAt l it c j)
theorem dmL_len (l it : List Rec) (c j : Nat) : (dmL l it c j).length = l.length := by simp [dmL]
theorem dmL_at {l it : List Rec} {c j k : Nat} (h : k < l.length) : gz (dmL l it c j) k = dmAt l it c j k := gz_map_range _ h
theorem list_ext_gz {a b : List Int} (h : a.length = b.length) (hh : ∀ k, k < a.length → gz a k = gz b k) : a = b := by
  apply List.ext_getElem h
  intro i h1 h2
  have := hh i h1
  simpa [gz, h1, h2] using this
/-- A single item at a track that is not fixed raises it. -/
theorem dmL_hit {l it : List Rec} {c j k : Nat} (hk : k < l.length) (hs : gf it j 1 = 1) (ha : gf it j 0 = (k : Int)) (hf : gf l k 0 ≠ 0) :
    (dmL l it c j).set k (if gz (dmL l it c j) k < gf it j c then gf it j c else gz (dmL l it c j) k) = dmL l it c (j + 1) := by
  refine list_ext_gz (by simp [dmL]) fun i hi => ?_
  have hi' : i < l.length := by simpa [dmL] using hi
  by_cases e : k = i
  · subst e
    rw [gz_set_same _ _ _ (by rw [dmL_len]; exact hk), dmL_at hk, dmL_at hk]
    simp only [dmAt, if_neg hf, one, hs, ha, and_self, if_true]
  · rw [gz_set_other _ _ _ _ e, dmL_at hi', dmL_at hi']
    have : ¬ (gf it j 1 = 1 ∧ gf it j 0 = (i : Int)) := by rintro ⟨-, h⟩; omega
    simp only [dmAt, one, if_neg this]
/-- Any other item changes nothing. -/
theorem dmL_miss {l it : List Rec} {c j : Nat} (h : ∀ k, k < l.length → gf it j 1 = 1 → gf it j 0 = (k : Int) → gf l k 0 = 0) : dmL l it c (j + 1) = dmL l it c j := by
  refine list_ext_gz (by simp [dmL]) fun i hi => ?_
  have hi' : i < l.length := by simpa [dmL] using hi
  rw [dmL_at hi', dmL_at hi']
  unfold dmAt
  by_cases hz : gf l i 0 = 0
  · rw [if_pos hz, if_pos hz]
  · rw [if_neg hz, if_neg hz]
    have : ¬ (gf it j 1 = 1 ∧ gf it j 0 = (i : Int)) := by rintro ⟨h1, h2⟩; exact hz (h i hi' h1 h2)
    simp only [one, if_neg this]
theorem one_bd {it : List Rec} {n c : Nat} (hc : c = 2 ∨ c = 3) : ∀ {j : Nat}, (∀ i, i < j → itB it n i = true) → ∀ k, 0 ≤ one it c j k ∧ one it c j k ≤ 1048576
  | 0, _, k => by simp [one]
  | j + 1, h, k => by
    have ih := one_bd hc (j := j) (fun i hi => h i (by omega)) k
    have hb := itB_out (h j (by omega))
    have : 0 ≤ gf it j c ∧ gf it j c ≤ 1048576 := by rcases hc with rfl | rfl <;> omega
    simp only [one]
    split
    · split <;> omega
    · exact ih
theorem dmAt_bd {l it : List Rec} {n c j : Nat} (hc : c = 2 ∨ c = 3) (hl : trksB l = true) (h : ∀ i, i < j → itB it n i = true) {k : Nat} (hk : k < l.length) : 0 ≤ dmAt l it c j k ∧ dmAt l it c j k ≤ 1048576 := by
  have h1 := trkB_kd (trksB_at hl hk)
  unfold dmAt
  split
  · omega
  · exact one_bd hc h k

/-! ### raised -/
/-- The most sizes, raised to the least ones. -/
def upL (ls ms : List Int) : List Int := (List.range ms.length).map fun k => if gz ms k < gz ls k then gz ls k else gz ms k
theorem upL_len (ls ms : List Int) : (upL ls ms).length = ms.length := by simp [upL]
theorem upL_at {ls ms : List Int} {k : Nat} (h : k < ms.length) : gz (upL ls ms) k = if gz ms k < gz ls k then gz ls k else gz ms k := gz_map_range _ h
/-- The least sizes at first, and the most ones. -/
def ls0 (l it : List Rec) : List Int := dmL l it 2 it.length
def ms0 (l it : List Rec) : List Int := upL (ls0 l it) (dmL l it 3 it.length)
theorem ls0_len (l it : List Rec) : (ls0 l it).length = l.length := dmL_len _ _ _ _
theorem ms0_len (l it : List Rec) : (ms0 l it).length = l.length := by unfold ms0; rw [upL_len, dmL_len]
def mostAt (l it : List Rec) (k : Nat) : Int := if gf l k 0 = 0 then gf l k 1 else if one it 3 it.length k < one it 2 it.length k then one it 2 it.length k else one it 3 it.length k
theorem ms0_at {l it : List Rec} {k : Nat} (h : k < l.length) : gz (ms0 l it) k = mostAt l it k := by
  unfold ms0 ls0
  rw [upL_at (by rw [dmL_len]; exact h), dmL_at h, dmL_at h]
  unfold dmAt mostAt
  by_cases hz : gf l k 0 = 0
  · simp [hz]
  · simp [hz]

/-! ### tracks of one kind -/
/-- True: the track is none of the kind between a and b. -/
def msk (l : List Rec) (kd : Int) (a b : Nat) : List Bool := (List.range b).map fun i => decide (i < a) || decide (gf l i 0 ≠ kd)
theorem msk_len (l : List Rec) (kd : Int) (a b : Nat) : (msk l kd a b).length = b := by simp [msk]
theorem msk_at {l : List Rec} {kd : Int} {a b i : Nat} (h : i < b) : gb (msk l kd a b) i = (decide (i < a) || decide (gf l i 0 ≠ kd)) := by simp [msk, gb, h]
theorem msk_in {l : List Rec} {kd : Int} {a b i : Nat} (h : i < b) (ha : a ≤ i) : gb (msk l kd a b) i = decide (gf l i 0 ≠ kd) := by
  rw [msk_at h]
  have : decide (i < a) = false := by simp; omega
  rw [this, Bool.false_or]
theorem msk_start (l : List Rec) (kd : Int) {a b : Nat} (h : a ≤ b) : opensTo (msk l kd a b) a = [] := by
  have : ∀ k, k ≤ a → opensTo (msk l kd a b) k = [] := by
    intro k
    induction k with
    | zero => intro _; rfl
    | succ k ih =>
      intro hk
      rw [opensTo_yes (by rw [msk_at (by omega)]; simp; omega)]
      exact ih (by omega)
  exact this a (Nat.le_refl _)
/-- The tracks of the kind. -/
def sel (l : List Rec) (kd : Int) (a b : Nat) : List Nat := opens (msk l kd a b)
theorem sel_eq (l : List Rec) (kd : Int) (a b : Nat) : sel l kd a b = opensTo (msk l kd a b) b := by unfold sel opens; rw [msk_len]
theorem sel_mem {l : List Rec} {kd : Int} {a b k : Nat} (h : k < (sel l kd a b).length) : a ≤ gn (sel l kd a b) k ∧ gn (sel l kd a b) k < b ∧ gf l (gn (sel l kd a b) k) 0 = kd := by
  rw [sel_eq] at h ⊢
  obtain ⟨h1, h2, -⟩ := opensTo_mem h
  rw [msk_at h1] at h2
  simp at h2
  exact ⟨by omega, h1, h2.2⟩
theorem sel_inj {l : List Rec} {kd : Int} {a b j k : Nat} (hj : j < (sel l kd a b).length) (hk : k < (sel l kd a b).length) (h : gn (sel l kd a b) j = gn (sel l kd a b) k) : j = k := by
  rw [sel_eq] at hj hk h
  exact opensTo_inj hj hk h
theorem sel_le (l : List Rec) (kd : Int) (a b : Nat) : (sel l kd a b).length ≤ b := by rw [sel_eq]; exact opensTo_le _ _
theorem sel_le2 (l : List Rec) (kd : Int) {a b : Nat} (h : a ≤ b) : ∀ m, a + m ≤ b → (opensTo (msk l kd a b) (a + m)).length ≤ m
  | 0, _ => by rw [Nat.add_zero, msk_start l kd h]; simp
  | m + 1, hm => by
    have ih := sel_le2 l kd h m (by omega)
    rw [← Nat.add_assoc]
    simp only [opensTo]
    split <;> simp <;> omega

/-! ### to spread a demand -/
/-- Each chosen place gets its part. -/
def addAt (s : List Int) (o : List Nat) (P : List Int) : Nat → List Int
  | 0 => s
  | k + 1 => (addAt s o P k).set (gn o k) (gz (addAt s o P k) (gn o k) + gz P k)
theorem addAt_len (s : List Int) (o : List Nat) (P : List Int) : ∀ k, (addAt s o P k).length = s.length
  | 0 => rfl
  | k + 1 => by simp [addAt, addAt_len s o P k]
theorem addAt_out {s : List Int} {o : List Nat} {P : List Int} {i : Nat} : ∀ {k}, (∀ j, j < k → gn o j ≠ i) → gz (addAt s o P k) i = gz s i
  | 0, _ => rfl
  | k + 1, h => by
    simp only [addAt]
    rw [gz_set_other _ _ _ _ (h k (by omega))]
    exact addAt_out fun j hj => h j (by omega)
theorem addAt_in {s : List Int} {o : List Nat} {P : List Int} {m j : Nat} (hinj : ∀ i j, i < m → j < m → gn o i = gn o j → i = j) (hj : j < m) (hb : gn o j < s.length) : ∀ {k}, k ≤ m → gz (addAt s o P k) (gn o j) = if j < k then gz s (gn o j) + gz P j else gz s (gn o j)
  | 0, _ => by simp [addAt]
  | k + 1, hk => by
    have ih := addAt_in (s := s) (P := P) hinj hj hb (k := k) (by omega)
    simp only [addAt]
    by_cases e : gn o k = gn o j
    · have e2 := hinj k j (by omega) hj e
      subst e2
      rw [gz_set_same _ _ _ (by rw [addAt_len]; exact hb), ih, if_neg (Nat.lt_irrefl _), if_pos (by omega)]
    · rw [gz_set_other _ _ _ _ e, ih]
      have : k ≠ j := fun h => e (by rw [h])
      by_cases hjk : j < k
      · rw [if_pos hjk, if_pos (by omega)]
      · rw [if_neg hjk, if_neg (by omega)]
def sumFrom (s : List Int) (a : Nat) : Nat → Int
  | 0 => 0
  | m + 1 => sumFrom s a m + gz s (a + m)
def itA (it : List Rec) (j : Nat) : Nat := (gf it j 0).toNat
def itS (it : List Rec) (j : Nat) : Nat := (gf it j 1).toNat
def uni (m : Nat) : List Int := List.replicate m 1
theorem uni_len (m : Nat) : (uni m).length = m := by simp [uni]
theorem uni_at {m k : Nat} (h : k < m) : gz (uni m) k = 1 := by simp [uni, gz, h]
theorem uni_good (m : Nat) : goodTo (uni m) m := fun j hj => by rw [uni_at hj]; omega
theorem uni_sum (m : Nat) : ∀ k, k ≤ m → sumTo (uni m) k = (k : Int)
  | 0, _ => rfl
  | k + 1, h => by
    simp only [sumTo]
    rw [uni_sum m k (by omega), uni_at (by omega)]; omega
/-- What the tracks from a on, m of them, lack of a demand. -/
def lack (gp : Int) (a m : Nat) (want : Int) (s : List Int) : Int := want - gp * ((m : Int) - 1) - sumFrom s a m
/-- The kind that grows. -/
def growK (l : List Rec) (a m : Nat) : Int := if (sel l 2 a (a + m)).length = 0 then 1 else 2
def growSel (l : List Rec) (a m : Nat) : List Nat := sel l (growK l a m) a (a + m)
/-- The sizes when one demand has been spread. -/
def spr (l : List Rec) (gp : Int) (a m : Nat) (want : Int) (s : List Int) : List Int :=
  if lack gp a m want s ≤ 0 then s else addAt s (growSel l a m) (shareParts (lack gp a m want s) (uni (growSel l a m).length)) (growSel l a m).length
theorem spr_len (l : List Rec) (gp : Int) (a m : Nat) (want : Int) (s : List Int) : (spr l gp a m want s).length = s.length := by
  unfold spr; split
  · rfl
  · rw [addAt_len]
/-- The sizes lie within b. -/
def szTo (s : List Int) (b : Int) : Prop := ∀ k, k < s.length → 0 ≤ gz s k ∧ gz s k ≤ b
theorem sumFrom_bd {s : List Int} {b : Int} (h : szTo s b) : ∀ {a m : Nat}, a + m ≤ s.length → 0 ≤ sumFrom s a m ∧ sumFrom s a m ≤ b * (m : Int)
  | _, 0, _ => by simp [sumFrom]
  | a, m + 1, hm => by
    have ih := sumFrom_bd h (a := a) (m := m) (by omega)
    have := h (a + m) (by omega)
    have e : b * ((m + 1 : Nat) : Int) = b * (m : Int) + b := by rw [Int.natCast_add, Int.mul_add]; simp
    rw [e]
    simp only [sumFrom]
    omega
theorem gap_bd {gp : Int} {m : Nat} (hg : 0 ≤ gp ∧ gp ≤ 1048576) (h0 : 1 ≤ m) (hm : m ≤ 24) : 0 ≤ gp * ((m : Int) - 1) ∧ gp * ((m : Int) - 1) ≤ 24117248 := by
  have := mul_bd (a := gp) (b := (m : Int) - 1) (m := 1048576) (k := 23) hg.1 (by omega) hg.2 (by omega)
  omega
theorem lack_bd {gp : Int} {a m : Nat} {want : Int} {s : List Int} {b : Int} (hg : 0 ≤ gp ∧ gp ≤ 1048576) (h0 : 1 ≤ m) (hm : m ≤ 24) (hw : 0 ≤ want ∧ want ≤ 1048576) (h : szTo s b) (hb : 0 ≤ b ∧ b ≤ 134217728) (ha : a + m ≤ s.length) :
    -4294967296 ≤ lack gp a m want s ∧ lack gp a m want s ≤ want := by
  have h1 := sumFrom_bd h ha
  have h2 := gap_bd hg h0 hm
  have h3 := mul_bd (a := b) (b := (m : Int)) (m := 134217728) (k := 24) hb.1 (by omega) hb.2 (by omega)
  unfold lack
  omega
/-- The parts of ones: none is more than the whole. -/
theorem uni_parts {d : Int} {m : Nat} (h0 : 0 ≤ d) (h1 : d ≤ 1048576) (hm : m ≤ 100) : shareErr d (uni m) = 0 ∧ (shareParts d (uni m)).length = m ∧ ∀ j, j < m → 0 ≤ gz (shareParts d (uni m)) j ∧ gz (shareParts d (uni m)) j ≤ d := by
  have hg : goodTo (uni m) (uni m).length := by rw [uni_len]; exact uni_good m
  obtain ⟨he, hl, hs, ht⟩ := sums_facts h0 (by omega) (by rw [uni_len]; exact hm) hg
  rw [uni_len] at hl hs ht
  refine ⟨he, hl, fun j hj => ?_⟩
  have hpos : ∀ i, i < m → 0 ≤ gz (shareParts d (uni m)) i := fun i hi => (hs i hi).1
  refine ⟨hpos j hj, ?_⟩
  have hle : gz (shareParts d (uni m)) j ≤ sumTo (shareParts d (uni m)) m := by
    have hnn : ∀ k, k ≤ m → 0 ≤ sumTo (shareParts d (uni m)) k := by
      intro k
      induction k with
      | zero => intro _; exact Int.le_refl _
      | succ k ih => intro hk; have := ih (by omega); have := hpos k (by omega); simp only [sumTo]; omega
    have : ∀ k, k ≤ m → j < k → gz (shareParts d (uni m)) j ≤ sumTo (shareParts d (uni m)) k := by
      intro k
      induction k with
      | zero => intro _ h; omega
      | succ k ih =>
        intro hk hjk
        have h2 := hpos k (by omega)
        have h3 := hnn k (by omega)
        simp only [sumTo]
        by_cases e : j = k
        · subst e; omega
        · have := ih (by omega) (by omega); omega
    exact this m (Nat.le_refl _) hj
  rw [uni_sum m m (Nat.le_refl _)] at ht
  rw [if_neg (by omega)] at ht
  omega
theorem growSel_mem {l : List Rec} {a m k : Nat} (h : k < (growSel l a m).length) : a ≤ gn (growSel l a m) k ∧ gn (growSel l a m) k < a + m := ⟨(sel_mem h).1, (sel_mem h).2.1⟩
theorem growSel_inj {l : List Rec} {a m : Nat} : ∀ i j, i < (growSel l a m).length → j < (growSel l a m).length → gn (growSel l a m) i = gn (growSel l a m) j → i = j := fun i j hi hj h => sel_inj hi hj h
theorem addAt_bd {l : List Rec} {a m : Nat} {s P : List Int} {b d : Int} (hs : szTo s b) (ha : a + m ≤ s.length) (hd : 0 ≤ d) (hP : ∀ j, j < (growSel l a m).length → 0 ≤ gz P j ∧ gz P j ≤ d) : ∀ k, k ≤ (growSel l a m).length → szTo (addAt s (growSel l a m) P k) (b + d) := by
  intro k hk i hi
  rw [addAt_len] at hi
  have hsi := hs i hi
  by_cases hex : ∃ j, j < k ∧ gn (growSel l a m) j = i
  · obtain ⟨j, hj, rfl⟩ := hex
    rw [addAt_in growSel_inj (by omega) hi hk, if_pos hj]
    have := hP j (by omega)
    omega
  · rw [addAt_out fun j hj h => hex ⟨j, hj, h⟩]
    omega
theorem spr_bd {l : List Rec} {gp : Int} {a m : Nat} {want : Int} {s : List Int} {b : Int} (hg : 0 ≤ gp ∧ gp ≤ 1048576) (h0 : 1 ≤ m) (hm : m ≤ 24) (hw : 0 ≤ want ∧ want ≤ 1048576) (h : szTo s b) (hb : 0 ≤ b ∧ b ≤ 134217728) (ha : a + m ≤ s.length) (hn : s.length ≤ 24) :
    szTo (spr l gp a m want s) (b + 1048576) := by
  have hk := lack_bd hg h0 hm hw h hb ha
  unfold spr
  split
  · intro k hk2
    have := h k hk2
    omega
  · have hle : (growSel l a m).length ≤ 100 := by have := sel_le l (growK l a m) a (a + m); unfold growSel; omega
    have hp := uni_parts (d := lack gp a m want s) (m := (growSel l a m).length) (by omega) (by omega) hle
    have := addAt_bd (l := l) (a := a) (m := m) h ha (d := lack gp a m want s) (by omega) hp.2.2 _ (Nat.le_refl _)
    intro k hk2
    have := this k hk2
    omega
/-- The sizes when the demands of the first j items that span several tracks have been spread. -/
def sprTo (l it : List Rec) (gp : Int) (c : Nat) (s : List Int) : Nat → List Int
  | 0 => s
  | j + 1 => if 1 < gf it j 1 then spr l gp (itA it j) (itS it j) (gf it j c) (sprTo l it gp c s j) else sprTo l it gp c s j
theorem sprTo_len (l it : List Rec) (gp : Int) (c : Nat) (s : List Int) : ∀ j, (sprTo l it gp c s j).length = s.length
  | 0 => rfl
  | j + 1 => by
    simp only [sprTo]
    split
    · rw [spr_len, sprTo_len l it gp c s j]
    · exact sprTo_len l it gp c s j
theorem itB_nat {it : List Rec} {n j : Nat} (h : itB it n j = true) : gf it j 0 = (itA it j : Int) ∧ gf it j 1 = (itS it j : Int) ∧ 1 ≤ itS it j ∧ itA it j + itS it j ≤ n := by
  have := itB_out h
  unfold itA itS
  omega
theorem sprTo_bd {l it : List Rec} {gp : Int} {c : Nat} {s : List Int} (hg : 0 ≤ gp ∧ gp ≤ 1048576) (hc : c = 2 ∨ c = 3) (hn : s.length ≤ 24) (h : szTo s 1048576) : ∀ j, j ≤ 100 → (∀ i, i < j → itB it s.length i = true) → szTo (sprTo l it gp c s j) (1048576 * ((j : Int) + 1))
  | 0, _, _ => by simpa [sprTo] using h
  | j + 1, hj, hi => by
    have ih := sprTo_bd (l := l) hg hc hn h j (by omega) (fun i h => hi i (by omega))
    have e : (1048576 : Int) * (((j + 1 : Nat) : Int) + 1) = 1048576 * ((j : Int) + 1) + 1048576 := by omega
    have hb := itB_out (hi j (by omega))
    have hb2 := itB_nat (hi j (by omega))
    have hw : 0 ≤ gf it j c ∧ gf it j c ≤ 1048576 := by rcases hc with rfl | rfl <;> omega
    rw [e]
    simp only [sprTo]
    split
    · exact spr_bd hg hb2.2.2.1 (by omega) hw ih (by omega) (by rw [sprTo_len]; omega) (by rw [sprTo_len]; exact hn)
    · intro k hk
      have := ih k hk
      omega
theorem sprTo_bd2 {l it : List Rec} {gp : Int} {c : Nat} {s : List Int} (hg : 0 ≤ gp ∧ gp ≤ 1048576) (hc : c = 2 ∨ c = 3) (hn : s.length ≤ 24) (h : szTo s 1048576) {j : Nat} (hj : j ≤ it.length) (hj2 : it.length ≤ 100) (hi : itsB it s.length = true) : szTo (sprTo l it gp c s j) 134217728 := by
  have := sprTo_bd (l := l) hg hc hn h j (by omega) (fun i h => itsB_at hi (by omega))
  intro k hk
  have := this k hk
  omega
/-- The least and the most sizes. -/
def leastL (l it : List Rec) (gp : Int) : List Int := sprTo l it gp 2 (ls0 l it) it.length
def mostL (l it : List Rec) (gp : Int) : List Int := upL (leastL l it gp) (sprTo l it gp 3 (ms0 l it) it.length)
theorem leastL_len (l it : List Rec) (gp : Int) : (leastL l it gp).length = l.length := by unfold leastL; rw [sprTo_len, ls0_len]
theorem mostL_len (l it : List Rec) (gp : Int) : (mostL l it gp).length = l.length := by unfold mostL; rw [upL_len, sprTo_len, ms0_len]
theorem ls0_bd {l it : List Rec} (hl : trksB l = true) (hi : itsB it l.length = true) : szTo (ls0 l it) 1048576 := fun k hk => by
  rw [ls0_len] at hk
  unfold ls0
  rw [dmL_at hk]
  exact dmAt_bd (.inl rfl) hl (fun i h => itsB_at hi h) hk
theorem ms0_bd {l it : List Rec} (hl : trksB l = true) (hi : itsB it l.length = true) : szTo (ms0 l it) 1048576 := fun k hk => by
  have h1 := ls0_bd hl hi
  have hk2 := hk
  rw [ms0_len] at hk
  have h2 := h1 k (by rw [ls0_len]; exact hk)
  have h3 := dmAt_bd (c := 3) (.inr rfl) hl (fun i h => itsB_at hi h) hk
  unfold ms0
  rw [upL_at (by rw [dmL_len]; exact hk), dmL_at hk]
  split <;> omega
theorem leastL_bd {l it : List Rec} {gp : Int} (hg : 0 ≤ gp ∧ gp ≤ 1048576) (hn : l.length ≤ 24) (hm : it.length ≤ 100) (hl : trksB l = true) (hi : itsB it l.length = true) : szTo (leastL l it gp) 134217728 :=
  sprTo_bd2 hg (.inl rfl) (by rw [ls0_len]; exact hn) (ls0_bd hl hi) (Nat.le_refl _) hm (by rw [ls0_len]; exact hi)
theorem mostL_bd {l it : List Rec} {gp : Int} (hg : 0 ≤ gp ∧ gp ≤ 1048576) (hn : l.length ≤ 24) (hm : it.length ≤ 100) (hl : trksB l = true) (hi : itsB it l.length = true) : szTo (mostL l it gp) 134217728 ∧ ∀ k, k < l.length → gz (leastL l it gp) k ≤ gz (mostL l it gp) k := by
  have h1 := leastL_bd hg hn hm hl hi
  have h2 : szTo (sprTo l it gp 3 (ms0 l it) it.length) 134217728 := sprTo_bd2 hg (.inr rfl) (by rw [ms0_len]; exact hn) (ms0_bd hl hi) (Nat.le_refl _) hm (by rw [ms0_len]; exact hi)
  have e : (sprTo l it gp 3 (ms0 l it) it.length).length = l.length := by rw [sprTo_len, ms0_len]
  refine ⟨fun k hk => ?_, fun k hk => ?_⟩
  · rw [mostL_len] at hk
    have a := h1 k (by rw [leastL_len]; exact hk)
    have b := h2 k (by rw [e]; exact hk)
    unfold mostL
    rw [upL_at (by rw [e]; exact hk)]
    split <;> omega
  · unfold mostL
    rw [upL_at (by rw [e]; exact hk)]
    split <;> omega
end Go.Proofs.Ytadkkkdecejkeaa
