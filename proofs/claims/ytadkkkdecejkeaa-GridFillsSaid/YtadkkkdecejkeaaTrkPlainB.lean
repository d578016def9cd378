/- Plain mathematics of Tracks of package grid: how free space is given. No program in sight. -/
import Derived.Test.YtadkkkdecejkeaaTrkPlain
import Derived.Test.YtadkkkdecejkeaaBoxBnd
namespace Go.Proofs.Ytadkkkdecejkeaa
set_option linter.unusedVariables false
set_option linter.unusedSimpArgs false

theorem szTo_sum {s : List Int} {b : Int} (h : szTo s b) : ∀ k, k ≤ s.length → 0 ≤ sumTo s k ∧ sumTo s k ≤ b * (k : Int)
  | 0, _ => by simp [sumTo]
  | k + 1, hk => by
    have ih := szTo_sum h k (by omega)
    have := h k (by omega)
    have e : b * ((k + 1 : Nat) : Int) = b * (k : Int) + b := by rw [Int.natCast_add, Int.mul_add]; simp
    rw [e]
    simp only [sumTo]
    omega
/-- The tracks from the content. -/
def autos (l : List Rec) : List Nat := sel l 1 0 l.length
/-- What the first m of them can still take. -/
def autoW (l : List Rec) (ls ms : List Int) (m : Nat) : List Int := (List.range m).map fun j => gz ms (gn (autos l) j) - gz ls (gn (autos l) j)
theorem autoW_len (l : List Rec) (ls ms : List Int) (m : Nat) : (autoW l ls ms m).length = m := by simp [autoW]
theorem autoW_at {l : List Rec} {ls ms : List Int} {m j : Nat} (h : j < m) : gz (autoW l ls ms m) j = gz ms (gn (autos l) j) - gz ls (gn (autos l) j) := gz_map_range _ h
theorem autoW_succ (l : List Rec) (ls ms : List Int) (m : Nat) : autoW l ls ms (m + 1) = autoW l ls ms m ++ [gz ms (gn (autos l) m) - gz ls (gn (autos l) m)] := by simp [autoW, List.range_succ]
theorem autos_mem {l : List Rec} {k : Nat} (h : k < (autos l).length) : gn (autos l) k < l.length ∧ gf l (gn (autos l) k) 0 = 1 := ⟨(sel_mem h).2.1, (sel_mem h).2.2⟩
theorem autos_inj {l : List Rec} : ∀ i j, i < (autos l).length → j < (autos l).length → gn (autos l) i = gn (autos l) j → i = j := fun i j hi hj h => sel_inj hi hj h
theorem autos_le (l : List Rec) : (autos l).length ≤ l.length := sel_le _ _ _ _
/-- Least and most sizes of n tracks. -/
structure Sizes (n : Nat) (ls ms : List Int) : Prop where
  l : ls.length = n
  m : ms.length = n
  lb : szTo ls 134217728
  mb : szTo ms 134217728
  le : ∀ k, k < n → gz ls k ≤ gz ms k
theorem sizes_of {l it : List Rec} {gp : Int} (hg : 0 ≤ gp ∧ gp ≤ 1048576) (hn : l.length ≤ 24) (hm : it.length ≤ 100) (hl : trksB l = true) (hi : itsB it l.length = true) : Sizes l.length (leastL l it gp) (mostL l it gp) :=
  ⟨leastL_len _ _ _, mostL_len _ _ _, leastL_bd hg hn hm hl hi, (mostL_bd hg hn hm hl hi).1, (mostL_bd hg hn hm hl hi).2⟩
theorem Sizes.weight {l : List Rec} {ls ms : List Int} (h : Sizes l.length ls ms) {m j : Nat} (hm : m ≤ (autos l).length) (hj : j < m) : 0 ≤ gz (autoW l ls ms m) j ∧ gz (autoW l ls ms m) j ≤ 134217728 := by
  have hk := (autos_mem (l := l) (k := j) (by omega)).1
  have h1 := h.lb _ (by rw [h.l]; exact hk)
  have h2 := h.mb _ (by rw [h.m]; exact hk)
  have h3 := h.le _ hk
  rw [autoW_at hj]
  omega
/-- What is free. -/
def freeT (av gp : Int) (ls : List Int) : Int := spTo av gp ls.length - sumTo ls ls.length
/-- The parts of the tracks from the content. -/
def autoP (l : List Rec) (ls ms : List Int) (free : Int) : List Int :=
  if free < sumTo (autoW l ls ms (autos l).length) (autos l).length then shareParts free (autoW l ls ms (autos l).length) else autoW l ls ms (autos l).length
/-- The sizes when the tracks from the content have grown. -/
def grown (l : List Rec) (ls ms : List Int) (av gp : Int) : List Int :=
  if 0 < freeT av gp ls then addAt ls (autos l) (autoP l ls ms (freeT av gp ls)) (autos l).length else ls
theorem grown_len (l : List Rec) (ls ms : List Int) (av gp : Int) : (grown l ls ms av gp).length = ls.length := by
  unfold grown; split
  · exact addAt_len _ _ _ _
  · rfl
theorem Sizes.wgood {l : List Rec} {ls ms : List Int} (h : Sizes l.length ls ms) {m : Nat} (hm : m ≤ (autos l).length) : goodTo (autoW l ls ms m) (autoW l ls ms m).length := fun j hj => by
  rw [autoW_len] at hj
  have := h.weight hm hj
  omega
theorem Sizes.free_le {l : List Rec} {ls ms : List Int} (h : Sizes l.length ls ms) {av gp : Int} (ha : 0 ≤ av ∧ av ≤ 1048576) (hg : 0 ≤ gp ∧ gp ≤ 1048576) (hn : l.length ≤ 24) : -4294967296 ≤ freeT av gp ls ∧ freeT av gp ls ≤ av ∧ freeT av gp ls ≤ spTo av gp l.length ∧ -134217728 ≤ spTo av gp l.length ∧ spTo av gp l.length ≤ av := by
  have h1 := szTo_sum h.lb ls.length (Nat.le_refl _)
  rw [h.l] at h1
  have h2 := mul_bd (a := gp) (b := ((l.length - 1 : Nat) : Int)) (m := 1048576) (k := 23) hg.1 (by omega) hg.2 (by omega)
  unfold freeT
  rw [h.l]
  unfold spTo
  omega
/-- The parts of the tracks from the content lie between 0 and what they can take, and are no more than the free space. -/
theorem Sizes.parts {l : List Rec} {ls ms : List Int} (h : Sizes l.length ls ms) {free : Int} (hf : 0 < free) (hf2 : free ≤ 1048576) (hn : l.length ≤ 24) :
    (free < sumTo (autoW l ls ms (autos l).length) (autos l).length → shareErr free (autoW l ls ms (autos l).length) = 0) ∧ (autoP l ls ms free).length = (autos l).length ∧ (∀ j, j < (autos l).length → 0 ≤ gz (autoP l ls ms free) j ∧ gz (autoP l ls ms free) j ≤ 134217728) ∧
      sumTo (autoP l ls ms free) (autos l).length ≤ free := by
  have hle := autos_le l
  have hg := h.wgood (Nat.le_refl (autos l).length)
  obtain ⟨he, hl, hs, ht⟩ := sums_facts (T := free) (ws := autoW l ls ms (autos l).length) (by omega) (by omega) (by rw [autoW_len]; omega) hg
  rw [autoW_len] at hl hs ht
  refine ⟨fun _ => he, ?_⟩
  unfold autoP
  by_cases c : free < sumTo (autoW l ls ms (autos l).length) (autos l).length
  · rw [if_pos c]
    rw [if_neg (by omega)] at ht
    refine ⟨hl, fun j hj => ?_, by omega⟩
    have hpos : ∀ i, i < (autos l).length → 0 ≤ gz (shareParts free (autoW l ls ms (autos l).length)) i := fun i hi => (hs i hi).1
    refine ⟨hpos j hj, ?_⟩
    have := le_sumF (F := gz (shareParts free (autoW l ls ms (autos l).length))) (autos l).length hpos j hj
    rw [← sumTo_sumF] at this
    omega
  · rw [if_neg c]
    exact ⟨autoW_len _ _ _ _, fun j hj => h.weight (Nat.le_refl _) hj, by omega⟩
theorem autoAdd_bd {l : List Rec} {s P : List Int} {b d : Int} (hs : szTo s b) (ha : l.length = s.length) (hd : 0 ≤ d) (hP : ∀ j, j < (autos l).length → 0 ≤ gz P j ∧ gz P j ≤ d) : ∀ k, k ≤ (autos l).length → szTo (addAt s (autos l) P k) (b + d) := by
  intro k hk i hi
  rw [addAt_len] at hi
  have hsi := hs i hi
  by_cases hex : ∃ j, j < k ∧ gn (autos l) j = i
  · obtain ⟨j, hj, rfl⟩ := hex
    rw [addAt_in autos_inj (by omega) hi hk, if_pos hj]
    have := hP j (by omega)
    omega
  · rw [addAt_out fun j hj h => hex ⟨j, hj, h⟩]
    omega
theorem Sizes.grown {l : List Rec} {ls ms : List Int} (h : Sizes l.length ls ms) {av gp : Int} (ha : 0 ≤ av ∧ av ≤ 1048576) (hg : 0 ≤ gp ∧ gp ≤ 1048576) (hn : l.length ≤ 24) : szTo (grown l ls ms av gp) 268435456 := by
  have hf := h.free_le ha hg hn
  unfold Proofs.Ytadkkkdecejkeaa.grown
  split
  · have hp := h.parts (free := freeT av gp ls) (by assumption) (by omega) hn
    exact autoAdd_bd (b := 134217728) (d := 134217728) h.lb h.l.symm (by omega) hp.2.2.1 _ (Nat.le_refl _)
  · intro k hk
    have := h.lb k hk
    omega
/-- The tracks with fractions. -/
def fracs (l : List Rec) : List Nat := sel l 2 0 l.length
theorem fracs_mem {l : List Rec} {k : Nat} (h : k < (fracs l).length) : gn (fracs l) k < l.length ∧ gf l (gn (fracs l) k) 0 = 2 := ⟨(sel_mem h).2.1, (sel_mem h).2.2⟩
theorem fracs_inj {l : List Rec} : ∀ i j, i < (fracs l).length → j < (fracs l).length → gn (fracs l) i = gn (fracs l) j → i = j := fun i j hi hj h => sel_inj hi hj h
theorem fracs_le (l : List Rec) : (fracs l).length ≤ l.length := sel_le _ _ _ _
/-- The sizes of the others among the first k. -/
def nonF (l : List Rec) (s : List Int) : Nat → Int
  | 0 => 0
  | k + 1 => if gf l k 0 = 2 then nonF l s k else nonF l s k + gz s k
theorem nonF_bd {l : List Rec} {s : List Int} {b : Int} (h : szTo s b) : ∀ k, k ≤ s.length → 0 ≤ nonF l s k ∧ nonF l s k ≤ b * (k : Int)
  | 0, _ => by simp [nonF]
  | k + 1, hk => by
    have ih := nonF_bd (l := l) h k (by omega)
    have := h k (by omega)
    have e : b * ((k + 1 : Nat) : Int) = b * (k : Int) + b := by rw [Int.natCast_add, Int.mul_add]; simp
    rw [e]
    simp only [nonF]
    split <;> omega
def restT (l : List Rec) (s : List Int) (av gp : Int) : Int := spTo av gp l.length - nonF l s l.length
/-- The first m tracks with fractions, as elements of a row. -/
def flexOf (l : List Rec) (s : List Int) (k : Nat) : Rec := [0, if 1048576 < gz s k then 1048576 else gz s k, 1048576, gf l k 1, 0]
def flexL (l : List Rec) (s : List Int) (m : Nat) : List Rec := (List.range m).map fun j => flexOf l s (gn (fracs l) j)
theorem flexL_len (l : List Rec) (s : List Int) (m : Nat) : (flexL l s m).length = m := by simp [flexL]
theorem flexL_succ (l : List Rec) (s : List Int) (m : Nat) : flexL l s (m + 1) = flexL l s m ++ [flexOf l s (gn (fracs l) m)] := by simp [flexL, List.range_succ]
theorem flexL_wide (l : List Rec) (s : List Int) (m : Nat) : wide 5 (flexL l s m) := by
  intro r hr
  obtain ⟨j, _, rfl⟩ := List.mem_map.1 hr
  rfl
theorem flexL_at {l : List Rec} {s : List Int} {m j : Nat} (h : j < m) (i : Nat) : gf (flexL l s m) j i = (flexOf l s (gn (fracs l) j)).getD i 0 := by simp [flexL, gf, h]
theorem flexL_ok {l : List Rec} {s : List Int} (hl : trksB l = true) (hs : szTo s 268435456) (hn : l.length = s.length) {m : Nat} (hm : m ≤ (fracs l).length) : flexTo (flexL l s m) (flexL l s m).length := fun j hj => by
  rw [flexL_len] at hj
  obtain ⟨h1, h2⟩ := fracs_mem (l := l) (k := j) (by omega)
  have h3 := trkB_kd (trksB_at hl h1)
  have h4 := hs _ (by rw [← hn]; exact h1)
  rw [flexB_iff]
  simp only [flexL_at hj]
  unfold flexOf
  simp only [List.getD_cons_zero, List.getD_cons_succ]
  split <;> omega
theorem flexL_low (l : List Rec) (s : List Int) (m : Nat) : lowOnly (flexL l s m) := fun j hj => by
  rw [flexL_len] at hj
  rw [flexL_at hj]; rfl
/-- Each place gets its number. -/
def putAt (s : List Int) (o : List Nat) (P : List Int) : Nat → List Int
  | 0 => s
  | k + 1 => (putAt s o P k).set (gn o k) (gz P k)
theorem putAt_len (s : List Int) (o : List Nat) (P : List Int) : ∀ k, (putAt s o P k).length = s.length
  | 0 => rfl
  | k + 1 => by simp [putAt, putAt_len s o P k]
theorem putAt_out {s : List Int} {o : List Nat} {P : List Int} {i : Nat} : ∀ {k}, (∀ j, j < k → gn o j ≠ i) → gz (putAt s o P k) i = gz s i
  | 0, _ => rfl
  | k + 1, h => by
    simp only [putAt]
    rw [gz_set_other _ _ _ _ (h k (by omega))]
    exact putAt_out fun j hj => h j (by omega)
theorem putAt_in {s : List Int} {o : List Nat} {P : List Int} {m j : Nat} (hinj : ∀ i j, i < m → j < m → gn o i = gn o j → i = j) (hj : j < m) (hb : gn o j < s.length) : ∀ {k}, k ≤ m → gz (putAt s o P k) (gn o j) = if j < k then gz P j else gz s (gn o j)
  | 0, _ => by simp [putAt]
  | k + 1, hk => by
    have ih := putAt_in (s := s) (P := P) hinj hj hb (k := k) (by omega)
    simp only [putAt]
    by_cases e : gn o k = gn o j
    · have e2 := hinj k j (by omega) hj e
      subst e2
      rw [gz_set_same _ _ _ (by rw [putAt_len]; exact hb), if_pos (by omega)]
    · rw [gz_set_other _ _ _ _ e, ih]
      have : k ≠ j := fun h => e (by rw [h])
      by_cases hjk : j < k
      · rw [if_pos hjk, if_pos (by omega)]
      · rw [if_neg hjk, if_neg (by omega)]
/-- The parts of the tracks with fractions. -/
def fracP (l : List Rec) (s : List Int) (av gp : Int) : List Int := resL (clampZ (restT l s av gp) 0 1048576) 0 (flexL l s (fracs l).length)
/-- The sizes of the tracks. -/
def trkL (av gp : Int) (l it : List Rec) : List Int :=
  if gErr av gp l it = 0 then putAt (grown l (leastL l it gp) (mostL l it gp) av gp) (fracs l) (fracP l (grown l (leastL l it gp) (mostL l it gp) av gp) av gp) (fracs l).length else []
def leastS (gp : Int) (l it : List Rec) : Int := if gErr 0 gp l it = 0 then sumTo (leastL l it gp) l.length + gp * ((l.length - 1 : Nat) : Int) else 0
def mostS (gp : Int) (l it : List Rec) : Int := if gErr 0 gp l it = 0 then sumTo (mostL l it gp) l.length + gp * ((l.length - 1 : Nat) : Int) else 0
theorem clamp_bd (x : Int) : 0 ≤ clampZ x 0 1048576 ∧ clampZ x 0 1048576 ≤ 1048576 := by
  unfold clampZ
  split
  · omega
  · split <;> omega
theorem fracP_ok {l : List Rec} {s : List Int} {av gp : Int} (hl : trksB l = true) (hs : szTo s 268435456) (hn : l.length = s.length) (h24 : l.length ≤ 24) :
    flexErr (clampZ (restT l s av gp) 0 1048576) 0 (flexL l s (fracs l).length) = 0 ∧ (fracP l s av gp).length = (fracs l).length ∧ ∀ j, j < (fracs l).length → 0 ≤ gz (fracP l s av gp) j ∧ gz (fracP l s av gp) j ≤ 1048576 := by
  have hle := fracs_le l
  have hok := flexL_ok hl hs hn (Nat.le_refl (fracs l).length)
  have hc := clamp_bd (restT l s av gp)
  have he := flexErr_ok (av := clampZ (restT l s av gp) 0 1048576) (gp := 0) (by rw [flexL_len]; omega) (by simp [lenB]; omega) hok
  have hbd := resOk_bd (av := clampZ (restT l s av gp) 0 1048576) (gp := 0) hok
  have hb2 := (resOk_bounds (av := clampZ (restT l s av gp) 0 1048576) (gp := 0) hok).1
  rw [flexL_len] at hbd hb2
  refine ⟨he, ?_⟩
  unfold fracP resL
  rw [if_pos he]
  exact ⟨hb2, hbd⟩
end Go.Proofs.Ytadkkkdecejkeaa
