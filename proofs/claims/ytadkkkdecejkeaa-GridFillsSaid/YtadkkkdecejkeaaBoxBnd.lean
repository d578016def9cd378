/- Plain mathematics: what BoxBounds and BoxFills ask of the sizes. No program in sight. -/
import Derived.Test.YtadkkkdecejkeaaBoxPlain
namespace Go.Proofs.Ytadkkkdecejkeaa
set_option linter.unusedVariables false
set_option linter.unusedSimpArgs false

theorem finB_inv {l : List Rec} {g : Bool} {sp : Int} {Inv : St → Prop} (hs : ∀ st, Inv st → st.2.count false ≠ 0 → Inv (stepB l g sp st)) :
    ∀ (m : Nat) (st : St), st.2.count false ≤ m → Inv st → ∃ st', finB l g sp m st = st'.1 ∧ Inv st' ∧ st'.2.count false = 0
  | 0, st, hc, h => ⟨st, rfl, h, by omega⟩
  | m + 1, st, hc, h => by
    by_cases c : st.2.count false = 0
    · exact ⟨st, finB_end c, h, c⟩
    · have hlt := step_count (l := l) (g := g) (sp := sp) c
      obtain ⟨st', h1, h2, h3⟩ := finB_inv hs m (stepB l g sp st) (by omega) (hs st h c)
      exact ⟨st', by simp only [finB]; rw [if_neg c]; exact h1, h2, h3⟩
theorem count_le_len (f : List Bool) : f.count false ≤ f.length := List.count_le_length

/-- What the bounds ask. -/
structure BInv (l : List Rec) (st : St) : Prop where
  ok : StOk l.length st
  size : ∀ i, i < l.length → ∃ y, gz st.1 i = cl l i y
  rigid : ∀ i, i < l.length → gf l i 3 = 0 → gf l i 4 = 0 → gb st.2 i = true ∧ gz st.1 i = cl l i (gf l i 0)
theorem BInv.start {l : List Rec} (h : flexTo l l.length) (g : Bool) : BInv l (size0 l, frozen0 l g) := by
  refine ⟨StOk.start h g, fun i hi => ⟨_, size0_at hi⟩, fun i hi h3 h4 => ⟨?_, size0_at hi⟩⟩
  show gb (frozen0 l g) i = true
  rw [frozen0_at hi]
  have : wOf l g i = 0 := by cases g <;> simp [wOf, h3, h4]
  simp [this]
theorem BInv.frz {l : List Rec} {g : Bool} {P : List Int} {v : Int} {st : St} (h : BInv l st) (hl : flexTo l l.length) : ∀ k, k ≤ (opens st.2).length → BInv l (frz l g P (opens st.2) v st k)
  | 0, _ => h
  | k + 1, hk => by
    have ih := BInv.frz (g := g) (P := P) (v := v) h hl k (by omega)
    have hm := opensTo_mem (f := st.2) (m := st.2.length) (k := k) (by unfold opens at hk; omega)
    have hlf := h.ok.lf
    have hlen := frz_len l g P (opens st.2) v st k
    rw [h.ok.ls, hlf] at hlen
    refine ⟨h.ok.frz rfl hl (k + 1) hk, ?_, ?_⟩
    · intro i hi
      simp only [Proofs.Ytadkkkdecejkeaa.frz]
      split
      · show ∃ y, gz (List.set _ _ _) i = _
        by_cases e : gn (opens st.2) k = i
        · subst e
          rw [gz_set_same _ _ _ (by rw [hlen.1]; exact hi)]
          exact ⟨_, rfl⟩
        · rw [gz_set_other _ _ _ _ e]; exact ih.size i hi
      · exact ih.size i hi
    · intro i hi h3 h4
      have hne : gn (opens st.2) k ≠ i := fun e => by
        have := (h.rigid i hi h3 h4).1
        rw [← e] at this
        have h2 := hm.2.1
        unfold opens at this
        rw [h2] at this; cases this
      simp only [Proofs.Ytadkkkdecejkeaa.frz]
      split
      · show gb (List.set _ _ _) i = true ∧ gz (List.set _ _ _) i = _
        rw [gz_set_other _ _ _ _ hne, gb_set_other hne]; exact ih.rigid i hi h3 h4
      · exact ih.rigid i hi h3 h4
theorem cl_lim {l : List Rec} {i : Nat} (y : Int) : gf l i 1 ≤ cl l i y ∧ (gf l i 1 ≤ gf l i 2 → cl l i y ≤ gf l i 2) ∧ (gf l i 2 < gf l i 1 → cl l i y = gf l i 1) := by
  unfold cl clampZ
  split
  · refine ⟨Int.le_refl _, fun h => ?_, fun h => rfl⟩; omega
  · split
    · refine ⟨by omega, fun h => Int.le_refl _, fun h => by omega⟩
    · refine ⟨by omega, fun h => by omega, fun h => by omega⟩
/-- What BoxBounds asks of the sizes. -/
theorem resOk_bounds {av gp : Int} {l : List Rec} (h : flexTo l l.length) : (resOk av gp l).length = l.length ∧ ∀ i, i < l.length →
    (gf l i 1 ≤ gz (resOk av gp l) i ∧ (gf l i 1 ≤ gf l i 2 → gz (resOk av gp l) i ≤ gf l i 2) ∧ (gf l i 2 < gf l i 1 → gz (resOk av gp l) i = gf l i 1)) ∧
    (gf l i 3 = 0 → gf l i 4 = 0 → gz (resOk av gp l) i = clampZ (gf l i 0) (gf l i 1) (gf l i 2)) := by
  unfold resOk
  obtain ⟨st', h1, h2, _⟩ := finB_inv (l := l) (g := growsB av gp l) (sp := spTo av gp l.length) (Inv := BInv l) (fun st hi _ => hi.frz h _ (Nat.le_refl _)) l.length (size0 l, frozen0 l (growsB av gp l)) (by have := count_le_len (frozen0 l (growsB av gp l)); rw [frozen0_len] at this; exact this) (BInv.start h _)
  rw [h1]
  refine ⟨h2.ok.ls, fun i hi => ⟨?_, fun h3 h4 => (h2.rigid i hi h3 h4).2⟩⟩
  obtain ⟨y, hy⟩ := h2.size i hi
  rw [hy]
  exact cl_lim y
theorem resOk_bd {av gp : Int} {l : List Rec} (h : flexTo l l.length) : ∀ i, i < l.length → 0 ≤ gz (resOk av gp l) i ∧ gz (resOk av gp l) i ≤ 1048576 := by
  unfold resOk
  obtain ⟨st', h1, h2, _⟩ := finB_inv (l := l) (g := growsB av gp l) (sp := spTo av gp l.length) (Inv := BInv l) (fun st hi _ => hi.frz h _ (Nat.le_refl _)) l.length (size0 l, frozen0 l (growsB av gp l)) (by have := count_le_len (frozen0 l (growsB av gp l)); rw [frozen0_len] at this; exact this) (BInv.start h _)
  rw [h1]
  exact h2.ok.bd

/-! ### a row that grows fills the space -/
def sumF (F : Nat → Int) : Nat → Int
  | 0 => 0
  | k + 1 => sumF F k + F k
theorem sumF_congr {F G : Nat → Int} : ∀ n, (∀ i, i < n → F i = G i) → sumF F n = sumF G n
  | 0, _ => rfl
  | n + 1, h => by simp only [sumF]; rw [sumF_congr n (fun i hi => h i (by omega)), h n (by omega)]
theorem sumF_le {F G : Nat → Int} : ∀ n, (∀ i, i < n → F i ≤ G i) → sumF F n ≤ sumF G n
  | 0, _ => Int.le_refl _
  | n + 1, h => by
    have := sumF_le n (fun i hi => h i (by omega))
    have := h n (by omega)
    simp only [sumF]; omega
theorem sumTo_sumF (s : List Int) : ∀ n, sumTo s n = sumF (gz s) n
  | 0 => rfl
  | n + 1 => by simp only [sumTo, sumF]; rw [sumTo_sumF s n]
theorem sumF_sub (F G : Nat → Int) : ∀ n, sumF (fun i => F i - G i) n = sumF F n - sumF G n
  | 0 => rfl
  | n + 1 => by simp only [sumF]; rw [sumF_sub F G n]; omega
/-- A sum over the elements, those that are open by their place. -/
theorem sumF_open (f : List Bool) (A B : Nat → Int) : ∀ n, sumF (fun i => if gb f i then A i else B (opensTo f i).length) n = sumF (fun i => if gb f i then A i else 0) n + sumF B (opensTo f n).length
  | 0 => rfl
  | n + 1 => by
    simp only [sumF]
    rw [sumF_open f A B n]
    cases c : gb f n with
    | true => rw [opensTo_yes c]; simp; omega
    | false => rw [opensTo_no c]; simp [sumF]; omega
theorem freeTo_sumF (l : List Rec) (sp : Int) (s : List Int) (f : List Bool) : ∀ n, freeTo l sp s f n = sp - sumF (fun i => if gb f i then gz s i else gf l i 0) n
  | 0 => by simp [freeTo, sumF]
  | n + 1 => by simp only [freeTo, sumF]; rw [freeTo_sumF l sp s f n]; omega
theorem vTo_sumF (l : List Rec) (g : Bool) (P : List Int) (o : List Nat) : ∀ k, vTo l g P o k = sumF (fun j => cl l (gn o j) (tg l g P o j) - tg l g P o j) k
  | 0 => rfl
  | k + 1 => by simp only [vTo, sumF]; rw [vTo_sumF l g P o k]
/-- The state behind the first k open elements. -/
theorem frz_at {l : List Rec} {g : Bool} {P : List Int} {v : Int} {st : St} (h : StOk l.length st) : ∀ k, k ≤ (opens st.2).length → ∀ i, i < l.length →
    gz (frz l g P (opens st.2) v st k).1 i = (if gb st.2 i then gz st.1 i else if (opensTo st.2 i).length < k ∧ hitB v (cl l i (tg l g P (opens st.2) (opensTo st.2 i).length)) (tg l g P (opens st.2) (opensTo st.2 i).length) = true then cl l i (tg l g P (opens st.2) (opensTo st.2 i).length) else gz st.1 i) ∧
    gb (frz l g P (opens st.2) v st k).2 i = (gb st.2 i || (decide ((opensTo st.2 i).length < k) && hitB v (cl l i (tg l g P (opens st.2) (opensTo st.2 i).length)) (tg l g P (opens st.2) (opensTo st.2 i).length)))
  | 0, _, i, hi => by
    constructor
    · show gz st.1 i = _
      split
      · rfl
      · simp
    · show gb st.2 i = _
      simp
  | k + 1, hk, i, hi => by
    obtain ⟨h1, h2⟩ := frz_at (g := g) (P := P) (v := v) h k (by omega) i hi
    have hm := opensTo_mem (f := st.2) (m := st.2.length) (k := k) (by unfold opens at hk; omega)
    have hlen := frz_len l g P (opens st.2) v st k
    rw [h.ls, h.lf] at hlen
    have hlf := h.lf
    by_cases e : gn (opens st.2) k = i
    · have er : (opensTo st.2 i).length = k := by rw [← e]; exact hm.2.2
      have eb : gb st.2 i = false := by rw [← e]; exact hm.2.1
      rw [er] at h1 h2 ⊢
      rw [eb] at h1 h2 ⊢
      cases c : hitB v (cl l i (tg l g P (opens st.2) k)) (tg l g P (opens st.2) k) with
      | true =>
        rw [frz_hit (by rw [e]; exact c)]
        rw [e]
        show gz (List.set _ _ _) i = _ ∧ gb (List.set _ _ _) i = _
        rw [gz_set_same _ _ _ (by rw [hlen.1]; exact hi), gb_set_same (by rw [hlen.2]; exact hi)]
        simp
      | false =>
        rw [frz_miss (by rw [e]; exact c)]
        rw [h1, h2]
        simp
    · have hne : gb st.2 i = false → (opensTo st.2 i).length ≠ k := fun eb er => by
        apply e
        have := (opensTo_rank (f := st.2) (m := st.2.length) (i := i) (by omega) eb).2
        rw [er] at this; exact this
      have hst : gz (frz l g P (opens st.2) v st (k + 1)).1 i = gz (frz l g P (opens st.2) v st k).1 i ∧ gb (frz l g P (opens st.2) v st (k + 1)).2 i = gb (frz l g P (opens st.2) v st k).2 i := by
        simp only [frz]
        split
        · show gz (List.set _ _ _) i = _ ∧ gb (List.set _ _ _) i = _
          exact ⟨gz_set_other _ _ _ _ e, gb_set_other e _⟩
        · exact ⟨rfl, rfl⟩
      rw [hst.1, hst.2, h1, h2]
      cases eb : gb st.2 i with
      | true => simp
      | false =>
        have := hne eb
        have e2 : ((opensTo st.2 i).length < k + 1) = ((opensTo st.2 i).length < k) := propext ⟨fun _ => by omega, fun _ => by omega⟩
        simp [e2]

theorem sumF_add (F G : Nat → Int) : ∀ n, sumF (fun i => F i + G i) n = sumF F n + sumF G n
  | 0 => rfl
  | n + 1 => by simp only [sumF]; rw [sumF_add F G n]; omega
theorem sumF_zero : ∀ n, sumF (fun _ => 0) n = 0
  | 0 => rfl
  | n + 1 => by simp only [sumF]; rw [sumF_zero n]; rfl
theorem sumF_nonneg {F : Nat → Int} : ∀ n, (∀ i, i < n → 0 ≤ F i) → 0 ≤ sumF F n
  | 0, _ => Int.le_refl _
  | n + 1, h => by
    have := sumF_nonneg n (fun i hi => h i (by omega))
    have := h n (by omega)
    simp only [sumF]; omega
theorem le_sumF {F : Nat → Int} : ∀ n, (∀ i, i < n → 0 ≤ F i) → ∀ j, j < n → F j ≤ sumF F n
  | 0, _, j, hj => absurd hj (Nat.not_lt_zero _)
  | n + 1, h, j, hj => by
    have h0 := sumF_nonneg n (fun i hi => h i (by omega))
    have h1 := h n (by omega)
    simp only [sumF]
    by_cases e : j = n
    · subst e; omega
    · have := le_sumF n (fun i hi => h i (by omega)) j (by omega); omega
/-- All limits are lower ones. -/
def lowOnly (l : List Rec) : Prop := ∀ i, i < l.length → gf l i 2 = 1048576
def wantF (l : List Rec) (i : Nat) : Int := max (gf l i 0) (gf l i 1)
theorem cl_low {l : List Rec} {i : Nat} (hl : flexTo l l.length) (hi : i < l.length) (hm : lowOnly l) {t : Int} (ht : t ≤ 1048576) : cl l i t = max t (gf l i 1) := by
  have := flexB_iff.1 (hl i hi)
  have h2 := hm i hi
  unfold cl clampZ
  split
  · omega
  · split <;> omega
/-- What holds of a row that grows and whose elements fit. -/
def FInv (l : List Rec) (sp : Int) (st : St) : Prop :=
  StOk l.length st ∧ ((st.2.count false ≠ 0 ∧ (∀ i, i < l.length → gb st.2 i = true → gz st.1 i ≤ wantF l i) ∧ (∀ i, i < l.length → gb st.2 i = false → 0 < gf l i 3)) ∨
    (st.2.count false = 0 ∧ sumF (gz st.1) l.length = sp))
theorem FInv.step {l : List Rec} {sp : Int} {st : St} (hl : flexTo l l.length) (hn : l.length ≤ 100) (hm : lowOnly l) (hsp : -104857600 ≤ sp ∧ sp ≤ 1048576) (hw : sumF (wantF l) l.length ≤ sp) (h : FInv l sp st) (hc : st.2.count false ≠ 0) : FInv l sp (stepB l true sp st) := by
  obtain ⟨hok, h⟩ := h
  obtain ⟨_, hA, hB⟩ : st.2.count false ≠ 0 ∧ (∀ i, i < l.length → gb st.2 i = true → gz st.1 i ≤ wantF l i) ∧ (∀ i, i < l.length → gb st.2 i = false → 0 < gf l i 3) := by
    rcases h with h | h
    · exact h
    · exact absurd h.1 hc
  have hlf := hok.lf
  obtain ⟨O, hO⟩ : ∃ O, opens st.2 = O := ⟨_, rfl⟩
  have hO' : opensTo st.2 l.length = O := by rw [← hO]; unfold opens; rw [hlf]
  have hm0 : 0 < O.length := by rw [← hO, opens_count]; omega
  have hmem : ∀ k, k < O.length → gn O k < l.length ∧ gb st.2 (gn O k) = false ∧ (opensTo st.2 (gn O k)).length = k := fun k hk => by
    have := opensTo_mem (f := st.2) (m := l.length) (k := k) (by rw [hO']; exact hk)
    rwa [hO'] at this
  have hrank : ∀ i, i < l.length → gb st.2 i = false → (opensTo st.2 i).length < O.length ∧ gn O (opensTo st.2 i).length = i := fun i hi hb => by
    have := opensTo_rank (f := st.2) (m := l.length) hi hb
    rwa [hO'] at this
  have hfr := freeTo_sumF l sp st.1 st.2 l.length
  have hle : sumF (fun i => if gb st.2 i then gz st.1 i else gf l i 0) l.length ≤ sumF (wantF l) l.length := sumF_le _ fun i hi => by
    cases c : gb st.2 i with
    | true => simpa [c] using hA i hi c
    | false => simp [wantF]; omega
  have hpos : ∀ i, i < l.length → 0 ≤ (if gb st.2 i then gz st.1 i else gf l i 0) := fun i hi => by
    have := hok.bd i hi
    have := flexB_iff.1 (hl i hi)
    split <;> omega
  obtain ⟨F, hF⟩ : ∃ F, freeTo l sp st.1 st.2 l.length = F := ⟨_, rfl⟩
  rw [hF] at hfr
  have hF0 : 0 ≤ F := by omega
  have htot : tot l true sp st.1 st.2 = F := by unfold tot sgn; rw [hlf, hF]; simp; omega
  obtain ⟨P, hP⟩ : ∃ P, prts l true sp st.1 st.2 = P := ⟨_, rfl⟩
  have hPd : P = shareParts F (wts l true O) := by rw [← hP]; unfold prts; rw [htot, hO]
  have hF1 : F ≤ 1073741824 := by have := sumF_nonneg _ hpos; omega
  have hgood : goodTo (wts l true O) (wts l true O).length := by
    have := wts_good (f := st.2) (l := l) (g := true) (m := l.length) (Nat.le_refl _) hl
    rwa [hO'] at this
  have hOl : O.length ≤ 100 := by rw [← hO']; have := opensTo_le st.2 l.length; omega
  obtain ⟨_, hPl, hPe, hPs⟩ := sums_facts (T := F) (ws := wts l true O) hF0 hF1 (by rw [wts_len]; exact hOl) hgood
  rw [wts_len] at hPl hPe hPs hgood
  rw [← hPd] at hPl hPe hPs
  have hw0 : sumTo (wts l true O) O.length ≠ 0 := by
    have h1 := le_sumTo hgood hm0
    rw [wts_at hm0] at h1
    have h2 := hB _ (hmem 0 hm0).1 (hmem 0 hm0).2.1
    simp only [wOf, if_true] at h1
    omega
  rw [if_neg hw0, sumTo_sumF] at hPs
  have hPn : ∀ k, k < O.length → 0 ≤ gz P k := fun k hk => (hPe k hk).lo
  have hPF : ∀ k, k < O.length → gz P k ≤ F := fun k hk => (hPe k hk).hi
  obtain ⟨T, hT⟩ : ∃ T : Nat → Int, T = tg l true P O := ⟨_, rfl⟩
  have hTe : ∀ k, T k = gf l (gn O k) 0 + gz P k := fun k => by rw [hT]; simp [tg, sgn]
  have hTb : ∀ k, k < O.length → T k ≤ 1048576 := fun k hk => by
    have h1 := le_sumF _ hpos (gn O k) (hmem k hk).1
    rw [(hmem k hk).2.1] at h1
    simp at h1
    have := hPF k hk
    rw [hTe k]; omega
  obtain ⟨C, hC⟩ : ∃ C : Nat → Int, C = fun k => cl l (gn O k) (T k) := ⟨_, rfl⟩
  have hCe : ∀ k, k < O.length → C k = max (T k) (gf l (gn O k) 1) := fun k hk => by rw [hC]; exact cl_low hl (hmem k hk).1 hm (hTb k hk)
  have hvs : vTo l true P O O.length = sumF (fun k => C k - T k) O.length := by rw [vTo_sumF, hC, hT]
  obtain ⟨v, hv⟩ : ∃ v, vTo l true P O O.length = v := ⟨_, rfl⟩
  rw [hv] at hvs
  have hv0 : 0 ≤ v := by rw [hvs]; exact sumF_nonneg _ fun k hk => by have := hCe k hk; omega
  have s1 : sumF (fun i => if gb st.2 i then gz st.1 i else T (opensTo st.2 i).length) l.length = sp := by
    have e : sumF (fun i => if gb st.2 i then gz st.1 i else T (opensTo st.2 i).length) l.length = sumF (fun i => (if gb st.2 i then gz st.1 i else gf l i 0) + (if gb st.2 i then 0 else gz P (opensTo st.2 i).length)) l.length :=
      sumF_congr _ fun i hi => by
        cases c : gb st.2 i with
        | true => simp
        | false =>
          have := (hrank i hi c).2
          simp only [Bool.false_eq_true, if_false]
          rw [hTe, this]
    rw [e, sumF_add, sumF_open st.2 (fun _ => 0) (gz P) l.length, hO', hPs]
    have e0 : sumF (fun i => if gb st.2 i then (0 : Int) else 0) l.length = 0 := by
      rw [show (fun i => if gb st.2 i then (0 : Int) else 0) = fun _ => 0 from funext fun i => by split <;> rfl]
      exact sumF_zero _
    rw [e0]; omega
  have s2 : sumF (fun i => if gb st.2 i then gz st.1 i else C (opensTo st.2 i).length) l.length = sp + v := by
    have e : sumF (fun i => if gb st.2 i then gz st.1 i else C (opensTo st.2 i).length) l.length = sumF (fun i => (if gb st.2 i then gz st.1 i else T (opensTo st.2 i).length) + (if gb st.2 i then 0 else C (opensTo st.2 i).length - T (opensTo st.2 i).length)) l.length :=
      sumF_congr _ fun i hi => by
        cases c : gb st.2 i with
        | true => simp
        | false => simp only [Bool.false_eq_true, if_false]; omega
    rw [e, sumF_add, s1, sumF_open st.2 (fun _ => 0) (fun k => C k - T k) l.length, hO', ← hvs]
    have e0 : sumF (fun i => if gb st.2 i then (0 : Int) else 0) l.length = 0 := by
      rw [show (fun i => if gb st.2 i then (0 : Int) else 0) = fun _ => 0 from funext fun i => by split <;> rfl]
      exact sumF_zero _
    rw [e0]; omega
  have hstep : stepB l true sp st = frz l true P (opens st.2) v st (opens st.2).length := by unfold stepB; rw [hP, hO, hv]
  have hat := frz_at (l := l) (g := true) (P := P) (v := v) hok (opens st.2).length (Nat.le_refl _)
  rw [← hstep, hO] at hat
  have hat' : ∀ i, i < l.length → (gb st.2 i = true → gz (stepB l true sp st).1 i = gz st.1 i ∧ gb (stepB l true sp st).2 i = true) ∧
      (gb st.2 i = false → hitB v (C (opensTo st.2 i).length) (T (opensTo st.2 i).length) = true → gz (stepB l true sp st).1 i = C (opensTo st.2 i).length ∧ gb (stepB l true sp st).2 i = true) ∧
      (gb st.2 i = false → hitB v (C (opensTo st.2 i).length) (T (opensTo st.2 i).length) = false → gb (stepB l true sp st).2 i = false) := fun i hi => by
    obtain ⟨a1, a2⟩ := hat i hi
    refine ⟨fun c => ?_, fun c hh => ?_, fun c hh => ?_⟩
    · rw [c] at a1 a2; simpa using ⟨a1, a2⟩
    · obtain ⟨r1, r2⟩ := hrank i hi c
      have e1 : tg l true P O (opensTo st.2 i).length = T (opensTo st.2 i).length := by rw [hT]
      have e2 : cl l i (T (opensTo st.2 i).length) = C (opensTo st.2 i).length := by rw [hC]; show _ = cl l (gn O _) _; rw [r2]
      rw [c, e1, e2] at a1 a2
      rw [hh] at a1 a2
      simp [r1] at a1 a2
      exact ⟨a1, a2⟩
    · obtain ⟨r1, r2⟩ := hrank i hi c
      have e1 : tg l true P O (opensTo st.2 i).length = T (opensTo st.2 i).length := by rw [hT]
      have e2 : cl l i (T (opensTo st.2 i).length) = C (opensTo st.2 i).length := by rw [hC]; show _ = cl l (gn O _) _; rw [r2]
      rw [c, e1, e2, hh] at a2
      simpa using a2
  have hok' := hok.step (g := true) (sp := sp) rfl hl
  refine ⟨hok', ?_⟩
  have hall : (∀ i, i < l.length → gb (stepB l true sp st).2 i = true) → (stepB l true sp st).2.count false = 0 := fun hh => by
    rw [List.count_eq_zero]
    intro hmm
    obtain ⟨j, hj, e⟩ := List.mem_iff_getElem.1 hmm
    have := hh j (by rw [← hok'.lf]; exact hj)
    simp [gb, hj, e] at this
  by_cases c : v = 0
  · right
    have hhit : ∀ a b, hitB v a b = true := fun a b => by simp [hitB, c]
    refine ⟨hall fun i hi => ?_, ?_⟩
    · cases e : gb st.2 i with
      | true => exact ((hat' i hi).1 e).2
      | false => exact ((hat' i hi).2.1 e (hhit _ _)).2
    · have e3 : sumF (fun i => if gb st.2 i then gz st.1 i else C (opensTo st.2 i).length) l.length = sp := by rw [c] at s2; simpa using s2
      refine (sumF_congr _ fun i hi => ?_).trans e3
      cases e : gb st.2 i with
      | true => simpa using ((hat' i hi).1 e).1
      | false => simpa using ((hat' i hi).2.1 e (hhit _ _)).1
  · left
    have hvp : 0 < v := by omega
    have hhit : ∀ a b, hitB v a b = decide (b < a) := fun a b => by rw [Bool.eq_iff_iff]; simp [hitB, c, hvp]; omega
    have hA' : ∀ i, i < l.length → gb (stepB l true sp st).2 i = true → gz (stepB l true sp st).1 i ≤ wantF l i := fun i hi hb => by
      cases e : gb st.2 i with
      | true => rw [((hat' i hi).1 e).1]; exact hA i hi e
      | false =>
        cases hh : hitB v (C (opensTo st.2 i).length) (T (opensTo st.2 i).length) with
        | false => rw [(hat' i hi).2.2 e hh] at hb; cases hb
        | true =>
          rw [((hat' i hi).2.1 e hh).1]
          obtain ⟨r1, r2⟩ := hrank i hi e
          have hce := hCe _ r1
          rw [r2] at hce
          rw [hhit] at hh
          have := of_decide_eq_true hh
          unfold wantF
          omega
    refine ⟨fun h0 => ?_, hA', fun i hi hb => ?_⟩
    · have hfz : ∀ i, i < l.length → gb (stepB l true sp st).2 i = true := fun i hi => by
        cases e : gb (stepB l true sp st).2 i with
        | true => rfl
        | false =>
          exfalso
          have hi2 : i < (stepB l true sp st).2.length := by rw [hok'.lf]; exact hi
          have e2 : (stepB l true sp st).2[i] = false := by simpa [gb, hi2] using e
          rw [List.count_eq_zero] at h0
          exact h0 (by rw [← e2]; exact List.getElem_mem hi2)
      have h1 : sumF (gz (stepB l true sp st).1) l.length ≤ sumF (wantF l) l.length := sumF_le _ fun i hi => hA' i hi (hfz i hi)
      have h2 : sumF (gz (stepB l true sp st).1) l.length = sp + v := by
        rw [← s2]
        refine sumF_congr _ fun i hi => ?_
        cases e : gb st.2 i with
        | true => simpa using ((hat' i hi).1 e).1
        | false =>
          cases hh : hitB v (C (opensTo st.2 i).length) (T (opensTo st.2 i).length) with
          | false => have := hfz i hi; rw [(hat' i hi).2.2 e hh] at this; cases this
          | true => simpa using ((hat' i hi).2.1 e hh).1
      omega
    · cases e : gb st.2 i with
      | true => rw [((hat' i hi).1 e).2] at hb; cases hb
      | false => exact hB i hi e
/-- What BoxFills asks: the elements fill the space. -/
theorem resOk_fills {av gp : Int} {l : List Rec} (hl : flexTo l l.length) (hn : l.length ≤ 100) (hm : lowOnly l) (ha : 0 ≤ av ∧ av ≤ 1048576) (hg : 0 ≤ gp ∧ gp ≤ 1048576) (hw : sumF (wantF l) l.length ≤ spTo av gp l.length) (hex : ∃ i, i < l.length ∧ 0 < gf l i 3) :
    sumTo (resOk av gp l) l.length = spTo av gp l.length := by
  have hsz : ∀ i, i < l.length → gz (size0 l) i = wantF l i := fun i hi => by
    have := flexB_iff.1 (hl i hi)
    rw [size0_at hi, cl_low hl hi hm (by omega)]; rfl
  have hsum : sumTo (size0 l) l.length = sumF (wantF l) l.length := by rw [sumTo_sumF]; exact sumF_congr _ hsz
  have hgr : growsB av gp l = true := by unfold growsB; rw [hsum]; simpa using hw
  have hfz : ∀ i, i < l.length → gb (frozen0 l true) i = decide (gf l i 3 = 0) := fun i hi => by
    rw [frozen0_at hi]
    have h1 := hsz i hi
    rw [size0_at hi] at h1
    have : awayB l true i = false := by simp [awayB]; rw [h1]; unfold wantF; omega
    rw [this]; simp [wOf]
  have hs := spTo_bd (av := av) (gp := gp) ha.1 ha.2 hg.1 hg.2 hn
  unfold resOk
  rw [hgr]
  obtain ⟨st', h1, h2, h3⟩ := finB_inv (l := l) (g := true) (sp := spTo av gp l.length) (Inv := FInv l (spTo av gp l.length)) (fun st hi hc => hi.step hl hn hm hs hw hc) l.length (size0 l, frozen0 l true) (by have := count_le_len (frozen0 l true); rw [frozen0_len] at this; exact this) (by
    refine ⟨StOk.start hl true, .inl ⟨?_, fun i hi _ => by rw [show gz (size0 l, frozen0 l true).1 i = wantF l i from hsz i hi]; exact Int.le_refl _, fun i hi hb => ?_⟩⟩
    · obtain ⟨i, hi, hgi⟩ := hex
      have hb : gb (frozen0 l true) i = false := by rw [hfz i hi]; simp; omega
      have hi2 : i < (frozen0 l true).length := by rw [frozen0_len]; exact hi
      have e2 : (frozen0 l true)[i] = false := by simpa [gb, hi2] using hb
      have : 0 < (frozen0 l true).count false := List.count_pos_iff.2 (by rw [← e2]; exact List.getElem_mem hi2)
      show (frozen0 l true).count false ≠ 0
      omega
    · have hb' : gb (frozen0 l true) i = false := hb
      rw [hfz i hi] at hb'
      have := flexB_iff.1 (hl i hi)
      have := of_decide_eq_false hb'
      omega)
  rw [h1, sumTo_sumF]
  rcases h2.2 with h | h
  · exact absurd h3 h.1
  · exact h.2
end Go.Proofs.Ytadkkkdecejkeaa
