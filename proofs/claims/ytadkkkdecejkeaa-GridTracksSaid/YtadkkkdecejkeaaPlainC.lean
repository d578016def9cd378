/- Plain mathematics of Share: the sum of the parts, their distance from the proportions, their order. No program in sight. -/
import Derived.Test.YtadkkkdecejkeaaPlainB
namespace Go.Proofs.Ytadkkkdecejkeaa

theorem best_max (r : List Int) : ∀ k j, j < k → gz r j ≤ gz r (best r k)
  | 0, _, h => absurd h (Nat.not_lt_zero _)
  | k + 1, j, h => by
    simp only [best]
    by_cases c : gz r (best r k) < gz r k
    · rw [if_pos c]
      by_cases e : j = k
      · subst e; exact Int.le_refl _
      · have := best_max r k j (by omega); omega
    · rw [if_neg c]
      by_cases e : j = k
      · subst e; omega
      · exact best_max r k j (by omega)
theorem best_first (r : List Int) : ∀ k j, j < best r k → gz r j < gz r (best r k)
  | 0, _, h => absurd h (Nat.not_lt_zero _)
  | k + 1, j, h => by
    simp only [best] at h ⊢
    by_cases c : gz r (best r k) < gz r k
    · rw [if_pos c] at h ⊢
      by_cases e : j < best r k
      · have := best_first r k j e; omega
      · by_cases e2 : j = best r k
        · subst e2; exact c
        · have := best_max r k j h; omega
    · rw [if_neg c] at h ⊢
      exact best_first r k j h

theorem sumTo_congr {l m : List Int} : ∀ n, (∀ j, j < n → gz l j = gz m j) → sumTo l n = sumTo m n
  | 0, _ => rfl
  | n + 1, h => by simp only [sumTo]; rw [sumTo_congr n (fun j hj => h j (by omega)), h n (by omega)]
theorem sumTo_set {l : List Int} {b : Nat} {x : Int} (hb : b < l.length) : ∀ n, sumTo (l.set b x) n = if b < n then sumTo l n - gz l b + x else sumTo l n
  | 0 => by simp [sumTo]
  | n + 1 => by
    simp only [sumTo]
    rw [sumTo_set hb n]
    by_cases c : b = n
    · subst c
      rw [if_neg (by omega), if_pos (by omega), gz_set_same _ _ _ hb]; omega
    · rw [gz_set_other _ _ _ _ c]
      by_cases d : b < n
      · rw [if_pos d, if_pos (by omega)]; omega
      · rw [if_neg d, if_neg (by omega)]
theorem sumTo_nonpos {l : List Int} : ∀ n, (∀ j, j < n → gz l j ≤ 0) → sumTo l n ≤ 0
  | 0, _ => by simp [sumTo]
  | n + 1, h => by
    have := sumTo_nonpos n (fun j hj => h j (by omega))
    have := h n (by omega)
    simp only [sumTo]; omega

/-- What holds of parts and rests in the middle of the rounds. -/
structure Mid (n : Nat) (p0 r0 p r : List Int) : Prop where
  lp : p.length = n
  lr : r.length = n
  each : ∀ j, j < n → (gz p j = gz p0 j ∧ gz r j = gz r0 j) ∨ (gz p j = gz p0 j + 1 ∧ gz r j = -1 ∧ 0 < gz r0 j)
  order : ∀ i k, i < n → k < n → gz r i = -1 → 0 ≤ gz r k → gz r0 k < gz r0 i ∨ (gz r0 k = gz r0 i ∧ i < k)

theorem Mid.give {n : Nat} {p0 r0 p r : List Int} (h : Mid n p0 r0 p r) (hn : 0 < n) (hs : 0 < sumTo r n) : Mid n p0 r0 (giveP p r) (giveR r) := by
  have hb : best r r.length < n := best_lt r (by rw [h.lr]; omega) hn
  have hpos : 0 < gz r (best r r.length) := by
    by_cases c : 0 < gz r (best r r.length)
    · exact c
    · exfalso
      have := sumTo_nonpos (l := r) n (fun j hj => by have := best_max r r.length j (by rw [h.lr]; exact hj); omega)
      omega
  obtain ⟨b, hbe⟩ : ∃ b, b = best r r.length := ⟨_, rfl⟩
  have hg1 : giveP p r = p.set b (gz p b + 1) := by rw [giveP, ← hbe]
  have hg2 : giveR r = r.set b (-1) := by rw [giveR, ← hbe]
  have hmax : ∀ j, j < n → gz r j ≤ gz r b := fun j hj => by rw [hbe]; exact best_max r r.length j (by rw [h.lr]; exact hj)
  have hfirst : ∀ j, j < b → gz r j < gz r b := fun j hj => by rw [hbe] at hj ⊢; exact best_first r r.length j hj
  rw [← hbe] at hb hpos
  refine ⟨by rw [length_giveP, h.lp], by rw [length_giveR, h.lr], ?_, ?_⟩
  · intro j hj
    rw [hg1, hg2]
    by_cases c : b = j
    · subst c
      right
      rw [gz_set_same _ _ _ (by rw [h.lp]; exact hj), gz_set_same _ _ _ (by rw [h.lr]; exact hj)]
      rcases h.each b hj with ⟨e1, e2⟩ | ⟨e1, e2, e3⟩
      · exact ⟨by rw [e1], rfl, by omega⟩
      · omega
    · rw [gz_set_other _ _ _ _ c, gz_set_other _ _ _ _ c]
      exact h.each j hj
  · intro i k hi hk h1 h2
    rw [hg2] at h1 h2
    have ck : b ≠ k := fun e => by
      subst e
      rw [gz_set_same _ _ _ (by rw [h.lr]; exact hk)] at h2; omega
    rw [gz_set_other _ _ _ _ ck] at h2
    by_cases c : b = i
    · subst c
      have e1 : gz r b = gz r0 b := by rcases h.each b hi with ⟨_, e⟩ | ⟨_, e, _⟩ <;> omega
      have e2 : gz r k = gz r0 k := by rcases h.each k hk with ⟨_, e⟩ | ⟨_, e, _⟩ <;> omega
      have := hmax k hk
      by_cases d : gz r0 k < gz r0 b
      · exact .inl d
      · right
        refine ⟨by omega, ?_⟩
        by_cases d2 : b < k
        · exact d2
        · have := hfirst k (by omega); omega
    · rw [gz_set_other _ _ _ _ c] at h1
      exact h.order i k hi hk h1 h2

theorem Mid.rounds {n : Nat} {p0 r0 : List Int} {S : Int} (h0 : ∀ j, j < n → 0 ≤ gz r0 j ∧ gz r0 j < S) (hn : 0 < n) (hS : 0 < S) :
    ∀ (m : Nat) (p r : List Int), Mid n p0 r0 p r → S * m ≤ sumTo r n → ∃ r', Mid n p0 r0 (roundsP m p r) r' ∧ sumTo (roundsP m p r) n = sumTo p n + m
  | 0, p, r, h, _ => ⟨r, h, by simp [roundsP]⟩
  | m + 1, p, r, h, hs => by
    have e : S * ((m + 1 : Nat) : Int) = S * m + S := by rw [Int.natCast_add, Int.mul_add]; simp
    have hm : 0 ≤ S * (m : Int) := Int.mul_nonneg (by omega) (by omega)
    have hb : best r r.length < n := best_lt r (by rw [h.lr]; omega) hn
    have h' := h.give hn (by omega)
    have e1 : sumTo (giveR r) n = sumTo r n - gz r (best r r.length) + -1 := by
      rw [giveR, sumTo_set (by have := h.lr; omega), if_pos hb]
    have e2 : sumTo (giveP p r) n = sumTo p n - gz p (best r r.length) + (gz p (best r r.length) + 1) := by
      rw [giveP, sumTo_set (by have := h.lp; omega), if_pos hb]
    have hlt : gz r (best r r.length) < S := by
      have := h0 _ hb
      rcases h.each _ hb with ⟨_, e⟩ | ⟨_, e, _⟩ <;> omega
    obtain ⟨r', k1, k2⟩ := Mid.rounds h0 hn hS m (giveP p r) (giveR r) h' (by omega)
    exact ⟨r', by rw [roundsP]; exact k1, by rw [roundsP, k2]; omega⟩

theorem leftTo_eq (T S : Int) (ws : List Int) (n : Nat) (hn : n ≤ ws.length) : leftTo T S ws n = T - sumTo (parts0 T S ws) n := by
  induction n with
  | zero => simp [leftTo, sumTo]
  | succ k ih => simp only [leftTo, sumTo]; rw [ih (by omega), parts0, gz_map _ _ _ (by omega)]; omega
theorem sum_rests (T S : Int) (ws : List Int) (n : Nat) (hn : n ≤ ws.length) : S * sumTo (parts0 T S ws) n + sumTo (rests0 T S ws) n = T * sumTo ws n := by
  induction n with
  | zero => simp [sumTo]
  | succ k ih =>
    have h := ih (by omega)
    have e := Int.mul_ediv_add_emod (T * gz ws k) S
    simp only [sumTo]
    rw [parts0, rests0, gz_map _ _ _ (by omega), gz_map _ _ _ (by omega)]
    rw [parts0, rests0] at h
    rw [Int.mul_add, Int.mul_add]
    omega

/-- What Share returns where it gives no error and the weights are not all 0. -/
structure Parts (T : Int) (ws ps : List Int) : Prop where
  len : ps.length = ws.length
  sum : sumTo ps ws.length = T
  each : ∃ S, S = sumTo ws ws.length ∧ 0 < S ∧ ∀ j, j < ws.length →
    (gz ps j = T * gz ws j / S ∨ (gz ps j = T * gz ws j / S + 1 ∧ 0 < T * gz ws j % S))
  order : ∃ S, S = sumTo ws ws.length ∧ ∀ i k, i < ws.length → k < ws.length → gz ps i = T * gz ws i / S + 1 → gz ps k = T * gz ws k / S →
    T * gz ws k % S < T * gz ws i % S ∨ (T * gz ws k % S = T * gz ws i % S ∧ i < k)

theorem parts_of {T : Int} {ws : List Int} (hg : goodTo ws ws.length) (hs : sumTo ws ws.length ≠ 0) :
    Parts T ws (roundsP (leftTo T (sumTo ws ws.length) ws ws.length).toNat (parts0 T (sumTo ws ws.length) ws) (rests0 T (sumTo ws ws.length) ws)) := by
  obtain ⟨S, hS⟩ : ∃ S, sumTo ws ws.length = S := ⟨_, rfl⟩
  have hS0 : 0 < S := by have := (sumTo_bd hg).1; omega
  have hn : 0 < ws.length := by
    cases ws with
    | nil => simp [sumTo] at hs
    | cons => simp
  rw [hS]
  obtain ⟨n, hw⟩ : ∃ n, ws.length = n := ⟨_, rfl⟩
  have hl := leftTo_eq T S ws n (by omega)
  have hr := sum_rests T S ws n (by omega)
  rw [hw] at hS hg hn
  rw [hS] at hr
  have gp : ∀ j, j < n → gz (parts0 T S ws) j = T * gz ws j / S := fun j hj => by rw [parts0, gz_map _ _ _ (by omega)]
  have gr : ∀ j, j < n → gz (rests0 T S ws) j = T * gz ws j % S := fun j hj => by rw [rests0, gz_map _ _ _ (by omega)]
  have hr0 : ∀ j, j < n → 0 ≤ gz (rests0 T S ws) j ∧ gz (rests0 T S ws) j < S := fun j hj => by
    rw [gr j hj]; exact ⟨Int.emod_nonneg _ (by omega), Int.emod_lt_of_pos _ hS0⟩
  have mid0 : Mid n (parts0 T S ws) (rests0 T S ws) (parts0 T S ws) (rests0 T S ws) := by
    refine ⟨by rw [parts0, List.length_map, hw], by rw [rests0, List.length_map, hw], fun j _ => .inl ⟨rfl, rfl⟩, ?_⟩
    intro i k hi _ h1 _
    have := hr0 i hi; omega
  have hsum : sumTo (rests0 T S ws) n = S * leftTo T S ws n := by
    rw [hl, Int.mul_sub, Int.mul_comm S T]; omega
  have hL : 0 ≤ leftTo T S ws n := by
    by_cases c : 0 ≤ leftTo T S ws n
    · exact c
    · exfalso
      have h1 : 0 ≤ sumTo (rests0 T S ws) n := by
        have : ∀ m, m ≤ n → 0 ≤ sumTo (rests0 T S ws) m := by
          intro m
          induction m with
          | zero => intro _; simp [sumTo]
          | succ m ih => intro hm; have := ih (by omega); have := (hr0 m (by omega)).1; simp only [sumTo]; omega
        exact this n (Nat.le_refl _)
      have h2 : S * leftTo T S ws n < 0 := Int.mul_neg_of_pos_of_neg hS0 (by omega)
      omega
  rw [hw]
  obtain ⟨L, hLe⟩ : ∃ L, L = (leftTo T S ws n).toNat := ⟨_, rfl⟩
  have hLi : (L : Int) = leftTo T S ws n := by omega
  rw [← hLe]
  obtain ⟨r', mid, hps⟩ := Mid.rounds hr0 hn hS0 L _ _ mid0 (by rw [hsum, hLi]; exact Int.le_refl _)
  refine ⟨by rw [mid.lp, hw], by rw [hw, hps, hLi, hl]; omega, ⟨S, by rw [hw, hS], hS0, ?_⟩, ⟨S, by rw [hw, hS], ?_⟩⟩
  · intro j hj
    rw [hw] at hj
    rcases mid.each j hj with ⟨e, _⟩ | ⟨e, _, e2⟩
    · left; rw [e, gp j hj]
    · right; rw [gr j hj] at e2; exact ⟨by rw [e, gp j hj], e2⟩
  · intro i k hi hk h1 h2
    rw [hw] at hi hk
    have a1 := mid.each i hi
    have a2 := mid.each k hk
    rw [gp i hi] at a1
    rw [gp k hk] at a2
    have b1 : gz r' i = -1 := by rcases a1 with ⟨e, _⟩ | ⟨_, e, _⟩ <;> omega
    have b2 : 0 ≤ gz r' k := by have := hr0 k hk; rcases a2 with ⟨_, e⟩ | ⟨e, _, _⟩ <;> omega
    have := mid.order i k hi hk b1 b2
    rwa [gr i hi, gr k hk] at this
end Go.Proofs.Ytadkkkdecejkeaa
