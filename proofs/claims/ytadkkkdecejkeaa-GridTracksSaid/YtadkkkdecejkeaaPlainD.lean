/- Plain mathematics: what the laws FixedShareSums and FixedShareOrder ask of the parts. No program in sight. -/
import Derived.Test.YtadkkkdecejkeaaPlainC
namespace Go.Proofs.Ytadkkkdecejkeaa

theorem shareErr_ok {T : Int} {ws : List Int} (hn : ws.length ≤ 100) (h0 : 0 ≤ T) (h1 : T ≤ 1073741824) (hg : goodTo ws ws.length) : shareErr T ws = 0 := by
  unfold shareErr
  rw [if_neg (by omega), if_neg (by omega), if_neg (by rw [not_bad_of hg]; simp)]
theorem shareParts_pos {T : Int} {ws : List Int} (he : shareErr T ws = 0) (hg : goodTo ws ws.length) (hs : sumTo ws ws.length ≠ 0) : Parts T ws (shareParts T ws) := by
  have := parts_of (T := T) hg hs
  unfold shareParts
  rwa [if_neg (by rw [he]; simp), if_neg hs]
theorem shareParts_zero {T : Int} {ws : List Int} (he : shareErr T ws = 0) (hs : sumTo ws ws.length = 0) : shareParts T ws = List.replicate ws.length 0 := by
  unfold shareParts
  rw [if_neg (by rw [he]; simp), if_pos hs]
theorem sumTo_replicate (m : Nat) : ∀ n, sumTo (List.replicate m 0) n = 0
  | 0 => rfl
  | n + 1 => by simp only [sumTo]; rw [sumTo_replicate m n, gz_replicate]; rfl

/-- What FixedShareSums asks of each part. -/
structure SumOk (T S wj pj : Int) : Prop where
  lo : 0 ≤ pj
  hi : pj ≤ T
  zero : wj = 0 → pj = 0
  near : 0 < S → pj * S - T * wj < S ∧ -S < pj * S - T * wj

theorem quot_zero (t s : Int) : t * 0 / s = 0 ∧ t * 0 % s = 0 := by simp
theorem sumOk_of {T S wj pj : Int} (hT : 0 ≤ T) (hw : 0 ≤ wj) (hS : 0 < S) (hle : wj ≤ S)
    (h : pj = T * wj / S ∨ (pj = T * wj / S + 1 ∧ 0 < T * wj % S)) : SumOk T S wj pj := by
  have hq := quot_bd hT hw hS hle
  have e := Int.mul_ediv_add_emod (T * wj) S
  have r0 := Int.emod_nonneg (T * wj) (show S ≠ 0 by omega)
  have r1 := Int.emod_lt_of_pos (T * wj) hS
  have c1 : T * wj / S * S = S * (T * wj / S) := Int.mul_comm _ _
  have hT2 : T * wj ≤ S * T := by rw [Int.mul_comm S T]; exact Int.mul_le_mul_of_nonneg_left hle hT
  rcases h with h | ⟨h, hr⟩
  · subst h
    refine ⟨hq.1, hq.2, fun z => ?_, fun _ => ⟨by omega, by omega⟩⟩
    subst z; exact (quot_zero T S).1
  · subst h
    refine ⟨by omega, ?_, fun z => ?_, fun _ => ?_⟩
    · by_cases c : T * wj / S + 1 ≤ T
      · exact c
      · exfalso
        have : T * wj / S = T := by omega
        rw [this] at e; omega
    · subst z; rw [(quot_zero T S).2] at hr; omega
    · rw [Int.add_mul]; omega

theorem sums_facts {T : Int} {ws : List Int} (h0 : 0 ≤ T) (h1 : T ≤ 1073741824) (hn : ws.length ≤ 100) (hg : goodTo ws ws.length) :
    shareErr T ws = 0 ∧ (shareParts T ws).length = ws.length ∧ (∀ j, j < ws.length → SumOk T (sumTo ws ws.length) (gz ws j) (gz (shareParts T ws) j)) ∧
      sumTo (shareParts T ws) ws.length = if sumTo ws ws.length = 0 then 0 else T := by
  have he := shareErr_ok hn h0 h1 hg
  have hb := sumTo_bd hg
  refine ⟨he, ?_⟩
  by_cases hs : sumTo ws ws.length = 0
  · rw [shareParts_zero he hs, if_pos hs]
    refine ⟨by simp, fun j _ => ?_, sumTo_replicate _ _⟩
    rw [gz_replicate]
    exact ⟨Int.le_refl _, h0, fun _ => rfl, fun h => by omega⟩
  · have hp := shareParts_pos he hg hs
    rw [if_neg hs]
    refine ⟨hp.len, fun j hj => ?_, hp.sum⟩
    obtain ⟨S, hS, hS0, heach⟩ := hp.each
    rw [← hS]
    exact sumOk_of h0 (hg j hj).1 hS0 (by rw [hS]; exact le_sumTo hg hj) (heach j hj)

/-- What FixedShareOrder asks: a part of a smaller weight is not greater (of an equal weight: one that comes later). -/
theorem order_facts {T : Int} {ws : List Int} (h0 : 0 ≤ T) (hg : goodTo ws ws.length) (he : shareErr T ws = 0) {a b : Nat} (ha : a < ws.length) (hb : b < ws.length)
    (hle : gz ws a < gz ws b ∨ (gz ws a ≤ gz ws b ∧ b < a)) : gz (shareParts T ws) a ≤ gz (shareParts T ws) b := by
  by_cases hs : sumTo ws ws.length = 0
  · rw [shareParts_zero he hs, gz_replicate, gz_replicate]; exact Int.le_refl _
  · have hp := shareParts_pos he hg hs
    obtain ⟨S, hS, hS0, heach⟩ := hp.each
    obtain ⟨S', hS', hord⟩ := hp.order
    rw [← hS] at hS'
    subst hS'
    have ea := Int.mul_ediv_add_emod (T * gz ws a) S'
    have eb := Int.mul_ediv_add_emod (T * gz ws b) S'
    have hle' : gz ws a ≤ gz ws b := by omega
    have hm : T * gz ws a ≤ T * gz ws b := Int.mul_le_mul_of_nonneg_left hle' h0
    have hq : T * gz ws a / S' ≤ T * gz ws b / S' := Int.ediv_le_ediv hS0 hm
    have pa := heach a ha
    have pb := heach b hb
    by_cases c : gz (shareParts T ws) a ≤ gz (shareParts T ws) b
    · exact c
    · exfalso
      have q0 : T * gz ws a / S' = T * gz ws b / S' := by omega
      have p1 : gz (shareParts T ws) a = T * gz ws a / S' + 1 := by omega
      have p2 : gz (shareParts T ws) b = T * gz ws b / S' := by omega
      have ho := hord a b ha hb p1 p2
      rw [q0] at ea
      have hr : 0 < T * gz ws a % S' := by
        rcases pa with h | h
        · omega
        · exact h.2
      rcases ho with ho | ⟨ho, hab⟩
      · omega
      · rcases hle with h | h
        · have et : T * gz ws a = T * gz ws b := by omega
          have hz : T * (gz ws b - gz ws a) = 0 := by rw [Int.mul_sub]; omega
          rcases Int.mul_eq_zero.1 hz with z | z
          · subst z; simp at hr
          · omega
        · omega
end Go.Proofs.Ytadkkkdecejkeaa
