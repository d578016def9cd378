/- The walk of the law FixedShareOrder. -/
import Derived.Test.YtmennimfjelcfaaLawShares
import Derived.Test.YtmennimfjelcfaaPlainD
namespace Go.Proofs.Ytmennimfjelcfaa
open Go.RowKit

/-- Where Share gives no error its arguments are in range. -/
theorem shareErr_inv {T : Int} {ws : List Int} (h : shareErr T ws = 0) : ws.length ≤ 100 ∧ 0 ≤ T ∧ T ≤ 1073741824 ∧ goodTo ws ws.length := by
  unfold shareErr at h
  by_cases c1 : 100 < ws.length
  · rw [if_pos c1] at h; omega
  · rw [if_neg c1] at h
    by_cases c2 : T < 0 ∨ 1073741824 < T
    · rw [if_pos c2] at h; omega
    · rw [if_neg c2] at h
      by_cases c3 : wsBad ws = true
      · rw [if_pos c3] at h; omega
      · exact ⟨by omega, by omega, by omega, goodTo_of (by simpa using c3)⟩
theorem shareErr_val (T : Int) (ws : List Int) : shareErr T ws = 0 ∨ shareErr T ws = 1 ∨ shareErr T ws = 2 := by
  unfold shareErr
  split
  · exact .inr (.inr rfl)
  · split
    · exact .inr (.inl rfl)
    · split
      · exact .inr (.inl rfl)
      · exact .inl rfl
theorem shareParts_err {T : Int} {ws : List Int} (h : shareErr T ws ≠ 0) : shareParts T ws = [] := by unfold shareParts; rw [if_pos h]
theorem shareParts_len {T : Int} {ws : List Int} (h : shareErr T ws = 0) : (shareParts T ws).length = ws.length := by
  obtain ⟨h1, h2, h3, h4⟩ := shareErr_inv h
  exact (sums_facts h2 h3 h1 h4).2.1

set_option maxHeartbeats 400000 in
theorem order_long (a : Option Addr) (n cap : Nat) (total : Int) (w : World) (hn : 100 < n) (hm : n ≤ maxLen) :
    Calls Try.prog 5 #[.int .i64 total, .slice a n cap] w (True_ w) := by
  unfold maxLen at hm
  have hn' : (100 : Int) < (n : Int) := by omega
  go_enter Try.func5, Try.ntmps5
  go_wp2
  go_ret
  exact ⟨rfl, Below.refl _ _⟩

set_option maxHeartbeats 400000 in
theorem order_err (a : Option Addr) (n cap : Nat) (total : Int) (ws : List Int) (w : World) (hn : n ≤ 100) (HI : Hid (IsInts w (.slice a n cap) ws)) (he : shareErr total ws ≠ 0) :
    Calls Try.prog 5 #[.int .i64 total, .slice a n cap] w (True_ w) := by
  have HP := Lib.hid (shareParts_err he)
  obtain ⟨c, hc, hcc⟩ : ∃ c, shareErr total ws = c ∧ (c = 1 ∨ c = 2) := ⟨_, rfl, by have := shareErr_val total ws; omega⟩
  have HE := Lib.hid hc
  clear he hc
  have hn' : (n : Int) ≤ 100 := by omega
  rcases hcc with rfl | rfl
  all_goals
    go_enter Try.func5, Try.ntmps5
    go_wp2_with fail
    refine (share_any _ _ ws _ HI.out).mono ?_
    rintro e w2 ⟨pv, rfl, hpv, hb2⟩
    rw [HE.out]
    rw [HP.out] at hpv
    obtain ⟨a2, cap2, rfl, _, _, _⟩ := hpv
    simp only [List.length_nil]
    go_wp2_with (go_at_call 13; refine (awake_any _).mono ?_; rintro e w6 ⟨rfl, hb6⟩)
    go_ret
    exact ⟨rfl, hb2.trans (hb6.mono hb2.size)⟩

set_option maxHeartbeats 400000 in
theorem order_none (a : Option Addr) (cap : Nat) (total : Int) (w : World) (HI : Hid (IsInts w (.slice a 0 cap) [])) (he : shareErr total [] = 0) :
    Calls Try.prog 5 #[.int .i64 total, .slice a 0 cap] w (True_ w) := by
  have hps : shareParts total [] = [] := by rw [shareParts_zero he rfl]; rfl
  have HE := Lib.hid he
  have HP := Lib.hid hps
  clear he hps
  go_enter Try.func5, Try.ntmps5
  go_wp2_with fail
  refine (share_any _ _ [] _ HI.out).mono ?_
  rintro e w2 ⟨pv, rfl, hpv, hb2⟩
  rw [HE.out]
  rw [HP.out] at hpv
  obtain ⟨a2, cap2, rfl, _, _, _⟩ := hpv
  simp only [List.length_nil]
  go_wp2
  refine wp_loop_rounds 1 ?_
  rw [rounds_succ]
  go_wp2_with (go_at_call 13; refine (awake_any _).mono ?_; rintro e w6 ⟨rfl, hb6⟩)
  go_ret
  exact ⟨rfl, hb2.trans (hb6.mono hb2.size)⟩

set_option maxHeartbeats 2000000 in
set_option maxRecDepth 100000 in
theorem order_pos (b off n cap : Nat) (total : Int) (ws : List Int) (w : World) (HN : Hid (ws.length = n)) (hp : 0 < n) (hn : n ≤ 100) (he : shareErr total ws = 0)
    (HI : Hid (IsInts w (.slice (some ⟨b, off, none⟩) n cap) ws)) (HC : Hid (∀ i, i < n → w.cell? ⟨b, off + i, none⟩ = some (.int .i64 (gz ws i)))) :
    Calls Try.prog 5 #[.int .i64 total, .slice (some ⟨b, off, none⟩) n cap] w (True_ w) := by
  obtain ⟨r1, r2, r3, r4⟩ := shareErr_inv he
  have HL : Hid ((shareParts total ws).length = n) := (shareParts_len he).trans HN.out
  have HO : Hid (∀ i k, i < n → k < n → gz ws i < gz ws k ∨ (gz ws i ≤ gz ws k ∧ k < i) → gz (shareParts total ws) i ≤ gz (shareParts total ws) k) := by
    intro i k hi hk hle
    rw [← HN.out] at hi hk
    exact order_facts r2 r4 he hi hk hle
  have HE := Lib.hid he
  clear he r1 r2 r3 r4
  obtain ⟨ps, hps⟩ : ∃ ps, shareParts total ws = ps := ⟨_, rfl⟩
  have HP := Lib.hid hps
  rw [hps] at HL HO
  clear hps
  have hn' : (n : Int) ≤ 100 := by omega
  go_enter Try.func5, Try.ntmps5
  go_wp2_with fail
  refine (share_any _ _ ws _ HI.out).mono ?_
  rintro e w2 ⟨pv, rfl, hpv, hb2⟩
  rw [HE.out]
  rw [HP.out] at hpv
  obtain ⟨a2, cap2, rfl, q1, q2, q3⟩ := hpv
  rw [HL.out] at q1 q3 ⊢
  obtain ⟨b2, off2, rfl, _, hc2⟩ := q3 hp
  have HC2 := Lib.hid hc2
  clear hc2 q1 q3 q2
  have HCw : Hid (∀ i, i < n → w2.cell? ⟨b, off + i, none⟩ = some (.int .i64 (gz ws i))) := fun i hi => (hb2.cell (p := ⟨b, off + i, none⟩) (World.block_lt_of_cell? w _ (HC.out i hi))).trans (HC.out i hi)
  go_wp2
  go_loopw [7] (fun i wr => ∃ j nd : Nat, j ≤ n ∧ i = .int .i64 j ∧ wr = w2.drewN nd) (fun i _ => n - (intOf i).toNat)
  case atStart => exact ⟨0, 0, Nat.zero_le _, rfl, rfl⟩
  case round =>
    obtain ⟨j, nd, hj, rfl, rfl⟩ := hrel
    by_cases hjn : j < n
    · have c1 := HCw.out j hjn
      have c2 := HC2.out j hjn
      go_wp2
      go_loopw [8] (fun i wr => ∃ k md : Nat, k ≤ j ∧ i = .int .i64 k ∧ wr = w2.drewN md) (fun i _ => j - (intOf i).toNat)
      case atStart => exact ⟨0, nd, Nat.zero_le _, rfl, rfl⟩
      case round =>
        obtain ⟨k, md, hk, rfl, rfl⟩ := hrel
        by_cases hkj : k < j
        · have c3 := HCw.out k (by omega)
          have c4 := HC2.out k (by omega)
          have hkn : k < n := by omega
          by_cases hle : gz ws j ≤ gz ws k
          · have h1 := HO.out j k hjn hkn (.inr ⟨hle, hkj⟩)
            have d1 : decide (gz ps k < gz ps j) = false := by simp; omega
            have d2 : decide (gz ws k < gz ws j) = false := by simp; omega
            go_wp2
            go_quiet (fail)
            go_wp2
            go_roundw
            case rel => exact ⟨k + 1, md + nq, by omega, by go_num, rfl⟩
            case measure => simp [intOf]; omega
          · have h1 := HO.out k j hkn hjn (.inl (by omega))
            have d1 : decide (gz ps j < gz ps k) = false := by simp; omega
            have d2 : decide (gz ws j ≤ gz ws k) = false := by simp; omega
            go_wp2
            go_quiet (fail)
            go_wp2
            go_roundw
            case rel => exact ⟨k + 1, md + nq, by omega, by go_num, rfl⟩
            case measure => simp [intOf]; omega
        · obtain rfl : k = j := by omega
          go_wp2
          go_roundw
          case rel => exact ⟨k + 1, md, by omega, by go_num, rfl⟩
          case measure => simp [intOf]; omega
    · obtain rfl : j = n := by omega
      go_wp2_with (go_at_call 13; refine (awake_any _).mono ?_; rintro e w6 ⟨rfl, hb6⟩)
      go_ret
      exact ⟨rfl, (below_drewN hb2 nd).trans (hb6.mono hb2.size)⟩

theorem walk_FixedShareOrder (v0 : Value) (total : Int) (v1 : Value) (ws : List Int) (w : World) (h0 : v0 = .int .i64 total ∧ (Lit.int .i64 total).wf = true) (h1 : InInts w v1 ws) :
    Calls Try.prog 5 #[v0, v1] w (True_ w) := by
  obtain ⟨rfl, -⟩ := h0
  have hin := h1.1
  obtain ⟨a, cap, rfl, k1, k2, k3⟩ := h1.1
  by_cases hn : 100 < ws.length
  · exact order_long a _ cap total w hn (by omega)
  · by_cases he : shareErr total ws = 0
    · by_cases hp : 0 < ws.length
      · obtain ⟨b, off, rfl, _, hc⟩ := k3 hp
        exact order_pos b off _ cap total ws w (Lib.hid rfl) hp (by omega) he (Lib.hid hin) (Lib.hid hc)
      · obtain rfl : ws = [] := by cases ws with | nil => rfl | cons => simp at hp
        exact order_none a cap total w (Lib.hid hin) he
    · exact order_err a _ cap total ws w (by omega) (Lib.hid hin) he
end Go.Proofs.Ytmennimfjelcfaa
