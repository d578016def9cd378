/- The walk of the law FixedShareSums. -/
import Derived.Test.YtmennimfjelcfaaLawShares
import Derived.Test.YtmennimfjelcfaaPlainD
namespace Go.Proofs.Ytmennimfjelcfaa
open Go.RowKit

/-- The first k weights are weights of the law. -/
def smallTo (l : List Int) (k : Nat) : Prop := ∀ j, j < k → 0 ≤ gz l j ∧ gz l j ≤ 1048576
theorem smallTo_zero (l : List Int) : smallTo l 0 := fun _ h => absurd h (Nat.not_lt_zero _)
theorem smallTo_succ {l : List Int} {k : Nat} (h : smallTo l k) (h0 : 0 ≤ gz l k) (h1 : gz l k ≤ 1048576) : smallTo l (k + 1) := by
  intro j hj
  by_cases e : j = k
  · subst e; exact ⟨h0, h1⟩
  · exact h j (by omega)
theorem smallTo_good {l : List Int} {k : Nat} (h : smallTo l k) : goodTo l k := fun j hj => by have := h j hj; omega
theorem sumTo_small {l : List Int} : ∀ {k : Nat}, smallTo l k → 0 ≤ sumTo l k ∧ sumTo l k ≤ k * 1048576
  | 0, _ => by simp [sumTo]
  | k + 1, h => by
    have ih := sumTo_small (k := k) (fun j hj => h j (by omega))
    have h1 := h k (by omega)
    simp only [sumTo]
    omega
theorem sumTo_parts {l : List Int} {T : Int} : ∀ {k : Nat}, (∀ j, j < k → 0 ≤ gz l j ∧ gz l j ≤ T) → 0 ≤ sumTo l k ∧ sumTo l k ≤ k * T
  | 0, _ => by simp [sumTo]
  | k + 1, h => by
    have ih := sumTo_parts (k := k) (fun j hj => h j (by omega))
    have h1 := h k (by omega)
    simp only [sumTo]
    have e : ((k + 1 : Nat) : Int) * T = k * T + T := by rw [Int.natCast_add, Int.add_mul]; simp
    omega

set_option maxHeartbeats 400000 in
theorem sums_out (a : Option Addr) (n cap : Nat) (total : Int) (w : World) (h : total < 0 ∨ (0 ≤ total ∧ 1048576 < total) ∨ (0 ≤ total ∧ total ≤ 1048576 ∧ (100 : Int) < (n : Int))) :
    Calls Try.prog 4 #[.int .i64 total, .slice a n cap] w (True_ w) := by
  rcases h with h | h | h
  all_goals
    go_enter Try.func4, Try.ntmps4
    go_wp2
    go_ret
    exact ⟨rfl, Below.refl _ _⟩

set_option maxHeartbeats 2000000 in
set_option maxRecDepth 100000 in
theorem sums_pos (b off n cap : Nat) (total : Int) (ws : List Int) (w : World) (HN : Hid (ws.length = n)) (hp : 0 < n) (hn : n ≤ 100) (h0 : 0 ≤ total) (h1 : total ≤ 1048576)
    (HI : Hid (IsInts w (.slice (some ⟨b, off, none⟩) n cap) ws)) (HC : Hid (∀ i, i < n → w.cell? ⟨b, off + i, none⟩ = some (.int .i64 (gz ws i)))) :
    Calls Try.prog 4 #[.int .i64 total, .slice (some ⟨b, off, none⟩) n cap] w (True_ w) := by
  go_enter Try.func4, Try.ntmps4
  go_wp2
  go_loop [5, 6] (fun s i => ∃ k : Nat, k ≤ n ∧ i = .int .i64 k ∧ s = .int .i64 (sumTo ws k) ∧ smallTo ws k) (fun _ i => n - (intOf i).toNat)
  case atStart => exact ⟨0, Nat.zero_le _, rfl, rfl, smallTo_zero _⟩
  case round =>
    obtain ⟨k, hk, rfl, rfl, hg⟩ := hrel
    have hsb := sumTo_small hg
    by_cases hlt : k < n
    · have hck := HC.out k hlt
      by_cases hx0 : gz ws k < 0
      · go_wp2
        go_ret
        exact ⟨rfl, Below.refl _ _⟩
      · by_cases hx1 : 1048576 < gz ws k
        · go_wp2
          go_ret
          exact ⟨rfl, Below.refl _ _⟩
        · go_wp2
          go_round
          case rel => exact ⟨k + 1, by omega, by go_num, rfl, smallTo_succ hg (by omega) (by omega)⟩
          case measure => simp [intOf]; omega
    · obtain rfl : k = n := by omega
      have HF : Hid _ := sums_facts (T := total) (ws := ws) h0 (by omega) (by rw [HN.out]; exact hn) (by rw [HN.out]; exact smallTo_good hg)
      have HG := Lib.hid hg
      clear hg
      go_wp2_with fail
      refine (share_any _ _ ws _ HI.out).mono ?_
      rintro e w2 ⟨pv, rfl, hpv, hb2⟩
      rw [HF.out.1]
      obtain ⟨a2, cap2, rfl, q1, q2, q3⟩ := hpv
      have hl := HF.out.2.1
      rw [HN.out] at hl
      rw [hl] at q1 q3 ⊢
      obtain ⟨b2, off2, rfl, _, hc2⟩ := q3 hp
      obtain ⟨ps, hps⟩ : ∃ ps, shareParts total ws = ps := ⟨_, rfl⟩
      have HO : Hid (∀ j, j < k → SumOk total (sumTo ws k) (gz ws j) (gz ps j)) := by
        have := HF.out.2.2.1
        rw [HN.out, hps] at this; exact this
      have HS : Hid (sumTo ps k = if sumTo ws k = 0 then 0 else total) := by
        have := HF.out.2.2.2
        rw [HN.out, hps] at this; exact this
      rw [hps] at hc2
      have HC2 := Lib.hid hc2
      clear hc2 hl hps HF q1 q3 q2
      have HCw : Hid (∀ i, i < k → w2.cell? ⟨b, off + i, none⟩ = some (.int .i64 (gz ws i))) := fun i hi => (hb2.cell (p := ⟨b, off + i, none⟩) (World.block_lt_of_cell? w _ (HC.out i hi))).trans (HC.out i hi)
      obtain ⟨S, hS⟩ : ∃ S, sumTo ws k = S := ⟨_, rfl⟩
      rw [hS] at HO HS hsb ⊢
      go_wp2
      go_loopw [9, 10] (fun s i wr => ∃ j nd : Nat, j ≤ k ∧ i = .int .i64 j ∧ s = .int .i64 (sumTo ps j) ∧ wr = w2.drewN nd) (fun _ i _ => k - (intOf i).toNat)
      case atStart => exact ⟨0, 0, Nat.zero_le _, rfl, rfl, rfl⟩
      case round =>
        obtain ⟨j, nd, hj, rfl, rfl, rfl⟩ := hrel
        have hpb := sumTo_parts (l := ps) (T := total) (k := j) (fun i hi => ⟨(HO.out i (by omega)).lo, (HO.out i (by omega)).hi⟩)
        have hjt := mul_bd (a := (j : Int)) (m := 100) (by omega) h0 (by omega) h1
        by_cases hjk : j < k
        · have ho := HO.out j hjk
          have c1 := HCw.out j hjk
          have c2 := HC2.out j hjk
          have o1 := ho.lo
          have o2 := ho.hi
          have hw := HG.out j hjk
          have m1 := mul_bd (a := gz ps j) (b := S) (m := 1048576) (k := 104857600) o1 (by omega) (by omega) (by omega)
          have m2 := mul_bd (a := total) (b := gz ws j) (m := 1048576) (k := 1048576) h0 hw.1 h1 hw.2
          by_cases hz : gz ws j = 0
          · have e1 : gz ps j = 0 := ho.zero hz
            have z1 : (gz ws j == 0) = true := by simp [hz]
            have z2 : (gz ps j != 0) = false := by simp [e1]
            have hnear := ho.near
            clear hz e1 ho
            by_cases hS0 : 0 < S
            · have hn2 := hnear hS0
              clear hnear
              go_wp2
              go_quiet (fail)
              go_wp2
              go_roundw
              case rel => exact ⟨j + 1, nd + nq, by omega, by go_num, rfl, rfl⟩
              case measure => simp [intOf]; omega
            · clear hnear
              go_wp2
              go_quiet (fail)
              go_wp2
              go_roundw
              case rel => exact ⟨j + 1, nd + nq, by omega, by go_num, rfl, rfl⟩
              case measure => simp [intOf]; omega
          · have z1 : (gz ws j == 0) = false := by simp [hz]
            have hnear := ho.near
            clear hz ho
            by_cases hS0 : 0 < S
            · have hn2 := hnear hS0
              clear hnear
              go_wp2
              go_quiet (fail)
              go_wp2
              go_roundw
              case rel => exact ⟨j + 1, nd + nq, by omega, by go_num, rfl, rfl⟩
              case measure => simp [intOf]; omega
            · clear hnear
              go_wp2
              go_quiet (fail)
              go_wp2
              go_roundw
              case rel => exact ⟨j + 1, nd + nq, by omega, by go_num, rfl, rfl⟩
              case measure => simp [intOf]; omega
        · obtain rfl : j = k := by omega
          have s2 := hb2.size
          have hpb' := hpb
          obtain ⟨N, hN⟩ : ∃ N, sumTo ps j = N := ⟨_, rfl⟩
          have hs := HS.out
          rw [hN] at hs ⊢
          clear HS hpb hpb' HO hN
          by_cases hS0 : S = 0
          · rw [if_pos hS0] at hs
            subst hs
            rw [hS0]
            clear hS0 hS
            go_wp2_with (go_at_call 13; refine (awake_any _).mono ?_; rintro e w6 ⟨rfl, hb6⟩)
            go_ret
            exact ⟨rfl, (below_drewN hb2 nd).trans (hb6.mono s2)⟩
          · rw [if_neg hS0] at hs
            have hs0 : (S == 0) = false := by simpa using hS0
            have hs1 : 0 < S := by omega
            obtain rfl : N = total := hs
            clear hS0 hS
            go_wp2_with (go_at_call 13; refine (awake_any _).mono ?_; rintro e w6 ⟨rfl, hb6⟩)
            go_ret
            exact ⟨rfl, (below_drewN hb2 nd).trans (hb6.mono s2)⟩

set_option maxHeartbeats 1000000 in
theorem sums_none (a : Option Addr) (cap : Nat) (total : Int) (w : World) (h0 : 0 ≤ total) (h1 : total ≤ 1048576) (hm : cap ≤ maxLen) :
    Calls Try.prog 4 #[.int .i64 total, .slice a 0 cap] w (True_ w) := by
  have HI : Hid (IsInts w (.slice a 0 cap) []) := ⟨a, cap, rfl, Nat.zero_le _, hm, fun h => absurd h (Nat.lt_irrefl _)⟩
  have he : shareErr total [] = 0 := shareErr_ok (by simp) h0 (by omega) (goodTo_zero _)
  have hps : shareParts total [] = [] := by rw [shareParts_zero he rfl]; rfl
  have HE := Lib.hid he
  have HP := Lib.hid hps
  clear he hps
  go_enter Try.func4, Try.ntmps4
  go_wp2
  refine wp_loop_rounds 1 ?_
  rw [rounds_succ]
  go_wp2_with fail
  refine (share_any _ _ [] _ HI.out).mono ?_
  rintro e w2 ⟨pv, rfl, hpv, hb2⟩
  rw [HE.out]
  rw [HP.out] at hpv
  obtain ⟨a2, cap2, rfl, _, _, _⟩ := hpv
  simp only [List.length_nil]
  go_wp2
  refine wp_loop_rounds 1 ?_
  rw [rounds_succ]
  go_wp2_with (go_at_call 13; refine (awake_any _).mono ?_; rintro e w6 ⟨rfl, hb6⟩)
  go_ret
  exact ⟨rfl, hb2.trans (hb6.mono hb2.size)⟩

theorem walk_FixedShareSums (v0 : Value) (total : Int) (v1 : Value) (ws : List Int) (w : World) (h0 : v0 = .int .i64 total ∧ (Lit.int .i64 total).wf = true) (h1 : InInts w v1 ws) :
    Calls Try.prog 4 #[v0, v1] w (True_ w) := by
  obtain ⟨rfl, -⟩ := h0
  have hin := h1.1
  obtain ⟨a, cap, rfl, k1, k2, k3⟩ := h1.1
  by_cases ht : total < 0 ∨ (0 ≤ total ∧ 1048576 < total) ∨ (0 ≤ total ∧ total ≤ 1048576 ∧ (100 : Int) < (ws.length : Int))
  · exact sums_out a _ cap total w ht
  · by_cases hp : 0 < ws.length
    · obtain ⟨b, off, rfl, _, hc⟩ := k3 hp
      exact sums_pos b off _ cap total ws w (Lib.hid rfl) hp (by omega) (by omega) (by omega) (Lib.hid hin) (Lib.hid hc)
    · obtain rfl : ws = [] := by cases ws with | nil => rfl | cons => simp at hp
      exact sums_none a cap total w (by omega) (by omega) k2
end Go.Proofs.Ytmennimfjelcfaa
