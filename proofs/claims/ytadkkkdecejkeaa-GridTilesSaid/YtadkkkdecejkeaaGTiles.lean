/- The walk of the law GridTiles. -/
import Derived.Test.YtadkkkdecejkeaaAwake19
import Derived.Test.YtadkkkdecejkeaaBits
import Derived.Test.YtadkkkdecejkeaaOpen
import Derived.Deep.QuietTactic
import Derived.BigQuiet
import Derived.Test.YtadkkkdecejkeaaDead
namespace Go.Proofs.Ytadkkkdecejkeaa
open Go.RowKit
set_option linter.unusedVariables false
set_option linter.unusedSimpArgs false

set_option maxHeartbeats 20000000 in
set_option maxRecDepth 100000 in
theorem walk_GridTiles (v0 : Value) (cn : Int) (v1 : Value) (xs : List Int) (w : World)
    (h0 : v0 = .int .i64 cn ∧ (Lit.int .i64 cn).wf = true) (h1 : InInts w v1 xs) :
    Calls Try.prog 6 #[v0, v1] w (True_ w) := by
  obtain ⟨rfl, -⟩ := h0
  have HV := Lib.hid h1.1
  obtain ⟨⟨a, cap, rfl, m1, m2, m3⟩, -⟩ := h1
  unfold maxLen at m2
  obtain ⟨n, hn⟩ : ∃ n, xs.length = n := ⟨_, rfl⟩
  have HN := Lib.hid hn
  rw [hn] at m1 HV ⊢
  clear m3 hn
  by_cases hl : 100 < n
  · have hl' : (100 : Int) < (n : Int) := by omega
    go_enter Try.func6, Try.ntmps6
    go_wp2
    go_ret
    exact ⟨rfl, Below.refl _ _⟩
  have hl1 : (n : Int) ≤ 100 := by omega
  have h15 := and_15 cn
  have hm15 : 0 ≤ cn % 16 ∧ cn % 16 ≤ 15 := by omega
  obtain ⟨m15, hm⟩ : ∃ m, cn % 16 = m := ⟨_, rfl⟩
  rw [hm] at h15 hm15
  obtain ⟨c, hc⟩ : ∃ c, 1 + m15 = c := ⟨_, rfl⟩
  have hw15 : IntKind.i64.wrap (1 + m15) = c := by rw [← hc]; exact IntWalk.i64_in _ (by omega)
  have hcb : 1 ≤ c ∧ c ≤ 16 := by omega
  have HCB := Lib.hid hcb
  have HPL : Hid (plL c xs = plTo c xs n) := by show _ = _; unfold plL; rw [HN.out, if_pos (by simp [plOk]; omega)]
  clear hm hm15 hc
  go_enter Try.func6, Try.ntmps6
  go_wp2_with fail
  refine (place_any _ _ xs _ HV.out).mono ?_
  rintro e w2 ⟨v, rfl, hv, hb2⟩
  rw [HPL.out] at hv
  obtain ⟨va, vc, rfl, v1, v2, v3⟩ := hv
  rw [plTo_len] at v1 v3 ⊢
  have V3 := Lib.hid v3
  have HB2 := Lib.hid hb2
  clear v3 hb2 h15 hw15
  have HGF : Hid (∀ i, i < n → ∀ j, gf (plTo c xs n) i j = (parea c xs i).getD j 0) := fun i hi j => gf_plTo hi j
  go_wp2_with fail
  obtain ⟨w3, rfl⟩ : ∃ x : World, x = w2 := ⟨_, rfl⟩
  go_loopw [6] (fun i wr => ∃ k d : Nat, k ≤ n ∧ i = .int .i64 k ∧ wr = w3.drewN d) (fun i _ => n - (intOf i).toNat)
  case atStart => exact ⟨0, 0, Nat.zero_le _, rfl, rfl⟩
  case round =>
    obtain ⟨k, d, hk, rfl, rfl⟩ := hrel
    by_cases hkn : k < n
    · obtain ⟨b, o, rfl, -, c1⟩ := V3.out (by omega)
      have x0 := c1 k hkn 0 (by omega)
      have x1 := c1 k hkn 1 (by omega)
      have x2 := c1 k hkn 2 (by omega)
      rw [Nat.add_zero] at x0
      rw [HGF.out k hkn] at x0 x1 x2
      have hkn' : (k : Int) < (n : Int) := by omega
      have hk0 : (0 : Int) ≤ (k : Int) := by omega
      obtain ⟨p1, p2, p3, p4, p5, p6, p7⟩ := parea_bd (xs := xs) HCB.out.1 k
      have hcc := HCB.out
      by_cases hkz : k = 0
      ·
        as_aux_lemma =>
          subst hkz
          obtain ⟨z0, z1⟩ := parea_zero (xs := xs) HCB.out.1
          rw [z0] at x0
          rw [z1] at x1 p3
          simp only [Nat.zero_mul, Nat.add_zero] at x0 x1 x2
          obtain ⟨s, hs⟩ : ∃ s, (parea c xs 0).getD 2 0 = s := ⟨_, rfl⟩
          rw [hs] at x2 p1 p3
          have e0 : decide (s < 1) = false := by simp; omega
          have e1 : decide (c < 0 + s) = false := by simp; omega
          have e2 : decide (c < s) = false := by simp; omega
          have hw : IntKind.i64.wrap (0 + s) = s := by rw [Int.zero_add]; exact IntWalk.i64_in _ (by omega)
          have hw2 : IntKind.i64.wrap s = s := IntWalk.i64_in _ (by omega)
          clear c1 hs p1 p2 p3 p4 p5 p6 p7 hcc
          go_upto_region 10 with fail
          refine wp_region_T (S := (fun w' => w'.cell? ⟨b, o, none⟩ = some (.int .i64 0) ∧ w'.cell? ⟨b, o + 1, none⟩ = some (.int .i64 0) ∧ w'.cell? ⟨b, o + 2, none⟩ = some (.int .i64 s))) 48 (by kernel_rfl) (⟨x0, x1, x2⟩) (fun hHeld => ?_)
          refine wpAnyT_many (by decide +kernel) (fun _ _ _ _ _ h => h) [0, 1, 2, 3, 4, 5, 6, 7, 8, 9, 10, 11, 12, 13, 14, 15, 16, 17, 18, 19, 20, 21, 22, 23, 24, 25, 26, 27, 28, 29, 30, 31, 32, 33, 34, 35, 36, 37, 38, 39, 40, 41, 42, 43, 44, 45, 46, 47] _ 1 _ ?bb1 _ (by decide +kernel) ?hr1 (by assumption) ?hk1
          case hr1 =>
            refine Runs.cons (v := ?_) rfl rfl (Or.inl ⟨by rfl, ?_⟩) ?_
            rotate_left
            · intro w hSw; (try dsimp only at hSw); first | (go_simp; done) | (go_simp; with_reducible rfl)
            try simp only [Act.put, List.getElem_toArray, List.getElem_cons_succ, List.getElem_cons_zero, List.setIfInBounds_toArray, List.set_cons_zero, List.set_cons_succ]
            refine Runs.cons (v := ?_) rfl rfl (Or.inl ⟨by rfl, ?_⟩) ?_
            rotate_left
            · intro w hSw; (try dsimp only at hSw); first | (go_simp; done) | (go_simp; with_reducible rfl)
            try simp only [Act.put, List.getElem_toArray, List.getElem_cons_succ, List.getElem_cons_zero, List.setIfInBounds_toArray, List.set_cons_zero, List.set_cons_succ]
            refine Runs.cons (v := ?_) rfl rfl (Or.inl ⟨by rfl, ?_⟩) ?_
            rotate_left
            · intro w hSw; (try dsimp only at hSw); first | (go_simp; done) | (go_simp; with_reducible rfl)
            try simp only [Act.put, List.getElem_toArray, List.getElem_cons_succ, List.getElem_cons_zero, List.setIfInBounds_toArray, List.set_cons_zero, List.set_cons_succ]
            refine Runs.cons (v := ?_) rfl rfl (Or.inl ⟨by rfl, ?_⟩) ?_
            rotate_left
            · intro w hSw; (try dsimp only at hSw); first | (go_simp; done) | (go_simp; with_reducible rfl)
            try simp only [Act.put, List.getElem_toArray, List.getElem_cons_succ, List.getElem_cons_zero, List.setIfInBounds_toArray, List.set_cons_zero, List.set_cons_succ]
            refine Runs.cons (v := ?_) rfl rfl (Or.inl ⟨by rfl, ?_⟩) ?_
            rotate_left
            · intro w hSw; (try dsimp only at hSw); first | (go_simp; done) | (go_simp; with_reducible rfl)
            try simp only [Act.put, List.getElem_toArray, List.getElem_cons_succ, List.getElem_cons_zero, List.setIfInBounds_toArray, List.set_cons_zero, List.set_cons_succ]
            refine Runs.cons (v := ?_) rfl rfl (Or.inl ⟨by rfl, ?_⟩) ?_
            rotate_left
            · intro w hSw; (try dsimp only at hSw); first | (go_simp; done) | (go_simp; with_reducible rfl)
            try simp only [Act.put, List.getElem_toArray, List.getElem_cons_succ, List.getElem_cons_zero, List.setIfInBounds_toArray, List.set_cons_zero, List.set_cons_succ]
            refine Runs.cons (v := ?_) rfl rfl (Or.inl ⟨by rfl, ?_⟩) ?_
            rotate_left
            · intro w hSw; (try dsimp only at hSw); first | (go_simp; done) | (go_simp; with_reducible rfl)
            try simp only [Act.put, List.getElem_toArray, List.getElem_cons_succ, List.getElem_cons_zero, List.setIfInBounds_toArray, List.set_cons_zero, List.set_cons_succ]
            refine Runs.cons (v := ?_) rfl rfl (Or.inl ⟨by rfl, ?_⟩) ?_
            rotate_left
            · intro w hSw; (try dsimp only at hSw); first | (go_simp; done) | (go_simp; with_reducible rfl)
            try simp only [Act.put, List.getElem_toArray, List.getElem_cons_succ, List.getElem_cons_zero, List.setIfInBounds_toArray, List.set_cons_zero, List.set_cons_succ]
            refine Runs.cons (v := ?_) rfl rfl (Or.inl ⟨by rfl, ?_⟩) ?_
            rotate_left
            · intro w hSw; (try dsimp only at hSw); first | (go_simp; done) | (go_simp; with_reducible rfl)
            try simp only [Act.put, List.getElem_toArray, List.getElem_cons_succ, List.getElem_cons_zero, List.setIfInBounds_toArray, List.set_cons_zero, List.set_cons_succ]
            refine Runs.cons (v := ?_) rfl rfl (Or.inl ⟨by rfl, ?_⟩) ?_
            rotate_left
            · intro w hSw; (try dsimp only at hSw); first | (go_simp; done) | (go_simp; with_reducible rfl)
            try simp only [Act.put, List.getElem_toArray, List.getElem_cons_succ, List.getElem_cons_zero, List.setIfInBounds_toArray, List.set_cons_zero, List.set_cons_succ]
            refine Runs.cons (v := ?_) rfl rfl (Or.inl ⟨by rfl, ?_⟩) ?_
            rotate_left
            · intro w hSw; (try dsimp only at hSw); first | (go_simp; done) | (go_simp; with_reducible rfl)
            try simp only [Act.put, List.getElem_toArray, List.getElem_cons_succ, List.getElem_cons_zero, List.setIfInBounds_toArray, List.set_cons_zero, List.set_cons_succ]
            refine Runs.cons (v := ?_) rfl rfl (Or.inl ⟨by rfl, ?_⟩) ?_
            rotate_left
            · intro w hSw; (try dsimp only at hSw); first | (go_simp; done) | (go_simp; with_reducible rfl)
            try simp only [Act.put, List.getElem_toArray, List.getElem_cons_succ, List.getElem_cons_zero, List.setIfInBounds_toArray, List.set_cons_zero, List.set_cons_succ]
            refine Runs.cons (v := ?_) rfl rfl (Or.inl ⟨by rfl, ?_⟩) ?_
            rotate_left
            · intro w hSw; (try dsimp only at hSw); first | (go_simp; done) | (go_simp; with_reducible rfl)
            try simp only [Act.put, List.getElem_toArray, List.getElem_cons_succ, List.getElem_cons_zero, List.setIfInBounds_toArray, List.set_cons_zero, List.set_cons_succ]
            refine Runs.cons (v := ?_) rfl rfl (Or.inl ⟨by rfl, ?_⟩) ?_
            rotate_left
            · intro w hSw; (try dsimp only at hSw); first | (go_simp; done) | (go_simp; with_reducible rfl)
            try simp only [Act.put, List.getElem_toArray, List.getElem_cons_succ, List.getElem_cons_zero, List.setIfInBounds_toArray, List.set_cons_zero, List.set_cons_succ]
            refine Runs.cons (v := ?_) rfl rfl (Or.inl ⟨by rfl, ?_⟩) ?_
            rotate_left
            · intro w hSw; (try dsimp only at hSw); first | (go_simp; done) | (go_simp; with_reducible rfl)
            try simp only [Act.put, List.getElem_toArray, List.getElem_cons_succ, List.getElem_cons_zero, List.setIfInBounds_toArray, List.set_cons_zero, List.set_cons_succ]
            refine Runs.cons (v := ?_) rfl rfl (Or.inl ⟨by rfl, ?_⟩) ?_
            rotate_left
            · intro w hSw; (try dsimp only at hSw); first | (go_simp; done) | (go_simp; with_reducible rfl)
            try simp only [Act.put, List.getElem_toArray, List.getElem_cons_succ, List.getElem_cons_zero, List.setIfInBounds_toArray, List.set_cons_zero, List.set_cons_succ]
            refine Runs.cons (v := ?_) rfl rfl (Or.inl ⟨by rfl, ?_⟩) ?_
            rotate_left
            · intro w hSw; (try dsimp only at hSw); first | (go_simp; done) | (go_simp; with_reducible rfl)
            try simp only [Act.put, List.getElem_toArray, List.getElem_cons_succ, List.getElem_cons_zero, List.setIfInBounds_toArray, List.set_cons_zero, List.set_cons_succ]
            refine Runs.cons (v := ?_) rfl rfl (Or.inl ⟨by rfl, ?_⟩) ?_
            rotate_left
            · intro w hSw; (try dsimp only at hSw); first | (go_simp; done) | (go_simp; with_reducible rfl)
            try simp only [Act.put, List.getElem_toArray, List.getElem_cons_succ, List.getElem_cons_zero, List.setIfInBounds_toArray, List.set_cons_zero, List.set_cons_succ]
            refine Runs.cons (v := ?_) rfl rfl (Or.inl ⟨by rfl, ?_⟩) ?_
            rotate_left
            · intro w hSw; (try dsimp only at hSw); first | (go_simp; done) | (go_simp; with_reducible rfl)
            try simp only [Act.put, List.getElem_toArray, List.getElem_cons_succ, List.getElem_cons_zero, List.setIfInBounds_toArray, List.set_cons_zero, List.set_cons_succ]
            refine Runs.cons (v := ?_) rfl rfl (Or.inl ⟨by rfl, ?_⟩) ?_
            rotate_left
            · intro w hSw; (try dsimp only at hSw); first | (go_simp; done) | (go_simp; with_reducible rfl)
            try simp only [Act.put, List.getElem_toArray, List.getElem_cons_succ, List.getElem_cons_zero, List.setIfInBounds_toArray, List.set_cons_zero, List.set_cons_succ]
            refine Runs.cons (v := ?_) rfl rfl (Or.inl ⟨by rfl, ?_⟩) ?_
            rotate_left
            · intro w hSw; (try dsimp only at hSw); first | (go_simp; done) | (go_simp; with_reducible rfl)
            try simp only [Act.put, List.getElem_toArray, List.getElem_cons_succ, List.getElem_cons_zero, List.setIfInBounds_toArray, List.set_cons_zero, List.set_cons_succ]
            refine Runs.cons (v := ?_) rfl rfl (Or.inl ⟨by rfl, ?_⟩) ?_
            rotate_left
            · intro w hSw; (try dsimp only at hSw); first | (go_simp; done) | (go_simp; with_reducible rfl)
            try simp only [Act.put, List.getElem_toArray, List.getElem_cons_succ, List.getElem_cons_zero, List.setIfInBounds_toArray, List.set_cons_zero, List.set_cons_succ]
            refine Runs.cons (v := ?_) rfl rfl (Or.inl ⟨by rfl, ?_⟩) ?_
            rotate_left
            · intro w hSw; (try dsimp only at hSw); first | (go_simp; done) | (go_simp; with_reducible rfl)
            try simp only [Act.put, List.getElem_toArray, List.getElem_cons_succ, List.getElem_cons_zero, List.setIfInBounds_toArray, List.set_cons_zero, List.set_cons_succ]
            refine Runs.cons (v := ?_) rfl rfl (Or.inl ⟨by rfl, ?_⟩) ?_
            rotate_left
            · intro w hSw; (try dsimp only at hSw); first | (go_simp; done) | (go_simp; with_reducible rfl)
            try simp only [Act.put, List.getElem_toArray, List.getElem_cons_succ, List.getElem_cons_zero, List.setIfInBounds_toArray, List.set_cons_zero, List.set_cons_succ]
            refine Runs.cons (v := ?_) rfl rfl (Or.inl ⟨by rfl, ?_⟩) ?_
            rotate_left
            · intro w hSw; (try dsimp only at hSw); first | (go_simp; done) | (go_simp; with_reducible rfl)
            try simp only [Act.put, List.getElem_toArray, List.getElem_cons_succ, List.getElem_cons_zero, List.setIfInBounds_toArray, List.set_cons_zero, List.set_cons_succ]
            refine Runs.cons (v := ?_) rfl rfl (Or.inl ⟨by rfl, ?_⟩) ?_
            rotate_left
            · intro w hSw; (try dsimp only at hSw); first | (go_simp; done) | (go_simp; with_reducible rfl)
            try simp only [Act.put, List.getElem_toArray, List.getElem_cons_succ, List.getElem_cons_zero, List.setIfInBounds_toArray, List.set_cons_zero, List.set_cons_succ]
            refine Runs.cons (v := ?_) rfl rfl (Or.inl ⟨by rfl, ?_⟩) ?_
            rotate_left
            · intro w hSw; (try dsimp only at hSw); first | (go_simp; done) | (go_simp; with_reducible rfl)
            try simp only [Act.put, List.getElem_toArray, List.getElem_cons_succ, List.getElem_cons_zero, List.setIfInBounds_toArray, List.set_cons_zero, List.set_cons_succ]
            refine Runs.cons (v := ?_) rfl rfl (Or.inl ⟨by rfl, ?_⟩) ?_
            rotate_left
            · intro w hSw; (try dsimp only at hSw); first | (go_simp; done) | (go_simp; with_reducible rfl)
            try simp only [Act.put, List.getElem_toArray, List.getElem_cons_succ, List.getElem_cons_zero, List.setIfInBounds_toArray, List.set_cons_zero, List.set_cons_succ]
            refine Runs.cons (v := ?_) rfl rfl (Or.inl ⟨by rfl, ?_⟩) ?_
            rotate_left
            · intro w hSw; (try dsimp only at hSw); first | (go_simp; done) | (go_simp; with_reducible rfl)
            try simp only [Act.put, List.getElem_toArray, List.getElem_cons_succ, List.getElem_cons_zero, List.setIfInBounds_toArray, List.set_cons_zero, List.set_cons_succ]
            refine Runs.cons (v := ?_) rfl rfl (Or.inl ⟨by rfl, ?_⟩) ?_
            rotate_left
            · intro w hSw; (try dsimp only at hSw); first | (go_simp; done) | (go_simp; with_reducible rfl)
            try simp only [Act.put, List.getElem_toArray, List.getElem_cons_succ, List.getElem_cons_zero, List.setIfInBounds_toArray, List.set_cons_zero, List.set_cons_succ]
            refine Runs.cons (v := ?_) rfl rfl (Or.inl ⟨by rfl, ?_⟩) ?_
            rotate_left
            · intro w hSw; (try dsimp only at hSw); first | (go_simp; done) | (go_simp; with_reducible rfl)
            try simp only [Act.put, List.getElem_toArray, List.getElem_cons_succ, List.getElem_cons_zero, List.setIfInBounds_toArray, List.set_cons_zero, List.set_cons_succ]
            refine Runs.cons (v := ?_) rfl rfl (Or.inl ⟨by rfl, ?_⟩) ?_
            rotate_left
            · intro w hSw; (try dsimp only at hSw); first | (go_simp; done) | (go_simp; with_reducible rfl)
            try simp only [Act.put, List.getElem_toArray, List.getElem_cons_succ, List.getElem_cons_zero, List.setIfInBounds_toArray, List.set_cons_zero, List.set_cons_succ]
            refine Runs.cons (v := ?_) rfl rfl (Or.inl ⟨by rfl, ?_⟩) ?_
            rotate_left
            · intro w hSw; (try dsimp only at hSw); first | (go_simp; done) | (go_simp; with_reducible rfl)
            try simp only [Act.put, List.getElem_toArray, List.getElem_cons_succ, List.getElem_cons_zero, List.setIfInBounds_toArray, List.set_cons_zero, List.set_cons_succ]
            refine Runs.cons (v := ?_) rfl rfl (Or.inl ⟨by rfl, ?_⟩) ?_
            rotate_left
            · intro w hSw; (try dsimp only at hSw); first | (go_simp; done) | (go_simp; with_reducible rfl)
            try simp only [Act.put, List.getElem_toArray, List.getElem_cons_succ, List.getElem_cons_zero, List.setIfInBounds_toArray, List.set_cons_zero, List.set_cons_succ]
            refine Runs.cons (v := ?_) rfl rfl (Or.inl ⟨by rfl, ?_⟩) ?_
            rotate_left
            · intro w hSw; (try dsimp only at hSw); first | (go_simp; done) | (go_simp; with_reducible rfl)
            try simp only [Act.put, List.getElem_toArray, List.getElem_cons_succ, List.getElem_cons_zero, List.setIfInBounds_toArray, List.set_cons_zero, List.set_cons_succ]
            refine Runs.cons (v := ?_) rfl rfl (Or.inl ⟨by rfl, ?_⟩) ?_
            rotate_left
            · intro w hSw; (try dsimp only at hSw); first | (go_simp; done) | (go_simp; with_reducible rfl)
            try simp only [Act.put, List.getElem_toArray, List.getElem_cons_succ, List.getElem_cons_zero, List.setIfInBounds_toArray, List.set_cons_zero, List.set_cons_succ]
            refine Runs.cons (v := ?_) rfl rfl (Or.inl ⟨by rfl, ?_⟩) ?_
            rotate_left
            · intro w hSw; (try dsimp only at hSw); first | (go_simp; done) | (go_simp; with_reducible rfl)
            try simp only [Act.put, List.getElem_toArray, List.getElem_cons_succ, List.getElem_cons_zero, List.setIfInBounds_toArray, List.set_cons_zero, List.set_cons_succ]
            refine Runs.cons (v := ?_) rfl rfl (Or.inl ⟨by rfl, ?_⟩) ?_
            rotate_left
            · intro w hSw; (try dsimp only at hSw); first | (go_simp; done) | (go_simp; with_reducible rfl)
            try simp only [Act.put, List.getElem_toArray, List.getElem_cons_succ, List.getElem_cons_zero, List.setIfInBounds_toArray, List.set_cons_zero, List.set_cons_succ]
            refine Runs.cons (v := ?_) rfl rfl (Or.inl ⟨by rfl, ?_⟩) ?_
            rotate_left
            · intro w hSw; (try dsimp only at hSw); first | (go_simp; done) | (go_simp; with_reducible rfl)
            try simp only [Act.put, List.getElem_toArray, List.getElem_cons_succ, List.getElem_cons_zero, List.setIfInBounds_toArray, List.set_cons_zero, List.set_cons_succ]
            refine Runs.cons (v := ?_) rfl rfl (Or.inl ⟨by rfl, ?_⟩) ?_
            rotate_left
            · intro w hSw; (try dsimp only at hSw); first | (go_simp; done) | (go_simp; with_reducible rfl)
            try simp only [Act.put, List.getElem_toArray, List.getElem_cons_succ, List.getElem_cons_zero, List.setIfInBounds_toArray, List.set_cons_zero, List.set_cons_succ]
            refine Runs.cons (v := ?_) rfl rfl (Or.inl ⟨by rfl, ?_⟩) ?_
            rotate_left
            · intro w hSw; (try dsimp only at hSw); first | (go_simp; done) | (go_simp; with_reducible rfl)
            try simp only [Act.put, List.getElem_toArray, List.getElem_cons_succ, List.getElem_cons_zero, List.setIfInBounds_toArray, List.set_cons_zero, List.set_cons_succ]
            refine Runs.cons (v := ?_) rfl rfl (Or.inl ⟨by rfl, ?_⟩) ?_
            rotate_left
            · intro w hSw; (try dsimp only at hSw); first | (go_simp; done) | (go_simp; with_reducible rfl)
            try simp only [Act.put, List.getElem_toArray, List.getElem_cons_succ, List.getElem_cons_zero, List.setIfInBounds_toArray, List.set_cons_zero, List.set_cons_succ]
            refine Runs.cons (v := ?_) rfl rfl (Or.inl ⟨by rfl, ?_⟩) ?_
            rotate_left
            · intro w hSw; (try dsimp only at hSw); first | (go_simp; done) | (go_simp; with_reducible rfl)
            try simp only [Act.put, List.getElem_toArray, List.getElem_cons_succ, List.getElem_cons_zero, List.setIfInBounds_toArray, List.set_cons_zero, List.set_cons_succ]
            refine Runs.cons (v := ?_) rfl rfl (Or.inl ⟨by rfl, ?_⟩) ?_
            rotate_left
            · intro w hSw; (try dsimp only at hSw); first | (go_simp; done) | (go_simp; with_reducible rfl)
            try simp only [Act.put, List.getElem_toArray, List.getElem_cons_succ, List.getElem_cons_zero, List.setIfInBounds_toArray, List.set_cons_zero, List.set_cons_succ]
            refine Runs.cons (v := ?_) rfl rfl (Or.inl ⟨by rfl, ?_⟩) ?_
            rotate_left
            · intro w hSw; (try dsimp only at hSw); first | (go_simp; done) | (go_simp; with_reducible rfl)
            try simp only [Act.put, List.getElem_toArray, List.getElem_cons_succ, List.getElem_cons_zero, List.setIfInBounds_toArray, List.set_cons_zero, List.set_cons_succ]
            refine Runs.cons (v := ?_) rfl rfl (Or.inl ⟨by rfl, ?_⟩) ?_
            rotate_left
            · intro w hSw; (try dsimp only at hSw); first | (go_simp; done) | (go_simp; with_reducible rfl)
            try simp only [Act.put, List.getElem_toArray, List.getElem_cons_succ, List.getElem_cons_zero, List.setIfInBounds_toArray, List.set_cons_zero, List.set_cons_succ]
            refine Runs.cons (v := ?_) rfl rfl (Or.inl ⟨by rfl, ?_⟩) ?_
            rotate_left
            · intro w hSw; (try dsimp only at hSw); first | (go_simp; done) | (go_simp; with_reducible rfl)
            try simp only [Act.put, List.getElem_toArray, List.getElem_cons_succ, List.getElem_cons_zero, List.setIfInBounds_toArray, List.set_cons_zero, List.set_cons_succ]
            refine Runs.cons (v := ?_) rfl rfl (Or.inl ⟨by rfl, ?_⟩) ?_
            rotate_left
            · intro w hSw; (try dsimp only at hSw); first | (go_simp; done) | (go_simp; with_reducible rfl)
            try simp only [Act.put, List.getElem_toArray, List.getElem_cons_succ, List.getElem_cons_zero, List.setIfInBounds_toArray, List.set_cons_zero, List.set_cons_succ]
            exact Runs.nil
          refine wpAnyT_last (i := 48) (by kernel_rfl) (by kernel_rfl) rfl (by kernel_rfl) (fun K hK => ?_)
          go_simp
          refine hK.out _ _ ?_
          clear hK K
          try simp only [Act.put, List.getElem_toArray, List.getElem_cons_succ, List.getElem_cons_zero, List.setIfInBounds_toArray, List.set_cons_zero, List.set_cons_succ]
          clear hHeld
          go_upto_region 12 with fail
          refine wp_region_T (S := (fun w' => w'.cell? ⟨b, o, none⟩ = some (.int .i64 0) ∧ w'.cell? ⟨b, o + 1, none⟩ = some (.int .i64 0) ∧ w'.cell? ⟨b, o + 2, none⟩ = some (.int .i64 s))) 83 (by kernel_rfl) (⟨x0, x1, x2⟩) (fun hHeld => ?_)
          refine wpAnyT_many (by decide +kernel) (fun _ _ _ _ _ h => h) [0, 1, 2] _ 81 _ ?bb2 _ (by decide +kernel) ?hr2 (by assumption) ?hk2
          case hr2 =>
            refine Runs.cons (v := ?_) rfl rfl (Or.inl ⟨by rfl, ?_⟩) ?_
            rotate_left
            · intro w hSw; (try dsimp only at hSw); first | (go_simp; done) | (go_simp; with_reducible rfl)
            try simp only [Act.put, List.getElem_toArray, List.getElem_cons_succ, List.getElem_cons_zero, List.setIfInBounds_toArray, List.set_cons_zero, List.set_cons_succ]
            refine Runs.cons (v := ?_) rfl rfl (Or.inl ⟨by rfl, ?_⟩) ?_
            rotate_left
            · intro w hSw; (try dsimp only at hSw); first | (go_simp; done) | (go_simp; with_reducible rfl)
            try simp only [Act.put, List.getElem_toArray, List.getElem_cons_succ, List.getElem_cons_zero, List.setIfInBounds_toArray, List.set_cons_zero, List.set_cons_succ]
            refine Runs.cons (v := ?_) rfl rfl (Or.inl ⟨by rfl, ?_⟩) ?_
            rotate_left
            · intro w hSw; (try dsimp only at hSw); first | (go_simp; done) | (go_simp; with_reducible rfl)
            try simp only [Act.put, List.getElem_toArray, List.getElem_cons_succ, List.getElem_cons_zero, List.setIfInBounds_toArray, List.set_cons_zero, List.set_cons_succ]
            exact Runs.nil
          refine wpAnyT_dead [(2, false)] [3, 4, 5, 6, 7, 8, 9, 10, 11, 12, 13, 14, 15, 16, 17, 18, 19, 20, 21, 22, 23, 24, 25, 26, 27, 28, 29, 30, 31, 32, 33, 34, 35, 36, 37, 38, 39, 40, 41, 42, 43, 44, 45, 46, 47, 48, 49, 50, 51, 52, 53, 54, 55, 56, 57, 58, 59, 60, 61, 62, 63, 64, 65, 66, 67, 68, 69, 70, 71, 72, 73, 74, 75, 76, 77, 78, 79, 80, 81, 82] 161 [false, false, false, false, false, false, false, false, false, false, false, false, false, false, false, false, false, false, false, false, false, false, false, false, false, false, false, false, false, false, false, false, false, false, false, false, false, false, false, false, false, false, false, false, false, false, false, false, false, false, false, false, false, false, false, false, false, false, false, false, false, false, false, false, false, false, false, false, false, false, false, false, false, false, false, false, false, false, false, true, true, true, true, true, true, true, true, true, true, true, true, true, true, true, true, true, true, true, true, true, true, true, true, true, true, true, true, true, true, true, true, true, true, true, true, true, true, true, true, true, true, true, true, true, true, true, true, true, true, true, true, true, true, true, true, true, true, true, true, true, true, true, true, true, true, true, true, true, true, true, true, true, true, true, true, true, true, true, true, false, false] _ 1 _ _ _ (by decide +kernel) (fun _ _ _ _ _ h => h) (by decide +kernel) (by decide +kernel) (by decide +kernel) ⟨(by first | exact Or.inl rfl | exact Or.inr rfl), trivial⟩ (by assumption) ?_
          simp only [maskV_t, maskV_f, maskV_n]
          refine wpAnyT_last (i := 83) (by kernel_rfl) (by kernel_rfl) rfl (by kernel_rfl) (fun K hK => ?_)
          go_simp
          refine hK.out _ _ ?_
          clear hK K
          try simp only [Act.put, List.getElem_toArray, List.getElem_cons_succ, List.getElem_cons_zero, List.setIfInBounds_toArray, List.set_cons_zero, List.set_cons_succ]
          clear hHeld
          go_wp2
          go_roundw
          case rel => exact ⟨1, _, by omega, by go_num, rfl⟩
          case measure => simp [intOf]; omega
      · obtain ⟨p, hp⟩ : ∃ p, p + 1 = k := ⟨k - 1, by omega⟩
        have y0 := c1 p (by omega) 0 (by omega)
        have y1 := c1 p (by omega) 1 (by omega)
        have y2 := c1 p (by omega) 2 (by omega)
        rw [Nat.add_zero] at y0
        rw [HGF.out p (by omega)] at y0 y1 y2
        have hnx := parea_next (xs := xs) HCB.out.1 p
        rw [hp] at hnx
        obtain ⟨q1, q2, q3, q4, q5, q6, q7⟩ := parea_bd (xs := xs) HCB.out.1 p
        have hwp : IntKind.i64.wrap ((k : Int) - 1) = (p : Int) := by rw [← hp]; rw [IntWalk.i64_in _ (by omega)]; omega
        have hpn : (p : Int) < (n : Int) := by omega
        have hp0 : (0 : Int) ≤ (p : Int) := by omega
        have hpn' : p < n := by omega
        have ek : ((k : Int) == 0) = false := by simp; omega
        have ek2 : decide ((0 : Int) < (k : Int)) = true := by simp; omega
        have ek3 : (0 : Int) < (k : Int) := by omega
        have ek4 : 0 < k := by omega
        obtain ⟨r, hr⟩ : ∃ s, (parea c xs k).getD 0 0 = s := ⟨_, rfl⟩
        obtain ⟨q, hq⟩ : ∃ s, (parea c xs k).getD 1 0 = s := ⟨_, rfl⟩
        obtain ⟨s, hs⟩ : ∃ s, (parea c xs k).getD 2 0 = s := ⟨_, rfl⟩
        obtain ⟨r1, hr1⟩ : ∃ s, (parea c xs p).getD 0 0 = s := ⟨_, rfl⟩
        obtain ⟨t1, ht1⟩ : ∃ s, (parea c xs p).getD 1 0 = s := ⟨_, rfl⟩
        obtain ⟨s1, hs1⟩ : ∃ s, (parea c xs p).getD 2 0 = s := ⟨_, rfl⟩
        rw [hr] at x0 p4 p5 hnx
        rw [hq] at x1 p2 p3 p6 hnx
        rw [hs] at x2 p1 p3 p7 hnx
        rw [hr1] at y0 q4 q5 hnx
        rw [ht1] at y1 q2 q3 q6 hnx
        rw [hs1] at y2 q1 q3 q7 hnx
        have e0 : decide (s < 1) = false := by simp; omega
        have e1 : decide (q < 0) = false := by simp; omega
        have e2 : decide (c < q + s) = false := by simp; omega
        have hw1 : IntKind.i64.wrap (q + s) = q + s := IntWalk.i64_in _ (by omega)
        have hw5 : IntKind.i64.wrap s = s := IntWalk.i64_in _ (by omega)
        have e3 : decide (c < s) = false := by simp; omega
        have hw2 : IntKind.i64.wrap (t1 + s1) = t1 + s1 := IntWalk.i64_in _ (by omega)
        have hw3 : IntKind.i64.wrap (t1 + s1 + s) = t1 + s1 + s := IntWalk.i64_in _ (by omega)
        have hw4 : IntKind.i64.wrap (r1 + 1) = r1 + 1 := IntWalk.i64_in _ (by omega)
        clear c1 hr hq hs hr1 ht1 hs1 p1 p2 p3 p4 p5 p6 p7 q1 q2 q3 q4 q5 q6 q7 hcc
        rcases hnx with ⟨rfl, rfl⟩ | ⟨rfl, rfl, hgt⟩
        ·
          as_aux_lemma =>
            go_upto_region 10 with fail
            refine wp_region_T (S := (fun w' => w'.cell? ⟨b, o + k * 3, none⟩ = some (.int .i64 r) ∧ w'.cell? ⟨b, o + k * 3 + 1, none⟩ = some (.int .i64 (t1 + s1)) ∧ w'.cell? ⟨b, o + k * 3 + 2, none⟩ = some (.int .i64 s) ∧ w'.cell? ⟨b, o + p * 3, none⟩ = some (.int .i64 r) ∧ w'.cell? ⟨b, o + p * 3 + 1, none⟩ = some (.int .i64 t1) ∧ w'.cell? ⟨b, o + p * 3 + 2, none⟩ = some (.int .i64 s1))) 48 (by kernel_rfl) (⟨x0, x1, x2, y0, y1, y2⟩) (fun hHeld => ?_)
            refine wpAnyT_many (by decide +kernel) (fun _ _ _ _ _ h => h) [0, 1, 2, 3, 4, 5, 6, 7, 8, 9, 10, 11, 12, 13, 14, 15, 16, 17, 18, 19, 20, 21, 22, 23, 24, 25, 26, 27, 28, 29, 30, 31, 32, 33, 34, 35, 36, 37, 38, 39, 40, 41, 42, 43, 44, 45, 46, 47] _ 1 _ ?bb3 _ (by decide +kernel) ?hr3 (by assumption) ?hk3
            case hr3 =>
              refine Runs.cons (v := ?_) rfl rfl (Or.inl ⟨by rfl, ?_⟩) ?_
              rotate_left
              · intro w hSw; (try dsimp only at hSw); first | (go_simp; done) | (go_simp; with_reducible rfl)
              try simp only [Act.put, List.getElem_toArray, List.getElem_cons_succ, List.getElem_cons_zero, List.setIfInBounds_toArray, List.set_cons_zero, List.set_cons_succ]
              refine Runs.cons (v := ?_) rfl rfl (Or.inl ⟨by rfl, ?_⟩) ?_
              rotate_left
              · intro w hSw; (try dsimp only at hSw); first | (go_simp; done) | (go_simp; with_reducible rfl)
              try simp only [Act.put, List.getElem_toArray, List.getElem_cons_succ, List.getElem_cons_zero, List.setIfInBounds_toArray, List.set_cons_zero, List.set_cons_succ]
              refine Runs.cons (v := ?_) rfl rfl (Or.inl ⟨by rfl, ?_⟩) ?_
              rotate_left
              · intro w hSw; (try dsimp only at hSw); first | (go_simp; done) | (go_simp; with_reducible rfl)
              try simp only [Act.put, List.getElem_toArray, List.getElem_cons_succ, List.getElem_cons_zero, List.setIfInBounds_toArray, List.set_cons_zero, List.set_cons_succ]
              refine Runs.cons (v := ?_) rfl rfl (Or.inl ⟨by rfl, ?_⟩) ?_
              rotate_left
              · intro w hSw; (try dsimp only at hSw); first | (go_simp; done) | (go_simp; with_reducible rfl)
              try simp only [Act.put, List.getElem_toArray, List.getElem_cons_succ, List.getElem_cons_zero, List.setIfInBounds_toArray, List.set_cons_zero, List.set_cons_succ]
              refine Runs.cons (v := ?_) rfl rfl (Or.inl ⟨by rfl, ?_⟩) ?_
              rotate_left
              · intro w hSw; (try dsimp only at hSw); first | (go_simp; done) | (go_simp; with_reducible rfl)
              try simp only [Act.put, List.getElem_toArray, List.getElem_cons_succ, List.getElem_cons_zero, List.setIfInBounds_toArray, List.set_cons_zero, List.set_cons_succ]
              refine Runs.cons (v := ?_) rfl rfl (Or.inl ⟨by rfl, ?_⟩) ?_
              rotate_left
              · intro w hSw; (try dsimp only at hSw); first | (go_simp; done) | (go_simp; with_reducible rfl)
              try simp only [Act.put, List.getElem_toArray, List.getElem_cons_succ, List.getElem_cons_zero, List.setIfInBounds_toArray, List.set_cons_zero, List.set_cons_succ]
              refine Runs.cons (v := ?_) rfl rfl (Or.inl ⟨by rfl, ?_⟩) ?_
              rotate_left
              · intro w hSw; (try dsimp only at hSw); first | (go_simp; done) | (go_simp; with_reducible rfl)
              try simp only [Act.put, List.getElem_toArray, List.getElem_cons_succ, List.getElem_cons_zero, List.setIfInBounds_toArray, List.set_cons_zero, List.set_cons_succ]
              refine Runs.cons (v := ?_) rfl rfl (Or.inl ⟨by rfl, ?_⟩) ?_
              rotate_left
              · intro w hSw; (try dsimp only at hSw); first | (go_simp; done) | (go_simp; with_reducible rfl)
              try simp only [Act.put, List.getElem_toArray, List.getElem_cons_succ, List.getElem_cons_zero, List.setIfInBounds_toArray, List.set_cons_zero, List.set_cons_succ]
              refine Runs.cons (v := ?_) rfl rfl (Or.inl ⟨by rfl, ?_⟩) ?_
              rotate_left
              · intro w hSw; (try dsimp only at hSw); first | (go_simp; done) | (go_simp; with_reducible rfl)
              try simp only [Act.put, List.getElem_toArray, List.getElem_cons_succ, List.getElem_cons_zero, List.setIfInBounds_toArray, List.set_cons_zero, List.set_cons_succ]
              refine Runs.cons (v := ?_) rfl rfl (Or.inl ⟨by rfl, ?_⟩) ?_
              rotate_left
              · intro w hSw; (try dsimp only at hSw); first | (go_simp; done) | (go_simp; with_reducible rfl)
              try simp only [Act.put, List.getElem_toArray, List.getElem_cons_succ, List.getElem_cons_zero, List.setIfInBounds_toArray, List.set_cons_zero, List.set_cons_succ]
              refine Runs.cons (v := ?_) rfl rfl (Or.inl ⟨by rfl, ?_⟩) ?_
              rotate_left
              · intro w hSw; (try dsimp only at hSw); first | (go_simp; done) | (go_simp; with_reducible rfl)
              try simp only [Act.put, List.getElem_toArray, List.getElem_cons_succ, List.getElem_cons_zero, List.setIfInBounds_toArray, List.set_cons_zero, List.set_cons_succ]
              refine Runs.cons (v := ?_) rfl rfl (Or.inl ⟨by rfl, ?_⟩) ?_
              rotate_left
              · intro w hSw; (try dsimp only at hSw); first | (go_simp; done) | (go_simp; with_reducible rfl)
              try simp only [Act.put, List.getElem_toArray, List.getElem_cons_succ, List.getElem_cons_zero, List.setIfInBounds_toArray, List.set_cons_zero, List.set_cons_succ]
              refine Runs.cons (v := ?_) rfl rfl (Or.inl ⟨by rfl, ?_⟩) ?_
              rotate_left
              · intro w hSw; (try dsimp only at hSw); first | (go_simp; done) | (go_simp; with_reducible rfl)
              try simp only [Act.put, List.getElem_toArray, List.getElem_cons_succ, List.getElem_cons_zero, List.setIfInBounds_toArray, List.set_cons_zero, List.set_cons_succ]
              refine Runs.cons (v := ?_) rfl rfl (Or.inl ⟨by rfl, ?_⟩) ?_
              rotate_left
              · intro w hSw; (try dsimp only at hSw); first | (go_simp; done) | (go_simp; with_reducible rfl)
              try simp only [Act.put, List.getElem_toArray, List.getElem_cons_succ, List.getElem_cons_zero, List.setIfInBounds_toArray, List.set_cons_zero, List.set_cons_succ]
              refine Runs.cons (v := ?_) rfl rfl (Or.inl ⟨by rfl, ?_⟩) ?_
              rotate_left
              · intro w hSw; (try dsimp only at hSw); first | (go_simp; done) | (go_simp; with_reducible rfl)
              try simp only [Act.put, List.getElem_toArray, List.getElem_cons_succ, List.getElem_cons_zero, List.setIfInBounds_toArray, List.set_cons_zero, List.set_cons_succ]
              refine Runs.cons (v := ?_) rfl rfl (Or.inl ⟨by rfl, ?_⟩) ?_
              rotate_left
              · intro w hSw; (try dsimp only at hSw); first | (go_simp; done) | (go_simp; with_reducible rfl)
              try simp only [Act.put, List.getElem_toArray, List.getElem_cons_succ, List.getElem_cons_zero, List.setIfInBounds_toArray, List.set_cons_zero, List.set_cons_succ]
              refine Runs.cons (v := ?_) rfl rfl (Or.inl ⟨by rfl, ?_⟩) ?_
              rotate_left
              · intro w hSw; (try dsimp only at hSw); first | (go_simp; done) | (go_simp; with_reducible rfl)
              try simp only [Act.put, List.getElem_toArray, List.getElem_cons_succ, List.getElem_cons_zero, List.setIfInBounds_toArray, List.set_cons_zero, List.set_cons_succ]
              refine Runs.cons (v := ?_) rfl rfl (Or.inl ⟨by rfl, ?_⟩) ?_
              rotate_left
              · intro w hSw; (try dsimp only at hSw); first | (go_simp; done) | (go_simp; with_reducible rfl)
              try simp only [Act.put, List.getElem_toArray, List.getElem_cons_succ, List.getElem_cons_zero, List.setIfInBounds_toArray, List.set_cons_zero, List.set_cons_succ]
              refine Runs.cons (v := ?_) rfl rfl (Or.inl ⟨by rfl, ?_⟩) ?_
              rotate_left
              · intro w hSw; (try dsimp only at hSw); first | (go_simp; done) | (go_simp; with_reducible rfl)
              try simp only [Act.put, List.getElem_toArray, List.getElem_cons_succ, List.getElem_cons_zero, List.setIfInBounds_toArray, List.set_cons_zero, List.set_cons_succ]
              refine Runs.cons (v := ?_) rfl rfl (Or.inl ⟨by rfl, ?_⟩) ?_
              rotate_left
              · intro w hSw; (try dsimp only at hSw); first | (go_simp; done) | (go_simp; with_reducible rfl)
              try simp only [Act.put, List.getElem_toArray, List.getElem_cons_succ, List.getElem_cons_zero, List.setIfInBounds_toArray, List.set_cons_zero, List.set_cons_succ]
              refine Runs.cons (v := ?_) rfl rfl (Or.inl ⟨by rfl, ?_⟩) ?_
              rotate_left
              · intro w hSw; (try dsimp only at hSw); first | (go_simp; done) | (go_simp; with_reducible rfl)
              try simp only [Act.put, List.getElem_toArray, List.getElem_cons_succ, List.getElem_cons_zero, List.setIfInBounds_toArray, List.set_cons_zero, List.set_cons_succ]
              refine Runs.cons (v := ?_) rfl rfl (Or.inl ⟨by rfl, ?_⟩) ?_
              rotate_left
              · intro w hSw; (try dsimp only at hSw); first | (go_simp; done) | (go_simp; with_reducible rfl)
              try simp only [Act.put, List.getElem_toArray, List.getElem_cons_succ, List.getElem_cons_zero, List.setIfInBounds_toArray, List.set_cons_zero, List.set_cons_succ]
              refine Runs.cons (v := ?_) rfl rfl (Or.inl ⟨by rfl, ?_⟩) ?_
              rotate_left
              · intro w hSw; (try dsimp only at hSw); first | (go_simp; done) | (go_simp; with_reducible rfl)
              try simp only [Act.put, List.getElem_toArray, List.getElem_cons_succ, List.getElem_cons_zero, List.setIfInBounds_toArray, List.set_cons_zero, List.set_cons_succ]
              refine Runs.cons (v := ?_) rfl rfl (Or.inl ⟨by rfl, ?_⟩) ?_
              rotate_left
              · intro w hSw; (try dsimp only at hSw); first | (go_simp; done) | (go_simp; with_reducible rfl)
              try simp only [Act.put, List.getElem_toArray, List.getElem_cons_succ, List.getElem_cons_zero, List.setIfInBounds_toArray, List.set_cons_zero, List.set_cons_succ]
              refine Runs.cons (v := ?_) rfl rfl (Or.inl ⟨by rfl, ?_⟩) ?_
              rotate_left
              · intro w hSw; (try dsimp only at hSw); first | (go_simp; done) | (go_simp; with_reducible rfl)
              try simp only [Act.put, List.getElem_toArray, List.getElem_cons_succ, List.getElem_cons_zero, List.setIfInBounds_toArray, List.set_cons_zero, List.set_cons_succ]
              refine Runs.cons (v := ?_) rfl rfl (Or.inl ⟨by rfl, ?_⟩) ?_
              rotate_left
              · intro w hSw; (try dsimp only at hSw); first | (go_simp; done) | (go_simp; with_reducible rfl)
              try simp only [Act.put, List.getElem_toArray, List.getElem_cons_succ, List.getElem_cons_zero, List.setIfInBounds_toArray, List.set_cons_zero, List.set_cons_succ]
              refine Runs.cons (v := ?_) rfl rfl (Or.inl ⟨by rfl, ?_⟩) ?_
              rotate_left
              · intro w hSw; (try dsimp only at hSw); first | (go_simp; done) | (go_simp; with_reducible rfl)
              try simp only [Act.put, List.getElem_toArray, List.getElem_cons_succ, List.getElem_cons_zero, List.setIfInBounds_toArray, List.set_cons_zero, List.set_cons_succ]
              refine Runs.cons (v := ?_) rfl rfl (Or.inl ⟨by rfl, ?_⟩) ?_
              rotate_left
              · intro w hSw; (try dsimp only at hSw); first | (go_simp; done) | (go_simp; with_reducible rfl)
              try simp only [Act.put, List.getElem_toArray, List.getElem_cons_succ, List.getElem_cons_zero, List.setIfInBounds_toArray, List.set_cons_zero, List.set_cons_succ]
              refine Runs.cons (v := ?_) rfl rfl (Or.inl ⟨by rfl, ?_⟩) ?_
              rotate_left
              · intro w hSw; (try dsimp only at hSw); first | (go_simp; done) | (go_simp; with_reducible rfl)
              try simp only [Act.put, List.getElem_toArray, List.getElem_cons_succ, List.getElem_cons_zero, List.setIfInBounds_toArray, List.set_cons_zero, List.set_cons_succ]
              refine Runs.cons (v := ?_) rfl rfl (Or.inl ⟨by rfl, ?_⟩) ?_
              rotate_left
              · intro w hSw; (try dsimp only at hSw); first | (go_simp; done) | (go_simp; with_reducible rfl)
              try simp only [Act.put, List.getElem_toArray, List.getElem_cons_succ, List.getElem_cons_zero, List.setIfInBounds_toArray, List.set_cons_zero, List.set_cons_succ]
              refine Runs.cons (v := ?_) rfl rfl (Or.inl ⟨by rfl, ?_⟩) ?_
              rotate_left
              · intro w hSw; (try dsimp only at hSw); first | (go_simp; done) | (go_simp; with_reducible rfl)
              try simp only [Act.put, List.getElem_toArray, List.getElem_cons_succ, List.getElem_cons_zero, List.setIfInBounds_toArray, List.set_cons_zero, List.set_cons_succ]
              refine Runs.cons (v := ?_) rfl rfl (Or.inl ⟨by rfl, ?_⟩) ?_
              rotate_left
              · intro w hSw; (try dsimp only at hSw); first | (go_simp; done) | (go_simp; with_reducible rfl)
              try simp only [Act.put, List.getElem_toArray, List.getElem_cons_succ, List.getElem_cons_zero, List.setIfInBounds_toArray, List.set_cons_zero, List.set_cons_succ]
              refine Runs.cons (v := ?_) rfl rfl (Or.inl ⟨by rfl, ?_⟩) ?_
              rotate_left
              · intro w hSw; (try dsimp only at hSw); first | (go_simp; done) | (go_simp; with_reducible rfl)
              try simp only [Act.put, List.getElem_toArray, List.getElem_cons_succ, List.getElem_cons_zero, List.setIfInBounds_toArray, List.set_cons_zero, List.set_cons_succ]
              refine Runs.cons (v := undef) rfl rfl (Or.inr ⟨by rfl, rfl⟩) ?_
              try simp only [Act.put, List.getElem_toArray, List.getElem_cons_succ, List.getElem_cons_zero, List.setIfInBounds_toArray, List.set_cons_zero, List.set_cons_succ]
              refine Runs.cons (v := undef) rfl rfl (Or.inr ⟨by rfl, rfl⟩) ?_
              try simp only [Act.put, List.getElem_toArray, List.getElem_cons_succ, List.getElem_cons_zero, List.setIfInBounds_toArray, List.set_cons_zero, List.set_cons_succ]
              refine Runs.cons (v := undef) rfl rfl (Or.inr ⟨by rfl, rfl⟩) ?_
              try simp only [Act.put, List.getElem_toArray, List.getElem_cons_succ, List.getElem_cons_zero, List.setIfInBounds_toArray, List.set_cons_zero, List.set_cons_succ]
              refine Runs.cons (v := undef) rfl rfl (Or.inr ⟨by rfl, rfl⟩) ?_
              try simp only [Act.put, List.getElem_toArray, List.getElem_cons_succ, List.getElem_cons_zero, List.setIfInBounds_toArray, List.set_cons_zero, List.set_cons_succ]
              refine Runs.cons (v := undef) rfl rfl (Or.inr ⟨by rfl, rfl⟩) ?_
              try simp only [Act.put, List.getElem_toArray, List.getElem_cons_succ, List.getElem_cons_zero, List.setIfInBounds_toArray, List.set_cons_zero, List.set_cons_succ]
              refine Runs.cons (v := undef) rfl rfl (Or.inr ⟨by rfl, rfl⟩) ?_
              try simp only [Act.put, List.getElem_toArray, List.getElem_cons_succ, List.getElem_cons_zero, List.setIfInBounds_toArray, List.set_cons_zero, List.set_cons_succ]
              refine Runs.cons (v := undef) rfl rfl (Or.inr ⟨by rfl, rfl⟩) ?_
              try simp only [Act.put, List.getElem_toArray, List.getElem_cons_succ, List.getElem_cons_zero, List.setIfInBounds_toArray, List.set_cons_zero, List.set_cons_succ]
              refine Runs.cons (v := undef) rfl rfl (Or.inr ⟨by rfl, rfl⟩) ?_
              try simp only [Act.put, List.getElem_toArray, List.getElem_cons_succ, List.getElem_cons_zero, List.setIfInBounds_toArray, List.set_cons_zero, List.set_cons_succ]
              refine Runs.cons (v := undef) rfl rfl (Or.inr ⟨by rfl, rfl⟩) ?_
              try simp only [Act.put, List.getElem_toArray, List.getElem_cons_succ, List.getElem_cons_zero, List.setIfInBounds_toArray, List.set_cons_zero, List.set_cons_succ]
              refine Runs.cons (v := undef) rfl rfl (Or.inr ⟨by rfl, rfl⟩) ?_
              try simp only [Act.put, List.getElem_toArray, List.getElem_cons_succ, List.getElem_cons_zero, List.setIfInBounds_toArray, List.set_cons_zero, List.set_cons_succ]
              refine Runs.cons (v := undef) rfl rfl (Or.inr ⟨by rfl, rfl⟩) ?_
              try simp only [Act.put, List.getElem_toArray, List.getElem_cons_succ, List.getElem_cons_zero, List.setIfInBounds_toArray, List.set_cons_zero, List.set_cons_succ]
              refine Runs.cons (v := undef) rfl rfl (Or.inr ⟨by rfl, rfl⟩) ?_
              try simp only [Act.put, List.getElem_toArray, List.getElem_cons_succ, List.getElem_cons_zero, List.setIfInBounds_toArray, List.set_cons_zero, List.set_cons_succ]
              refine Runs.cons (v := undef) rfl rfl (Or.inr ⟨by rfl, rfl⟩) ?_
              try simp only [Act.put, List.getElem_toArray, List.getElem_cons_succ, List.getElem_cons_zero, List.setIfInBounds_toArray, List.set_cons_zero, List.set_cons_succ]
              refine Runs.cons (v := undef) rfl rfl (Or.inr ⟨by rfl, rfl⟩) ?_
              try simp only [Act.put, List.getElem_toArray, List.getElem_cons_succ, List.getElem_cons_zero, List.setIfInBounds_toArray, List.set_cons_zero, List.set_cons_succ]
              refine Runs.cons (v := ?_) rfl rfl (Or.inl ⟨by rfl, ?_⟩) ?_
              rotate_left
              · intro w hSw; (try dsimp only at hSw); first | (go_simp; done) | (go_simp; with_reducible rfl)
              try simp only [Act.put, List.getElem_toArray, List.getElem_cons_succ, List.getElem_cons_zero, List.setIfInBounds_toArray, List.set_cons_zero, List.set_cons_succ]
              exact Runs.nil
            refine wpAnyT_last (i := 48) (by kernel_rfl) (by kernel_rfl) rfl (by kernel_rfl) (fun K hK => ?_)
            go_simp
            refine hK.out _ _ ?_
            clear hK K
            try simp only [Act.put, List.getElem_toArray, List.getElem_cons_succ, List.getElem_cons_zero, List.setIfInBounds_toArray, List.set_cons_zero, List.set_cons_succ]
            clear hHeld e0 e1 e2 hw1
            go_upto_region 12 with fail
            refine wp_region_T (S := (fun w' => w'.cell? ⟨b, o + k * 3, none⟩ = some (.int .i64 r) ∧ w'.cell? ⟨b, o + k * 3 + 1, none⟩ = some (.int .i64 (t1 + s1)) ∧ w'.cell? ⟨b, o + k * 3 + 2, none⟩ = some (.int .i64 s) ∧ w'.cell? ⟨b, o + p * 3, none⟩ = some (.int .i64 r) ∧ w'.cell? ⟨b, o + p * 3 + 1, none⟩ = some (.int .i64 t1) ∧ w'.cell? ⟨b, o + p * 3 + 2, none⟩ = some (.int .i64 s1))) 83 (by kernel_rfl) (⟨x0, x1, x2, y0, y1, y2⟩) (fun hHeld => ?_)
            refine wpAnyT_many (by decide +kernel) (fun _ _ _ _ _ h => h) [0, 1, 2, 3, 4, 5, 6, 7, 8, 9, 10, 11, 12, 13, 14, 15, 16, 17, 18, 19, 20, 21, 22, 23, 24, 25, 26, 27, 28, 29, 30, 31, 32, 33, 34, 35, 36] _ 47 _ ?bb4 _ (by decide +kernel) ?hr4 (by assumption) ?hk4
            case hr4 =>
              refine Runs.cons (v := ?_) rfl rfl (Or.inl ⟨by rfl, ?_⟩) ?_
              rotate_left
              · intro w hSw; (try dsimp only at hSw); first | (go_simp; done) | (go_simp; with_reducible rfl)
              try simp only [Act.put, List.getElem_toArray, List.getElem_cons_succ, List.getElem_cons_zero, List.setIfInBounds_toArray, List.set_cons_zero, List.set_cons_succ]
              refine Runs.cons (v := ?_) rfl rfl (Or.inl ⟨by rfl, ?_⟩) ?_
              rotate_left
              · intro w hSw; (try dsimp only at hSw); first | (go_simp; done) | (go_simp; with_reducible rfl)
              try simp only [Act.put, List.getElem_toArray, List.getElem_cons_succ, List.getElem_cons_zero, List.setIfInBounds_toArray, List.set_cons_zero, List.set_cons_succ]
              refine Runs.cons (v := ?_) rfl rfl (Or.inl ⟨by rfl, ?_⟩) ?_
              rotate_left
              · intro w hSw; (try dsimp only at hSw); first | (go_simp; done) | (go_simp; with_reducible rfl)
              try simp only [Act.put, List.getElem_toArray, List.getElem_cons_succ, List.getElem_cons_zero, List.setIfInBounds_toArray, List.set_cons_zero, List.set_cons_succ]
              refine Runs.cons (v := ?_) rfl rfl (Or.inl ⟨by rfl, ?_⟩) ?_
              rotate_left
              · intro w hSw; (try dsimp only at hSw); first | (go_simp; done) | (go_simp; with_reducible rfl)
              try simp only [Act.put, List.getElem_toArray, List.getElem_cons_succ, List.getElem_cons_zero, List.setIfInBounds_toArray, List.set_cons_zero, List.set_cons_succ]
              refine Runs.cons (v := ?_) rfl rfl (Or.inl ⟨by rfl, ?_⟩) ?_
              rotate_left
              · intro w hSw; (try dsimp only at hSw); first | (go_simp; done) | (go_simp; with_reducible rfl)
              try simp only [Act.put, List.getElem_toArray, List.getElem_cons_succ, List.getElem_cons_zero, List.setIfInBounds_toArray, List.set_cons_zero, List.set_cons_succ]
              refine Runs.cons (v := ?_) rfl rfl (Or.inl ⟨by rfl, ?_⟩) ?_
              rotate_left
              · intro w hSw; (try dsimp only at hSw); first | (go_simp; done) | (go_simp; with_reducible rfl)
              try simp only [Act.put, List.getElem_toArray, List.getElem_cons_succ, List.getElem_cons_zero, List.setIfInBounds_toArray, List.set_cons_zero, List.set_cons_succ]
              refine Runs.cons (v := ?_) rfl rfl (Or.inl ⟨by rfl, ?_⟩) ?_
              rotate_left
              · intro w hSw; (try dsimp only at hSw); first | (go_simp; done) | (go_simp; with_reducible rfl)
              try simp only [Act.put, List.getElem_toArray, List.getElem_cons_succ, List.getElem_cons_zero, List.setIfInBounds_toArray, List.set_cons_zero, List.set_cons_succ]
              refine Runs.cons (v := ?_) rfl rfl (Or.inl ⟨by rfl, ?_⟩) ?_
              rotate_left
              · intro w hSw; (try dsimp only at hSw); first | (go_simp; done) | (go_simp; with_reducible rfl)
              try simp only [Act.put, List.getElem_toArray, List.getElem_cons_succ, List.getElem_cons_zero, List.setIfInBounds_toArray, List.set_cons_zero, List.set_cons_succ]
              refine Runs.cons (v := ?_) rfl rfl (Or.inl ⟨by rfl, ?_⟩) ?_
              rotate_left
              · intro w hSw; (try dsimp only at hSw); first | (go_simp; done) | (go_simp; with_reducible rfl)
              try simp only [Act.put, List.getElem_toArray, List.getElem_cons_succ, List.getElem_cons_zero, List.setIfInBounds_toArray, List.set_cons_zero, List.set_cons_succ]
              refine Runs.cons (v := ?_) rfl rfl (Or.inl ⟨by rfl, ?_⟩) ?_
              rotate_left
              · intro w hSw; (try dsimp only at hSw); first | (go_simp; done) | (go_simp; with_reducible rfl)
              try simp only [Act.put, List.getElem_toArray, List.getElem_cons_succ, List.getElem_cons_zero, List.setIfInBounds_toArray, List.set_cons_zero, List.set_cons_succ]
              refine Runs.cons (v := ?_) rfl rfl (Or.inl ⟨by rfl, ?_⟩) ?_
              rotate_left
              · intro w hSw; (try dsimp only at hSw); first | (go_simp; done) | (go_simp; with_reducible rfl)
              try simp only [Act.put, List.getElem_toArray, List.getElem_cons_succ, List.getElem_cons_zero, List.setIfInBounds_toArray, List.set_cons_zero, List.set_cons_succ]
              refine Runs.cons (v := ?_) rfl rfl (Or.inl ⟨by rfl, ?_⟩) ?_
              rotate_left
              · intro w hSw; (try dsimp only at hSw); first | (go_simp; done) | (go_simp; with_reducible rfl)
              try simp only [Act.put, List.getElem_toArray, List.getElem_cons_succ, List.getElem_cons_zero, List.setIfInBounds_toArray, List.set_cons_zero, List.set_cons_succ]
              refine Runs.cons (v := ?_) rfl rfl (Or.inl ⟨by rfl, ?_⟩) ?_
              rotate_left
              · intro w hSw; (try dsimp only at hSw); first | (go_simp; done) | (go_simp; with_reducible rfl)
              try simp only [Act.put, List.getElem_toArray, List.getElem_cons_succ, List.getElem_cons_zero, List.setIfInBounds_toArray, List.set_cons_zero, List.set_cons_succ]
              refine Runs.cons (v := ?_) rfl rfl (Or.inl ⟨by rfl, ?_⟩) ?_
              rotate_left
              · intro w hSw; (try dsimp only at hSw); first | (go_simp; done) | (go_simp; with_reducible rfl)
              try simp only [Act.put, List.getElem_toArray, List.getElem_cons_succ, List.getElem_cons_zero, List.setIfInBounds_toArray, List.set_cons_zero, List.set_cons_succ]
              refine Runs.cons (v := ?_) rfl rfl (Or.inl ⟨by rfl, ?_⟩) ?_
              rotate_left
              · intro w hSw; (try dsimp only at hSw); first | (go_simp; done) | (go_simp; with_reducible rfl)
              try simp only [Act.put, List.getElem_toArray, List.getElem_cons_succ, List.getElem_cons_zero, List.setIfInBounds_toArray, List.set_cons_zero, List.set_cons_succ]
              refine Runs.cons (v := ?_) rfl rfl (Or.inl ⟨by rfl, ?_⟩) ?_
              rotate_left
              · intro w hSw; (try dsimp only at hSw); first | (go_simp; done) | (go_simp; with_reducible rfl)
              try simp only [Act.put, List.getElem_toArray, List.getElem_cons_succ, List.getElem_cons_zero, List.setIfInBounds_toArray, List.set_cons_zero, List.set_cons_succ]
              refine Runs.cons (v := ?_) rfl rfl (Or.inl ⟨by rfl, ?_⟩) ?_
              rotate_left
              · intro w hSw; (try dsimp only at hSw); first | (go_simp; done) | (go_simp; with_reducible rfl)
              try simp only [Act.put, List.getElem_toArray, List.getElem_cons_succ, List.getElem_cons_zero, List.setIfInBounds_toArray, List.set_cons_zero, List.set_cons_succ]
              refine Runs.cons (v := ?_) rfl rfl (Or.inl ⟨by rfl, ?_⟩) ?_
              rotate_left
              · intro w hSw; (try dsimp only at hSw); first | (go_simp; done) | (go_simp; with_reducible rfl)
              try simp only [Act.put, List.getElem_toArray, List.getElem_cons_succ, List.getElem_cons_zero, List.setIfInBounds_toArray, List.set_cons_zero, List.set_cons_succ]
              refine Runs.cons (v := ?_) rfl rfl (Or.inl ⟨by rfl, ?_⟩) ?_
              rotate_left
              · intro w hSw; (try dsimp only at hSw); first | (go_simp; done) | (go_simp; with_reducible rfl)
              try simp only [Act.put, List.getElem_toArray, List.getElem_cons_succ, List.getElem_cons_zero, List.setIfInBounds_toArray, List.set_cons_zero, List.set_cons_succ]
              refine Runs.cons (v := ?_) rfl rfl (Or.inl ⟨by rfl, ?_⟩) ?_
              rotate_left
              · intro w hSw; (try dsimp only at hSw); first | (go_simp; done) | (go_simp; with_reducible rfl)
              try simp only [Act.put, List.getElem_toArray, List.getElem_cons_succ, List.getElem_cons_zero, List.setIfInBounds_toArray, List.set_cons_zero, List.set_cons_succ]
              refine Runs.cons (v := ?_) rfl rfl (Or.inl ⟨by rfl, ?_⟩) ?_
              rotate_left
              · intro w hSw; (try dsimp only at hSw); first | (go_simp; done) | (go_simp; with_reducible rfl)
              try simp only [Act.put, List.getElem_toArray, List.getElem_cons_succ, List.getElem_cons_zero, List.setIfInBounds_toArray, List.set_cons_zero, List.set_cons_succ]
              refine Runs.cons (v := ?_) rfl rfl (Or.inl ⟨by rfl, ?_⟩) ?_
              rotate_left
              · intro w hSw; (try dsimp only at hSw); first | (go_simp; done) | (go_simp; with_reducible rfl)
              try simp only [Act.put, List.getElem_toArray, List.getElem_cons_succ, List.getElem_cons_zero, List.setIfInBounds_toArray, List.set_cons_zero, List.set_cons_succ]
              refine Runs.cons (v := ?_) rfl rfl (Or.inl ⟨by rfl, ?_⟩) ?_
              rotate_left
              · intro w hSw; (try dsimp only at hSw); first | (go_simp; done) | (go_simp; with_reducible rfl)
              try simp only [Act.put, List.getElem_toArray, List.getElem_cons_succ, List.getElem_cons_zero, List.setIfInBounds_toArray, List.set_cons_zero, List.set_cons_succ]
              refine Runs.cons (v := ?_) rfl rfl (Or.inl ⟨by rfl, ?_⟩) ?_
              rotate_left
              · intro w hSw; (try dsimp only at hSw); first | (go_simp; done) | (go_simp; with_reducible rfl)
              try simp only [Act.put, List.getElem_toArray, List.getElem_cons_succ, List.getElem_cons_zero, List.setIfInBounds_toArray, List.set_cons_zero, List.set_cons_succ]
              refine Runs.cons (v := ?_) rfl rfl (Or.inl ⟨by rfl, ?_⟩) ?_
              rotate_left
              · intro w hSw; (try dsimp only at hSw); first | (go_simp; done) | (go_simp; with_reducible rfl)
              try simp only [Act.put, List.getElem_toArray, List.getElem_cons_succ, List.getElem_cons_zero, List.setIfInBounds_toArray, List.set_cons_zero, List.set_cons_succ]
              refine Runs.cons (v := ?_) rfl rfl (Or.inl ⟨by rfl, ?_⟩) ?_
              rotate_left
              · intro w hSw; (try dsimp only at hSw); first | (go_simp; done) | (go_simp; with_reducible rfl)
              try simp only [Act.put, List.getElem_toArray, List.getElem_cons_succ, List.getElem_cons_zero, List.setIfInBounds_toArray, List.set_cons_zero, List.set_cons_succ]
              refine Runs.cons (v := ?_) rfl rfl (Or.inl ⟨by rfl, ?_⟩) ?_
              rotate_left
              · intro w hSw; (try dsimp only at hSw); first | (go_simp; done) | (go_simp; with_reducible rfl)
              try simp only [Act.put, List.getElem_toArray, List.getElem_cons_succ, List.getElem_cons_zero, List.setIfInBounds_toArray, List.set_cons_zero, List.set_cons_succ]
              refine Runs.cons (v := ?_) rfl rfl (Or.inl ⟨by rfl, ?_⟩) ?_
              rotate_left
              · intro w hSw; (try dsimp only at hSw); first | (go_simp; done) | (go_simp; with_reducible rfl)
              try simp only [Act.put, List.getElem_toArray, List.getElem_cons_succ, List.getElem_cons_zero, List.setIfInBounds_toArray, List.set_cons_zero, List.set_cons_succ]
              refine Runs.cons (v := ?_) rfl rfl (Or.inl ⟨by rfl, ?_⟩) ?_
              rotate_left
              · intro w hSw; (try dsimp only at hSw); first | (go_simp; done) | (go_simp; with_reducible rfl)
              try simp only [Act.put, List.getElem_toArray, List.getElem_cons_succ, List.getElem_cons_zero, List.setIfInBounds_toArray, List.set_cons_zero, List.set_cons_succ]
              refine Runs.cons (v := ?_) rfl rfl (Or.inl ⟨by rfl, ?_⟩) ?_
              rotate_left
              · intro w hSw; (try dsimp only at hSw); first | (go_simp; done) | (go_simp; with_reducible rfl)
              try simp only [Act.put, List.getElem_toArray, List.getElem_cons_succ, List.getElem_cons_zero, List.setIfInBounds_toArray, List.set_cons_zero, List.set_cons_succ]
              refine Runs.cons (v := ?_) rfl rfl (Or.inl ⟨by rfl, ?_⟩) ?_
              rotate_left
              · intro w hSw; (try dsimp only at hSw); first | (go_simp; done) | (go_simp; with_reducible rfl)
              try simp only [Act.put, List.getElem_toArray, List.getElem_cons_succ, List.getElem_cons_zero, List.setIfInBounds_toArray, List.set_cons_zero, List.set_cons_succ]
              refine Runs.cons (v := ?_) rfl rfl (Or.inl ⟨by rfl, ?_⟩) ?_
              rotate_left
              · intro w hSw; (try dsimp only at hSw); first | (go_simp; done) | (go_simp; with_reducible rfl)
              try simp only [Act.put, List.getElem_toArray, List.getElem_cons_succ, List.getElem_cons_zero, List.setIfInBounds_toArray, List.set_cons_zero, List.set_cons_succ]
              refine Runs.cons (v := ?_) rfl rfl (Or.inl ⟨by rfl, ?_⟩) ?_
              rotate_left
              · intro w hSw; (try dsimp only at hSw); first | (go_simp; done) | (go_simp; with_reducible rfl)
              try simp only [Act.put, List.getElem_toArray, List.getElem_cons_succ, List.getElem_cons_zero, List.setIfInBounds_toArray, List.set_cons_zero, List.set_cons_succ]
              refine Runs.cons (v := ?_) rfl rfl (Or.inl ⟨by rfl, ?_⟩) ?_
              rotate_left
              · intro w hSw; (try dsimp only at hSw); first | (go_simp; done) | (go_simp; with_reducible rfl)
              try simp only [Act.put, List.getElem_toArray, List.getElem_cons_succ, List.getElem_cons_zero, List.setIfInBounds_toArray, List.set_cons_zero, List.set_cons_succ]
              refine Runs.cons (v := ?_) rfl rfl (Or.inl ⟨by rfl, ?_⟩) ?_
              rotate_left
              · intro w hSw; (try dsimp only at hSw); first | (go_simp; done) | (go_simp; with_reducible rfl)
              try simp only [Act.put, List.getElem_toArray, List.getElem_cons_succ, List.getElem_cons_zero, List.setIfInBounds_toArray, List.set_cons_zero, List.set_cons_succ]
              refine Runs.cons (v := ?_) rfl rfl (Or.inl ⟨by rfl, ?_⟩) ?_
              rotate_left
              · intro w hSw; (try dsimp only at hSw); first | (go_simp; done) | (go_simp; with_reducible rfl)
              try simp only [Act.put, List.getElem_toArray, List.getElem_cons_succ, List.getElem_cons_zero, List.setIfInBounds_toArray, List.set_cons_zero, List.set_cons_succ]
              refine Runs.cons (v := ?_) rfl rfl (Or.inl ⟨by rfl, ?_⟩) ?_
              rotate_left
              · intro w hSw; (try dsimp only at hSw); first | (go_simp; done) | (go_simp; with_reducible rfl)
              try simp only [Act.put, List.getElem_toArray, List.getElem_cons_succ, List.getElem_cons_zero, List.setIfInBounds_toArray, List.set_cons_zero, List.set_cons_succ]
              exact Runs.nil
            refine wpAnyT_dead [(36, true)] [37, 38, 39, 40, 41, 42, 43, 44, 45, 46, 47, 48, 49, 50, 51, 52, 53, 54, 55, 56, 57, 58, 59, 60, 61, 62, 63, 64, 65, 66, 67, 68, 69, 70, 71, 72, 73, 74, 75, 76, 77, 78, 79, 80] 161 [false, false, false, false, false, false, false, false, false, false, false, false, false, false, false, false, false, false, false, false, false, false, false, false, false, false, false, false, false, false, false, false, false, false, false, false, false, false, false, false, false, false, false, false, false, false, false, false, false, false, false, false, false, false, false, false, false, false, false, false, false, false, false, false, false, false, false, false, false, false, false, false, false, false, false, false, false, false, false, false, false, false, false, false, false, false, false, false, false, false, false, false, false, false, false, false, false, false, false, false, false, false, false, false, false, false, false, false, false, false, false, false, false, true, true, true, true, true, true, true, true, true, true, true, true, true, true, true, true, true, true, true, true, true, true, true, true, true, true, true, true, true, true, true, true, true, true, true, true, true, true, true, true, true, true, true, true, false, false, false, false] _ 3 _ _ _ (by decide +kernel) (fun _ _ _ _ _ h => h) (by decide +kernel) (by decide +kernel) (by decide +kernel) ⟨(by first | exact Or.inl rfl | exact Or.inr rfl), trivial⟩ (by assumption) ?_
            simp only [maskV_t, maskV_f, maskV_n]
            refine wpAnyT_many (by decide +kernel) (fun _ _ _ _ _ h => h) [81, 82] _ 1 _ ?bb5 _ (by decide +kernel) ?hr5 (by assumption) ?hk5
            case hr5 =>
              refine Runs.cons (v := ?_) rfl rfl (Or.inl ⟨by rfl, ?_⟩) ?_
              rotate_left
              · intro w hSw; (try dsimp only at hSw); first | (go_simp; done) | (go_simp; with_reducible rfl)
              try simp only [Act.put, List.getElem_toArray, List.getElem_cons_succ, List.getElem_cons_zero, List.setIfInBounds_toArray, List.set_cons_zero, List.set_cons_succ]
              refine Runs.cons (v := ?_) rfl rfl (Or.inl ⟨by rfl, ?_⟩) ?_
              rotate_left
              · intro w hSw; (try dsimp only at hSw); first | (go_simp; done) | (go_simp; with_reducible rfl)
              try simp only [Act.put, List.getElem_toArray, List.getElem_cons_succ, List.getElem_cons_zero, List.setIfInBounds_toArray, List.set_cons_zero, List.set_cons_succ]
              exact Runs.nil
            refine wpAnyT_last (i := 83) (by kernel_rfl) (by kernel_rfl) rfl (by kernel_rfl) (fun K hK => ?_)
            go_simp
            refine hK.out _ _ ?_
            clear hK K
            try simp only [Act.put, List.getElem_toArray, List.getElem_cons_succ, List.getElem_cons_zero, List.setIfInBounds_toArray, List.set_cons_zero, List.set_cons_succ]
            clear hHeld
            go_wp2
            go_roundw
            case rel => exact ⟨k + 1, _, by omega, by go_num, rfl⟩
            case measure => simp [intOf]; omega
        ·
          as_aux_lemma =>
            have e5 : (r1 + 1 == r1) = false := by
              rw [beq_eq_false_iff_ne]; omega
            have e6 : decide (c < t1 + s1 + s) = true := by simpa using hgt
            clear hgt
            go_upto_region 10 with fail
            refine wp_region_T (S := (fun w' => w'.cell? ⟨b, o + k * 3, none⟩ = some (.int .i64 (r1 + 1)) ∧ w'.cell? ⟨b, o + k * 3 + 1, none⟩ = some (.int .i64 0) ∧ w'.cell? ⟨b, o + k * 3 + 2, none⟩ = some (.int .i64 s) ∧ w'.cell? ⟨b, o + p * 3, none⟩ = some (.int .i64 r1) ∧ w'.cell? ⟨b, o + p * 3 + 1, none⟩ = some (.int .i64 t1) ∧ w'.cell? ⟨b, o + p * 3 + 2, none⟩ = some (.int .i64 s1))) 48 (by kernel_rfl) (⟨x0, x1, x2, y0, y1, y2⟩) (fun hHeld => ?_)
            refine wpAnyT_many (by decide +kernel) (fun _ _ _ _ _ h => h) [0, 1, 2, 3, 4, 5, 6, 7, 8, 9, 10, 11, 12, 13, 14, 15, 16, 17, 18, 19, 20, 21, 22, 23, 24, 25, 26, 27, 28, 29, 30, 31, 32, 33, 34, 35, 36, 37, 38, 39, 40, 41, 42, 43, 44, 45, 46, 47] _ 1 _ ?bb6 _ (by decide +kernel) ?hr6 (by assumption) ?hk6
            case hr6 =>
              refine Runs.cons (v := ?_) rfl rfl (Or.inl ⟨by rfl, ?_⟩) ?_
              rotate_left
              · intro w hSw; (try dsimp only at hSw); first | (go_simp; done) | (go_simp; with_reducible rfl)
              try simp only [Act.put, List.getElem_toArray, List.getElem_cons_succ, List.getElem_cons_zero, List.setIfInBounds_toArray, List.set_cons_zero, List.set_cons_succ]
              refine Runs.cons (v := ?_) rfl rfl (Or.inl ⟨by rfl, ?_⟩) ?_
              rotate_left
              · intro w hSw; (try dsimp only at hSw); first | (go_simp; done) | (go_simp; with_reducible rfl)
              try simp only [Act.put, List.getElem_toArray, List.getElem_cons_succ, List.getElem_cons_zero, List.setIfInBounds_toArray, List.set_cons_zero, List.set_cons_succ]
              refine Runs.cons (v := ?_) rfl rfl (Or.inl ⟨by rfl, ?_⟩) ?_
              rotate_left
              · intro w hSw; (try dsimp only at hSw); first | (go_simp; done) | (go_simp; with_reducible rfl)
              try simp only [Act.put, List.getElem_toArray, List.getElem_cons_succ, List.getElem_cons_zero, List.setIfInBounds_toArray, List.set_cons_zero, List.set_cons_succ]
              refine Runs.cons (v := ?_) rfl rfl (Or.inl ⟨by rfl, ?_⟩) ?_
              rotate_left
              · intro w hSw; (try dsimp only at hSw); first | (go_simp; done) | (go_simp; with_reducible rfl)
              try simp only [Act.put, List.getElem_toArray, List.getElem_cons_succ, List.getElem_cons_zero, List.setIfInBounds_toArray, List.set_cons_zero, List.set_cons_succ]
              refine Runs.cons (v := ?_) rfl rfl (Or.inl ⟨by rfl, ?_⟩) ?_
              rotate_left
              · intro w hSw; (try dsimp only at hSw); first | (go_simp; done) | (go_simp; with_reducible rfl)
              try simp only [Act.put, List.getElem_toArray, List.getElem_cons_succ, List.getElem_cons_zero, List.setIfInBounds_toArray, List.set_cons_zero, List.set_cons_succ]
              refine Runs.cons (v := ?_) rfl rfl (Or.inl ⟨by rfl, ?_⟩) ?_
              rotate_left
              · intro w hSw; (try dsimp only at hSw); first | (go_simp; done) | (go_simp; with_reducible rfl)
              try simp only [Act.put, List.getElem_toArray, List.getElem_cons_succ, List.getElem_cons_zero, List.setIfInBounds_toArray, List.set_cons_zero, List.set_cons_succ]
              refine Runs.cons (v := ?_) rfl rfl (Or.inl ⟨by rfl, ?_⟩) ?_
              rotate_left
              · intro w hSw; (try dsimp only at hSw); first | (go_simp; done) | (go_simp; with_reducible rfl)
              try simp only [Act.put, List.getElem_toArray, List.getElem_cons_succ, List.getElem_cons_zero, List.setIfInBounds_toArray, List.set_cons_zero, List.set_cons_succ]
              refine Runs.cons (v := ?_) rfl rfl (Or.inl ⟨by rfl, ?_⟩) ?_
              rotate_left
              · intro w hSw; (try dsimp only at hSw); first | (go_simp; done) | (go_simp; with_reducible rfl)
              try simp only [Act.put, List.getElem_toArray, List.getElem_cons_succ, List.getElem_cons_zero, List.setIfInBounds_toArray, List.set_cons_zero, List.set_cons_succ]
              refine Runs.cons (v := ?_) rfl rfl (Or.inl ⟨by rfl, ?_⟩) ?_
              rotate_left
              · intro w hSw; (try dsimp only at hSw); first | (go_simp; done) | (go_simp; with_reducible rfl)
              try simp only [Act.put, List.getElem_toArray, List.getElem_cons_succ, List.getElem_cons_zero, List.setIfInBounds_toArray, List.set_cons_zero, List.set_cons_succ]
              refine Runs.cons (v := ?_) rfl rfl (Or.inl ⟨by rfl, ?_⟩) ?_
              rotate_left
              · intro w hSw; (try dsimp only at hSw); first | (go_simp; done) | (go_simp; with_reducible rfl)
              try simp only [Act.put, List.getElem_toArray, List.getElem_cons_succ, List.getElem_cons_zero, List.setIfInBounds_toArray, List.set_cons_zero, List.set_cons_succ]
              refine Runs.cons (v := ?_) rfl rfl (Or.inl ⟨by rfl, ?_⟩) ?_
              rotate_left
              · intro w hSw; (try dsimp only at hSw); first | (go_simp; done) | (go_simp; with_reducible rfl)
              try simp only [Act.put, List.getElem_toArray, List.getElem_cons_succ, List.getElem_cons_zero, List.setIfInBounds_toArray, List.set_cons_zero, List.set_cons_succ]
              refine Runs.cons (v := ?_) rfl rfl (Or.inl ⟨by rfl, ?_⟩) ?_
              rotate_left
              · intro w hSw; (try dsimp only at hSw); first | (go_simp; done) | (go_simp; with_reducible rfl)
              try simp only [Act.put, List.getElem_toArray, List.getElem_cons_succ, List.getElem_cons_zero, List.setIfInBounds_toArray, List.set_cons_zero, List.set_cons_succ]
              refine Runs.cons (v := ?_) rfl rfl (Or.inl ⟨by rfl, ?_⟩) ?_
              rotate_left
              · intro w hSw; (try dsimp only at hSw); first | (go_simp; done) | (go_simp; with_reducible rfl)
              try simp only [Act.put, List.getElem_toArray, List.getElem_cons_succ, List.getElem_cons_zero, List.setIfInBounds_toArray, List.set_cons_zero, List.set_cons_succ]
              refine Runs.cons (v := ?_) rfl rfl (Or.inl ⟨by rfl, ?_⟩) ?_
              rotate_left
              · intro w hSw; (try dsimp only at hSw); first | (go_simp; done) | (go_simp; with_reducible rfl)
              try simp only [Act.put, List.getElem_toArray, List.getElem_cons_succ, List.getElem_cons_zero, List.setIfInBounds_toArray, List.set_cons_zero, List.set_cons_succ]
              refine Runs.cons (v := ?_) rfl rfl (Or.inl ⟨by rfl, ?_⟩) ?_
              rotate_left
              · intro w hSw; (try dsimp only at hSw); first | (go_simp; done) | (go_simp; with_reducible rfl)
              try simp only [Act.put, List.getElem_toArray, List.getElem_cons_succ, List.getElem_cons_zero, List.setIfInBounds_toArray, List.set_cons_zero, List.set_cons_succ]
              refine Runs.cons (v := ?_) rfl rfl (Or.inl ⟨by rfl, ?_⟩) ?_
              rotate_left
              · intro w hSw; (try dsimp only at hSw); first | (go_simp; done) | (go_simp; with_reducible rfl)
              try simp only [Act.put, List.getElem_toArray, List.getElem_cons_succ, List.getElem_cons_zero, List.setIfInBounds_toArray, List.set_cons_zero, List.set_cons_succ]
              refine Runs.cons (v := ?_) rfl rfl (Or.inl ⟨by rfl, ?_⟩) ?_
              rotate_left
              · intro w hSw; (try dsimp only at hSw); first | (go_simp; done) | (go_simp; with_reducible rfl)
              try simp only [Act.put, List.getElem_toArray, List.getElem_cons_succ, List.getElem_cons_zero, List.setIfInBounds_toArray, List.set_cons_zero, List.set_cons_succ]
              refine Runs.cons (v := ?_) rfl rfl (Or.inl ⟨by rfl, ?_⟩) ?_
              rotate_left
              · intro w hSw; (try dsimp only at hSw); first | (go_simp; done) | (go_simp; with_reducible rfl)
              try simp only [Act.put, List.getElem_toArray, List.getElem_cons_succ, List.getElem_cons_zero, List.setIfInBounds_toArray, List.set_cons_zero, List.set_cons_succ]
              refine Runs.cons (v := ?_) rfl rfl (Or.inl ⟨by rfl, ?_⟩) ?_
              rotate_left
              · intro w hSw; (try dsimp only at hSw); first | (go_simp; done) | (go_simp; with_reducible rfl)
              try simp only [Act.put, List.getElem_toArray, List.getElem_cons_succ, List.getElem_cons_zero, List.setIfInBounds_toArray, List.set_cons_zero, List.set_cons_succ]
              refine Runs.cons (v := ?_) rfl rfl (Or.inl ⟨by rfl, ?_⟩) ?_
              rotate_left
              · intro w hSw; (try dsimp only at hSw); first | (go_simp; done) | (go_simp; with_reducible rfl)
              try simp only [Act.put, List.getElem_toArray, List.getElem_cons_succ, List.getElem_cons_zero, List.setIfInBounds_toArray, List.set_cons_zero, List.set_cons_succ]
              refine Runs.cons (v := ?_) rfl rfl (Or.inl ⟨by rfl, ?_⟩) ?_
              rotate_left
              · intro w hSw; (try dsimp only at hSw); first | (go_simp; done) | (go_simp; with_reducible rfl)
              try simp only [Act.put, List.getElem_toArray, List.getElem_cons_succ, List.getElem_cons_zero, List.setIfInBounds_toArray, List.set_cons_zero, List.set_cons_succ]
              refine Runs.cons (v := ?_) rfl rfl (Or.inl ⟨by rfl, ?_⟩) ?_
              rotate_left
              · intro w hSw; (try dsimp only at hSw); first | (go_simp; done) | (go_simp; with_reducible rfl)
              try simp only [Act.put, List.getElem_toArray, List.getElem_cons_succ, List.getElem_cons_zero, List.setIfInBounds_toArray, List.set_cons_zero, List.set_cons_succ]
              refine Runs.cons (v := ?_) rfl rfl (Or.inl ⟨by rfl, ?_⟩) ?_
              rotate_left
              · intro w hSw; (try dsimp only at hSw); first | (go_simp; done) | (go_simp; with_reducible rfl)
              try simp only [Act.put, List.getElem_toArray, List.getElem_cons_succ, List.getElem_cons_zero, List.setIfInBounds_toArray, List.set_cons_zero, List.set_cons_succ]
              refine Runs.cons (v := ?_) rfl rfl (Or.inl ⟨by rfl, ?_⟩) ?_
              rotate_left
              · intro w hSw; (try dsimp only at hSw); first | (go_simp; done) | (go_simp; with_reducible rfl)
              try simp only [Act.put, List.getElem_toArray, List.getElem_cons_succ, List.getElem_cons_zero, List.setIfInBounds_toArray, List.set_cons_zero, List.set_cons_succ]
              refine Runs.cons (v := ?_) rfl rfl (Or.inl ⟨by rfl, ?_⟩) ?_
              rotate_left
              · intro w hSw; (try dsimp only at hSw); first | (go_simp; done) | (go_simp; with_reducible rfl)
              try simp only [Act.put, List.getElem_toArray, List.getElem_cons_succ, List.getElem_cons_zero, List.setIfInBounds_toArray, List.set_cons_zero, List.set_cons_succ]
              refine Runs.cons (v := ?_) rfl rfl (Or.inl ⟨by rfl, ?_⟩) ?_
              rotate_left
              · intro w hSw; (try dsimp only at hSw); first | (go_simp; done) | (go_simp; with_reducible rfl)
              try simp only [Act.put, List.getElem_toArray, List.getElem_cons_succ, List.getElem_cons_zero, List.setIfInBounds_toArray, List.set_cons_zero, List.set_cons_succ]
              refine Runs.cons (v := ?_) rfl rfl (Or.inl ⟨by rfl, ?_⟩) ?_
              rotate_left
              · intro w hSw; (try dsimp only at hSw); first | (go_simp; done) | (go_simp; with_reducible rfl)
              try simp only [Act.put, List.getElem_toArray, List.getElem_cons_succ, List.getElem_cons_zero, List.setIfInBounds_toArray, List.set_cons_zero, List.set_cons_succ]
              refine Runs.cons (v := ?_) rfl rfl (Or.inl ⟨by rfl, ?_⟩) ?_
              rotate_left
              · intro w hSw; (try dsimp only at hSw); first | (go_simp; done) | (go_simp; with_reducible rfl)
              try simp only [Act.put, List.getElem_toArray, List.getElem_cons_succ, List.getElem_cons_zero, List.setIfInBounds_toArray, List.set_cons_zero, List.set_cons_succ]
              refine Runs.cons (v := ?_) rfl rfl (Or.inl ⟨by rfl, ?_⟩) ?_
              rotate_left
              · intro w hSw; (try dsimp only at hSw); first | (go_simp; done) | (go_simp; with_reducible rfl)
              try simp only [Act.put, List.getElem_toArray, List.getElem_cons_succ, List.getElem_cons_zero, List.setIfInBounds_toArray, List.set_cons_zero, List.set_cons_succ]
              refine Runs.cons (v := ?_) rfl rfl (Or.inl ⟨by rfl, ?_⟩) ?_
              rotate_left
              · intro w hSw; (try dsimp only at hSw); first | (go_simp; done) | (go_simp; with_reducible rfl)
              try simp only [Act.put, List.getElem_toArray, List.getElem_cons_succ, List.getElem_cons_zero, List.setIfInBounds_toArray, List.set_cons_zero, List.set_cons_succ]
              refine Runs.cons (v := ?_) rfl rfl (Or.inl ⟨by rfl, ?_⟩) ?_
              rotate_left
              · intro w hSw; (try dsimp only at hSw); first | (go_simp; done) | (go_simp; with_reducible rfl)
              try simp only [Act.put, List.getElem_toArray, List.getElem_cons_succ, List.getElem_cons_zero, List.setIfInBounds_toArray, List.set_cons_zero, List.set_cons_succ]
              refine Runs.cons (v := ?_) rfl rfl (Or.inl ⟨by rfl, ?_⟩) ?_
              rotate_left
              · intro w hSw; (try dsimp only at hSw); first | (go_simp; done) | (go_simp; with_reducible rfl)
              try simp only [Act.put, List.getElem_toArray, List.getElem_cons_succ, List.getElem_cons_zero, List.setIfInBounds_toArray, List.set_cons_zero, List.set_cons_succ]
              refine Runs.cons (v := ?_) rfl rfl (Or.inl ⟨by rfl, ?_⟩) ?_
              rotate_left
              · intro w hSw; (try dsimp only at hSw); first | (go_simp; done) | (go_simp; with_reducible rfl)
              try simp only [Act.put, List.getElem_toArray, List.getElem_cons_succ, List.getElem_cons_zero, List.setIfInBounds_toArray, List.set_cons_zero, List.set_cons_succ]
              refine Runs.cons (v := undef) rfl rfl (Or.inr ⟨by rfl, rfl⟩) ?_
              try simp only [Act.put, List.getElem_toArray, List.getElem_cons_succ, List.getElem_cons_zero, List.setIfInBounds_toArray, List.set_cons_zero, List.set_cons_succ]
              refine Runs.cons (v := undef) rfl rfl (Or.inr ⟨by rfl, rfl⟩) ?_
              try simp only [Act.put, List.getElem_toArray, List.getElem_cons_succ, List.getElem_cons_zero, List.setIfInBounds_toArray, List.set_cons_zero, List.set_cons_succ]
              refine Runs.cons (v := undef) rfl rfl (Or.inr ⟨by rfl, rfl⟩) ?_
              try simp only [Act.put, List.getElem_toArray, List.getElem_cons_succ, List.getElem_cons_zero, List.setIfInBounds_toArray, List.set_cons_zero, List.set_cons_succ]
              refine Runs.cons (v := undef) rfl rfl (Or.inr ⟨by rfl, rfl⟩) ?_
              try simp only [Act.put, List.getElem_toArray, List.getElem_cons_succ, List.getElem_cons_zero, List.setIfInBounds_toArray, List.set_cons_zero, List.set_cons_succ]
              refine Runs.cons (v := undef) rfl rfl (Or.inr ⟨by rfl, rfl⟩) ?_
              try simp only [Act.put, List.getElem_toArray, List.getElem_cons_succ, List.getElem_cons_zero, List.setIfInBounds_toArray, List.set_cons_zero, List.set_cons_succ]
              refine Runs.cons (v := undef) rfl rfl (Or.inr ⟨by rfl, rfl⟩) ?_
              try simp only [Act.put, List.getElem_toArray, List.getElem_cons_succ, List.getElem_cons_zero, List.setIfInBounds_toArray, List.set_cons_zero, List.set_cons_succ]
              refine Runs.cons (v := undef) rfl rfl (Or.inr ⟨by rfl, rfl⟩) ?_
              try simp only [Act.put, List.getElem_toArray, List.getElem_cons_succ, List.getElem_cons_zero, List.setIfInBounds_toArray, List.set_cons_zero, List.set_cons_succ]
              refine Runs.cons (v := undef) rfl rfl (Or.inr ⟨by rfl, rfl⟩) ?_
              try simp only [Act.put, List.getElem_toArray, List.getElem_cons_succ, List.getElem_cons_zero, List.setIfInBounds_toArray, List.set_cons_zero, List.set_cons_succ]
              refine Runs.cons (v := undef) rfl rfl (Or.inr ⟨by rfl, rfl⟩) ?_
              try simp only [Act.put, List.getElem_toArray, List.getElem_cons_succ, List.getElem_cons_zero, List.setIfInBounds_toArray, List.set_cons_zero, List.set_cons_succ]
              refine Runs.cons (v := undef) rfl rfl (Or.inr ⟨by rfl, rfl⟩) ?_
              try simp only [Act.put, List.getElem_toArray, List.getElem_cons_succ, List.getElem_cons_zero, List.setIfInBounds_toArray, List.set_cons_zero, List.set_cons_succ]
              refine Runs.cons (v := undef) rfl rfl (Or.inr ⟨by rfl, rfl⟩) ?_
              try simp only [Act.put, List.getElem_toArray, List.getElem_cons_succ, List.getElem_cons_zero, List.setIfInBounds_toArray, List.set_cons_zero, List.set_cons_succ]
              refine Runs.cons (v := undef) rfl rfl (Or.inr ⟨by rfl, rfl⟩) ?_
              try simp only [Act.put, List.getElem_toArray, List.getElem_cons_succ, List.getElem_cons_zero, List.setIfInBounds_toArray, List.set_cons_zero, List.set_cons_succ]
              refine Runs.cons (v := undef) rfl rfl (Or.inr ⟨by rfl, rfl⟩) ?_
              try simp only [Act.put, List.getElem_toArray, List.getElem_cons_succ, List.getElem_cons_zero, List.setIfInBounds_toArray, List.set_cons_zero, List.set_cons_succ]
              refine Runs.cons (v := undef) rfl rfl (Or.inr ⟨by rfl, rfl⟩) ?_
              try simp only [Act.put, List.getElem_toArray, List.getElem_cons_succ, List.getElem_cons_zero, List.setIfInBounds_toArray, List.set_cons_zero, List.set_cons_succ]
              refine Runs.cons (v := ?_) rfl rfl (Or.inl ⟨by rfl, ?_⟩) ?_
              rotate_left
              · intro w hSw; (try dsimp only at hSw); first | (go_simp; done) | (go_simp; with_reducible rfl)
              try simp only [Act.put, List.getElem_toArray, List.getElem_cons_succ, List.getElem_cons_zero, List.setIfInBounds_toArray, List.set_cons_zero, List.set_cons_succ]
              exact Runs.nil
            refine wpAnyT_last (i := 48) (by kernel_rfl) (by kernel_rfl) rfl (by kernel_rfl) (fun K hK => ?_)
            go_simp
            refine hK.out _ _ ?_
            clear hK K
            try simp only [Act.put, List.getElem_toArray, List.getElem_cons_succ, List.getElem_cons_zero, List.setIfInBounds_toArray, List.set_cons_zero, List.set_cons_succ]
            clear hHeld e0 e1 e2 hw1
            go_upto_region 12 with fail
            refine wp_region_T (S := (fun w' => w'.cell? ⟨b, o + k * 3, none⟩ = some (.int .i64 (r1 + 1)) ∧ w'.cell? ⟨b, o + k * 3 + 1, none⟩ = some (.int .i64 0) ∧ w'.cell? ⟨b, o + k * 3 + 2, none⟩ = some (.int .i64 s) ∧ w'.cell? ⟨b, o + p * 3, none⟩ = some (.int .i64 r1) ∧ w'.cell? ⟨b, o + p * 3 + 1, none⟩ = some (.int .i64 t1) ∧ w'.cell? ⟨b, o + p * 3 + 2, none⟩ = some (.int .i64 s1))) 83 (by kernel_rfl) (⟨x0, x1, x2, y0, y1, y2⟩) (fun hHeld => ?_)
            refine wpAnyT_many (by decide +kernel) (fun _ _ _ _ _ h => h) [0, 1, 2, 3, 4, 5, 6, 7, 8, 9, 10, 11, 12, 13, 14, 15] _ 68 _ ?bb7 _ (by decide +kernel) ?hr7 (by assumption) ?hk7
            case hr7 =>
              refine Runs.cons (v := ?_) rfl rfl (Or.inl ⟨by rfl, ?_⟩) ?_
              rotate_left
              · intro w hSw; (try dsimp only at hSw); first | (go_simp; done) | (go_simp; with_reducible rfl)
              try simp only [Act.put, List.getElem_toArray, List.getElem_cons_succ, List.getElem_cons_zero, List.setIfInBounds_toArray, List.set_cons_zero, List.set_cons_succ]
              refine Runs.cons (v := ?_) rfl rfl (Or.inl ⟨by rfl, ?_⟩) ?_
              rotate_left
              · intro w hSw; (try dsimp only at hSw); first | (go_simp; done) | (go_simp; with_reducible rfl)
              try simp only [Act.put, List.getElem_toArray, List.getElem_cons_succ, List.getElem_cons_zero, List.setIfInBounds_toArray, List.set_cons_zero, List.set_cons_succ]
              refine Runs.cons (v := ?_) rfl rfl (Or.inl ⟨by rfl, ?_⟩) ?_
              rotate_left
              · intro w hSw; (try dsimp only at hSw); first | (go_simp; done) | (go_simp; with_reducible rfl)
              try simp only [Act.put, List.getElem_toArray, List.getElem_cons_succ, List.getElem_cons_zero, List.setIfInBounds_toArray, List.set_cons_zero, List.set_cons_succ]
              refine Runs.cons (v := ?_) rfl rfl (Or.inl ⟨by rfl, ?_⟩) ?_
              rotate_left
              · intro w hSw; (try dsimp only at hSw); first | (go_simp; done) | (go_simp; with_reducible rfl)
              try simp only [Act.put, List.getElem_toArray, List.getElem_cons_succ, List.getElem_cons_zero, List.setIfInBounds_toArray, List.set_cons_zero, List.set_cons_succ]
              refine Runs.cons (v := ?_) rfl rfl (Or.inl ⟨by rfl, ?_⟩) ?_
              rotate_left
              · intro w hSw; (try dsimp only at hSw); first | (go_simp; done) | (go_simp; with_reducible rfl)
              try simp only [Act.put, List.getElem_toArray, List.getElem_cons_succ, List.getElem_cons_zero, List.setIfInBounds_toArray, List.set_cons_zero, List.set_cons_succ]
              refine Runs.cons (v := ?_) rfl rfl (Or.inl ⟨by rfl, ?_⟩) ?_
              rotate_left
              · intro w hSw; (try dsimp only at hSw); first | (go_simp; done) | (go_simp; with_reducible rfl)
              try simp only [Act.put, List.getElem_toArray, List.getElem_cons_succ, List.getElem_cons_zero, List.setIfInBounds_toArray, List.set_cons_zero, List.set_cons_succ]
              refine Runs.cons (v := ?_) rfl rfl (Or.inl ⟨by rfl, ?_⟩) ?_
              rotate_left
              · intro w hSw; (try dsimp only at hSw); first | (go_simp; done) | (go_simp; with_reducible rfl)
              try simp only [Act.put, List.getElem_toArray, List.getElem_cons_succ, List.getElem_cons_zero, List.setIfInBounds_toArray, List.set_cons_zero, List.set_cons_succ]
              refine Runs.cons (v := ?_) rfl rfl (Or.inl ⟨by rfl, ?_⟩) ?_
              rotate_left
              · intro w hSw; (try dsimp only at hSw); first | (go_simp; done) | (go_simp; with_reducible rfl)
              try simp only [Act.put, List.getElem_toArray, List.getElem_cons_succ, List.getElem_cons_zero, List.setIfInBounds_toArray, List.set_cons_zero, List.set_cons_succ]
              refine Runs.cons (v := ?_) rfl rfl (Or.inl ⟨by rfl, ?_⟩) ?_
              rotate_left
              · intro w hSw; (try dsimp only at hSw); first | (go_simp; done) | (go_simp; with_reducible rfl)
              try simp only [Act.put, List.getElem_toArray, List.getElem_cons_succ, List.getElem_cons_zero, List.setIfInBounds_toArray, List.set_cons_zero, List.set_cons_succ]
              refine Runs.cons (v := ?_) rfl rfl (Or.inl ⟨by rfl, ?_⟩) ?_
              rotate_left
              · intro w hSw; (try dsimp only at hSw); first | (go_simp; done) | (go_simp; with_reducible rfl)
              try simp only [Act.put, List.getElem_toArray, List.getElem_cons_succ, List.getElem_cons_zero, List.setIfInBounds_toArray, List.set_cons_zero, List.set_cons_succ]
              refine Runs.cons (v := ?_) rfl rfl (Or.inl ⟨by rfl, ?_⟩) ?_
              rotate_left
              · intro w hSw; (try dsimp only at hSw); first | (go_simp; done) | (go_simp; with_reducible rfl)
              try simp only [Act.put, List.getElem_toArray, List.getElem_cons_succ, List.getElem_cons_zero, List.setIfInBounds_toArray, List.set_cons_zero, List.set_cons_succ]
              refine Runs.cons (v := ?_) rfl rfl (Or.inl ⟨by rfl, ?_⟩) ?_
              rotate_left
              · intro w hSw; (try dsimp only at hSw); first | (go_simp; done) | (go_simp; with_reducible rfl)
              try simp only [Act.put, List.getElem_toArray, List.getElem_cons_succ, List.getElem_cons_zero, List.setIfInBounds_toArray, List.set_cons_zero, List.set_cons_succ]
              refine Runs.cons (v := ?_) rfl rfl (Or.inl ⟨by rfl, ?_⟩) ?_
              rotate_left
              · intro w hSw; (try dsimp only at hSw); first | (go_simp; done) | (go_simp; with_reducible rfl)
              try simp only [Act.put, List.getElem_toArray, List.getElem_cons_succ, List.getElem_cons_zero, List.setIfInBounds_toArray, List.set_cons_zero, List.set_cons_succ]
              refine Runs.cons (v := ?_) rfl rfl (Or.inl ⟨by rfl, ?_⟩) ?_
              rotate_left
              · intro w hSw; (try dsimp only at hSw); first | (go_simp; done) | (go_simp; with_reducible rfl)
              try simp only [Act.put, List.getElem_toArray, List.getElem_cons_succ, List.getElem_cons_zero, List.setIfInBounds_toArray, List.set_cons_zero, List.set_cons_succ]
              refine Runs.cons (v := ?_) rfl rfl (Or.inl ⟨by rfl, ?_⟩) ?_
              rotate_left
              · intro w hSw; (try dsimp only at hSw); first | (go_simp; done) | (go_simp; with_reducible rfl)
              try simp only [Act.put, List.getElem_toArray, List.getElem_cons_succ, List.getElem_cons_zero, List.setIfInBounds_toArray, List.set_cons_zero, List.set_cons_succ]
              refine Runs.cons (v := ?_) rfl rfl (Or.inl ⟨by rfl, ?_⟩) ?_
              rotate_left
              · intro w hSw; (try dsimp only at hSw); first | (go_simp; done) | (go_simp; with_reducible rfl)
              try simp only [Act.put, List.getElem_toArray, List.getElem_cons_succ, List.getElem_cons_zero, List.setIfInBounds_toArray, List.set_cons_zero, List.set_cons_succ]
              exact Runs.nil
            refine wpAnyT_dead [(15, false)] [16, 17, 18, 19, 20, 21, 22, 23, 24, 25, 26, 27, 28, 29, 30, 31, 32, 33, 34] 161 [false, false, false, false, false, false, false, false, false, false, false, false, false, false, false, false, false, false, false, false, false, false, false, false, false, false, false, false, false, false, false, false, false, false, false, false, false, false, false, false, false, false, false, false, false, false, false, false, false, false, false, false, false, false, false, false, false, false, false, false, false, false, false, false, false, false, false, false, false, false, false, false, false, false, false, false, false, false, false, false, false, false, false, false, false, false, false, false, false, false, false, false, true, true, true, true, true, true, true, true, true, true, true, true, true, true, true, true, true, true, true, false, false, false, false, false, false, false, false, false, false, false, false, false, false, false, false, false, false, false, false, false, false, false, false, false, false, false, false, false, false, false, false, false, false, false, false, false, false, false, false, false, false, false, false, false, false, false, false, false, false] _ 49 _ _ _ (by decide +kernel) (fun _ _ _ _ _ h => h) (by decide +kernel) (by decide +kernel) (by decide +kernel) ⟨(by first | exact Or.inl rfl | exact Or.inr rfl), trivial⟩ (by assumption) ?_
            simp only [maskV_t, maskV_f, maskV_n]
            refine wpAnyT_many (by decide +kernel) (fun _ _ _ _ _ h => h) [35, 36, 37, 38, 39, 40, 41, 42, 43, 44, 45, 46, 47, 48, 49, 50, 51, 52, 53, 54, 55, 56, 57, 58, 59, 60, 61, 62, 63, 64, 65, 66, 67, 68, 69, 70, 71, 72, 73, 74, 75, 76, 77, 78, 79, 80, 81, 82] _ 1 _ ?bb8 _ (by decide +kernel) ?hr8 (by assumption) ?hk8
            case hr8 =>
              refine Runs.cons (v := ?_) rfl rfl (Or.inl ⟨by rfl, ?_⟩) ?_
              rotate_left
              · intro w hSw; (try dsimp only at hSw); first | (go_simp; done) | (go_simp; with_reducible rfl)
              try simp only [Act.put, List.getElem_toArray, List.getElem_cons_succ, List.getElem_cons_zero, List.setIfInBounds_toArray, List.set_cons_zero, List.set_cons_succ]
              refine Runs.cons (v := ?_) rfl rfl (Or.inl ⟨by rfl, ?_⟩) ?_
              rotate_left
              · intro w hSw; (try dsimp only at hSw); first | (go_simp; done) | (go_simp; with_reducible rfl)
              try simp only [Act.put, List.getElem_toArray, List.getElem_cons_succ, List.getElem_cons_zero, List.setIfInBounds_toArray, List.set_cons_zero, List.set_cons_succ]
              refine Runs.cons (v := ?_) rfl rfl (Or.inl ⟨by rfl, ?_⟩) ?_
              rotate_left
              · intro w hSw; (try dsimp only at hSw); first | (go_simp; done) | (go_simp; with_reducible rfl)
              try simp only [Act.put, List.getElem_toArray, List.getElem_cons_succ, List.getElem_cons_zero, List.setIfInBounds_toArray, List.set_cons_zero, List.set_cons_succ]
              refine Runs.cons (v := ?_) rfl rfl (Or.inl ⟨by rfl, ?_⟩) ?_
              rotate_left
              · intro w hSw; (try dsimp only at hSw); first | (go_simp; done) | (go_simp; with_reducible rfl)
              try simp only [Act.put, List.getElem_toArray, List.getElem_cons_succ, List.getElem_cons_zero, List.setIfInBounds_toArray, List.set_cons_zero, List.set_cons_succ]
              refine Runs.cons (v := ?_) rfl rfl (Or.inl ⟨by rfl, ?_⟩) ?_
              rotate_left
              · intro w hSw; (try dsimp only at hSw); first | (go_simp; done) | (go_simp; with_reducible rfl)
              try simp only [Act.put, List.getElem_toArray, List.getElem_cons_succ, List.getElem_cons_zero, List.setIfInBounds_toArray, List.set_cons_zero, List.set_cons_succ]
              refine Runs.cons (v := ?_) rfl rfl (Or.inl ⟨by rfl, ?_⟩) ?_
              rotate_left
              · intro w hSw; (try dsimp only at hSw); first | (go_simp; done) | (go_simp; with_reducible rfl)
              try simp only [Act.put, List.getElem_toArray, List.getElem_cons_succ, List.getElem_cons_zero, List.setIfInBounds_toArray, List.set_cons_zero, List.set_cons_succ]
              refine Runs.cons (v := ?_) rfl rfl (Or.inl ⟨by rfl, ?_⟩) ?_
              rotate_left
              · intro w hSw; (try dsimp only at hSw); first | (go_simp; done) | (go_simp; with_reducible rfl)
              try simp only [Act.put, List.getElem_toArray, List.getElem_cons_succ, List.getElem_cons_zero, List.setIfInBounds_toArray, List.set_cons_zero, List.set_cons_succ]
              refine Runs.cons (v := ?_) rfl rfl (Or.inl ⟨by rfl, ?_⟩) ?_
              rotate_left
              · intro w hSw; (try dsimp only at hSw); first | (go_simp; done) | (go_simp; with_reducible rfl)
              try simp only [Act.put, List.getElem_toArray, List.getElem_cons_succ, List.getElem_cons_zero, List.setIfInBounds_toArray, List.set_cons_zero, List.set_cons_succ]
              refine Runs.cons (v := ?_) rfl rfl (Or.inl ⟨by rfl, ?_⟩) ?_
              rotate_left
              · intro w hSw; (try dsimp only at hSw); first | (go_simp; done) | (go_simp; with_reducible rfl)
              try simp only [Act.put, List.getElem_toArray, List.getElem_cons_succ, List.getElem_cons_zero, List.setIfInBounds_toArray, List.set_cons_zero, List.set_cons_succ]
              refine Runs.cons (v := ?_) rfl rfl (Or.inl ⟨by rfl, ?_⟩) ?_
              rotate_left
              · intro w hSw; (try dsimp only at hSw); first | (go_simp; done) | (go_simp; with_reducible rfl)
              try simp only [Act.put, List.getElem_toArray, List.getElem_cons_succ, List.getElem_cons_zero, List.setIfInBounds_toArray, List.set_cons_zero, List.set_cons_succ]
              refine Runs.cons (v := ?_) rfl rfl (Or.inl ⟨by rfl, ?_⟩) ?_
              rotate_left
              · intro w hSw; (try dsimp only at hSw); first | (go_simp; done) | (go_simp; with_reducible rfl)
              try simp only [Act.put, List.getElem_toArray, List.getElem_cons_succ, List.getElem_cons_zero, List.setIfInBounds_toArray, List.set_cons_zero, List.set_cons_succ]
              refine Runs.cons (v := ?_) rfl rfl (Or.inl ⟨by rfl, ?_⟩) ?_
              rotate_left
              · intro w hSw; (try dsimp only at hSw); first | (go_simp; done) | (go_simp; with_reducible rfl)
              try simp only [Act.put, List.getElem_toArray, List.getElem_cons_succ, List.getElem_cons_zero, List.setIfInBounds_toArray, List.set_cons_zero, List.set_cons_succ]
              refine Runs.cons (v := ?_) rfl rfl (Or.inl ⟨by rfl, ?_⟩) ?_
              rotate_left
              · intro w hSw; (try dsimp only at hSw); first | (go_simp; done) | (go_simp; with_reducible rfl)
              try simp only [Act.put, List.getElem_toArray, List.getElem_cons_succ, List.getElem_cons_zero, List.setIfInBounds_toArray, List.set_cons_zero, List.set_cons_succ]
              refine Runs.cons (v := ?_) rfl rfl (Or.inl ⟨by rfl, ?_⟩) ?_
              rotate_left
              · intro w hSw; (try dsimp only at hSw); first | (go_simp; done) | (go_simp; with_reducible rfl)
              try simp only [Act.put, List.getElem_toArray, List.getElem_cons_succ, List.getElem_cons_zero, List.setIfInBounds_toArray, List.set_cons_zero, List.set_cons_succ]
              refine Runs.cons (v := ?_) rfl rfl (Or.inl ⟨by rfl, ?_⟩) ?_
              rotate_left
              · intro w hSw; (try dsimp only at hSw); first | (go_simp; done) | (go_simp; with_reducible rfl)
              try simp only [Act.put, List.getElem_toArray, List.getElem_cons_succ, List.getElem_cons_zero, List.setIfInBounds_toArray, List.set_cons_zero, List.set_cons_succ]
              refine Runs.cons (v := ?_) rfl rfl (Or.inl ⟨by rfl, ?_⟩) ?_
              rotate_left
              · intro w hSw; (try dsimp only at hSw); first | (go_simp; done) | (go_simp; with_reducible rfl)
              try simp only [Act.put, List.getElem_toArray, List.getElem_cons_succ, List.getElem_cons_zero, List.setIfInBounds_toArray, List.set_cons_zero, List.set_cons_succ]
              refine Runs.cons (v := ?_) rfl rfl (Or.inl ⟨by rfl, ?_⟩) ?_
              rotate_left
              · intro w hSw; (try dsimp only at hSw); first | (go_simp; done) | (go_simp; with_reducible rfl)
              try simp only [Act.put, List.getElem_toArray, List.getElem_cons_succ, List.getElem_cons_zero, List.setIfInBounds_toArray, List.set_cons_zero, List.set_cons_succ]
              refine Runs.cons (v := ?_) rfl rfl (Or.inl ⟨by rfl, ?_⟩) ?_
              rotate_left
              · intro w hSw; (try dsimp only at hSw); first | (go_simp; done) | (go_simp; with_reducible rfl)
              try simp only [Act.put, List.getElem_toArray, List.getElem_cons_succ, List.getElem_cons_zero, List.setIfInBounds_toArray, List.set_cons_zero, List.set_cons_succ]
              refine Runs.cons (v := ?_) rfl rfl (Or.inl ⟨by rfl, ?_⟩) ?_
              rotate_left
              · intro w hSw; (try dsimp only at hSw); first | (go_simp; done) | (go_simp; with_reducible rfl)
              try simp only [Act.put, List.getElem_toArray, List.getElem_cons_succ, List.getElem_cons_zero, List.setIfInBounds_toArray, List.set_cons_zero, List.set_cons_succ]
              refine Runs.cons (v := ?_) rfl rfl (Or.inl ⟨by rfl, ?_⟩) ?_
              rotate_left
              · intro w hSw; (try dsimp only at hSw); first | (go_simp; done) | (go_simp; with_reducible rfl)
              try simp only [Act.put, List.getElem_toArray, List.getElem_cons_succ, List.getElem_cons_zero, List.setIfInBounds_toArray, List.set_cons_zero, List.set_cons_succ]
              refine Runs.cons (v := ?_) rfl rfl (Or.inl ⟨by rfl, ?_⟩) ?_
              rotate_left
              · intro w hSw; (try dsimp only at hSw); first | (go_simp; done) | (go_simp; with_reducible rfl)
              try simp only [Act.put, List.getElem_toArray, List.getElem_cons_succ, List.getElem_cons_zero, List.setIfInBounds_toArray, List.set_cons_zero, List.set_cons_succ]
              refine Runs.cons (v := ?_) rfl rfl (Or.inl ⟨by rfl, ?_⟩) ?_
              rotate_left
              · intro w hSw; (try dsimp only at hSw); first | (go_simp; done) | (go_simp; with_reducible rfl)
              try simp only [Act.put, List.getElem_toArray, List.getElem_cons_succ, List.getElem_cons_zero, List.setIfInBounds_toArray, List.set_cons_zero, List.set_cons_succ]
              refine Runs.cons (v := ?_) rfl rfl (Or.inl ⟨by rfl, ?_⟩) ?_
              rotate_left
              · intro w hSw; (try dsimp only at hSw); first | (go_simp; done) | (go_simp; with_reducible rfl)
              try simp only [Act.put, List.getElem_toArray, List.getElem_cons_succ, List.getElem_cons_zero, List.setIfInBounds_toArray, List.set_cons_zero, List.set_cons_succ]
              refine Runs.cons (v := ?_) rfl rfl (Or.inl ⟨by rfl, ?_⟩) ?_
              rotate_left
              · intro w hSw; (try dsimp only at hSw); first | (go_simp; done) | (go_simp; with_reducible rfl)
              try simp only [Act.put, List.getElem_toArray, List.getElem_cons_succ, List.getElem_cons_zero, List.setIfInBounds_toArray, List.set_cons_zero, List.set_cons_succ]
              refine Runs.cons (v := ?_) rfl rfl (Or.inl ⟨by rfl, ?_⟩) ?_
              rotate_left
              · intro w hSw; (try dsimp only at hSw); first | (go_simp; done) | (go_simp; with_reducible rfl)
              try simp only [Act.put, List.getElem_toArray, List.getElem_cons_succ, List.getElem_cons_zero, List.setIfInBounds_toArray, List.set_cons_zero, List.set_cons_succ]
              refine Runs.cons (v := ?_) rfl rfl (Or.inl ⟨by rfl, ?_⟩) ?_
              rotate_left
              · intro w hSw; (try dsimp only at hSw); first | (go_simp; done) | (go_simp; with_reducible rfl)
              try simp only [Act.put, List.getElem_toArray, List.getElem_cons_succ, List.getElem_cons_zero, List.setIfInBounds_toArray, List.set_cons_zero, List.set_cons_succ]
              refine Runs.cons (v := ?_) rfl rfl (Or.inl ⟨by rfl, ?_⟩) ?_
              rotate_left
              · intro w hSw; (try dsimp only at hSw); first | (go_simp; done) | (go_simp; with_reducible rfl)
              try simp only [Act.put, List.getElem_toArray, List.getElem_cons_succ, List.getElem_cons_zero, List.setIfInBounds_toArray, List.set_cons_zero, List.set_cons_succ]
              refine Runs.cons (v := ?_) rfl rfl (Or.inl ⟨by rfl, ?_⟩) ?_
              rotate_left
              · intro w hSw; (try dsimp only at hSw); first | (go_simp; done) | (go_simp; with_reducible rfl)
              try simp only [Act.put, List.getElem_toArray, List.getElem_cons_succ, List.getElem_cons_zero, List.setIfInBounds_toArray, List.set_cons_zero, List.set_cons_succ]
              refine Runs.cons (v := ?_) rfl rfl (Or.inl ⟨by rfl, ?_⟩) ?_
              rotate_left
              · intro w hSw; (try dsimp only at hSw); first | (go_simp; done) | (go_simp; with_reducible rfl)
              try simp only [Act.put, List.getElem_toArray, List.getElem_cons_succ, List.getElem_cons_zero, List.setIfInBounds_toArray, List.set_cons_zero, List.set_cons_succ]
              refine Runs.cons (v := ?_) rfl rfl (Or.inl ⟨by rfl, ?_⟩) ?_
              rotate_left
              · intro w hSw; (try dsimp only at hSw); first | (go_simp; done) | (go_simp; with_reducible rfl)
              try simp only [Act.put, List.getElem_toArray, List.getElem_cons_succ, List.getElem_cons_zero, List.setIfInBounds_toArray, List.set_cons_zero, List.set_cons_succ]
              refine Runs.cons (v := ?_) rfl rfl (Or.inl ⟨by rfl, ?_⟩) ?_
              rotate_left
              · intro w hSw; (try dsimp only at hSw); first | (go_simp; done) | (go_simp; with_reducible rfl)
              try simp only [Act.put, List.getElem_toArray, List.getElem_cons_succ, List.getElem_cons_zero, List.setIfInBounds_toArray, List.set_cons_zero, List.set_cons_succ]
              refine Runs.cons (v := ?_) rfl rfl (Or.inl ⟨by rfl, ?_⟩) ?_
              rotate_left
              · intro w hSw; (try dsimp only at hSw); first | (go_simp; done) | (go_simp; with_reducible rfl)
              try simp only [Act.put, List.getElem_toArray, List.getElem_cons_succ, List.getElem_cons_zero, List.setIfInBounds_toArray, List.set_cons_zero, List.set_cons_succ]
              refine Runs.cons (v := ?_) rfl rfl (Or.inl ⟨by rfl, ?_⟩) ?_
              rotate_left
              · intro w hSw; (try dsimp only at hSw); first | (go_simp; done) | (go_simp; with_reducible rfl)
              try simp only [Act.put, List.getElem_toArray, List.getElem_cons_succ, List.getElem_cons_zero, List.setIfInBounds_toArray, List.set_cons_zero, List.set_cons_succ]
              refine Runs.cons (v := ?_) rfl rfl (Or.inl ⟨by rfl, ?_⟩) ?_
              rotate_left
              · intro w hSw; (try dsimp only at hSw); first | (go_simp; done) | (go_simp; with_reducible rfl)
              try simp only [Act.put, List.getElem_toArray, List.getElem_cons_succ, List.getElem_cons_zero, List.setIfInBounds_toArray, List.set_cons_zero, List.set_cons_succ]
              refine Runs.cons (v := ?_) rfl rfl (Or.inl ⟨by rfl, ?_⟩) ?_
              rotate_left
              · intro w hSw; (try dsimp only at hSw); first | (go_simp; done) | (go_simp; with_reducible rfl)
              try simp only [Act.put, List.getElem_toArray, List.getElem_cons_succ, List.getElem_cons_zero, List.setIfInBounds_toArray, List.set_cons_zero, List.set_cons_succ]
              refine Runs.cons (v := ?_) rfl rfl (Or.inl ⟨by rfl, ?_⟩) ?_
              rotate_left
              · intro w hSw; (try dsimp only at hSw); first | (go_simp; done) | (go_simp; with_reducible rfl)
              try simp only [Act.put, List.getElem_toArray, List.getElem_cons_succ, List.getElem_cons_zero, List.setIfInBounds_toArray, List.set_cons_zero, List.set_cons_succ]
              refine Runs.cons (v := ?_) rfl rfl (Or.inl ⟨by rfl, ?_⟩) ?_
              rotate_left
              · intro w hSw; (try dsimp only at hSw); first | (go_simp; done) | (go_simp; with_reducible rfl)
              try simp only [Act.put, List.getElem_toArray, List.getElem_cons_succ, List.getElem_cons_zero, List.setIfInBounds_toArray, List.set_cons_zero, List.set_cons_succ]
              refine Runs.cons (v := ?_) rfl rfl (Or.inl ⟨by rfl, ?_⟩) ?_
              rotate_left
              · intro w hSw; (try dsimp only at hSw); first | (go_simp; done) | (go_simp; with_reducible rfl)
              try simp only [Act.put, List.getElem_toArray, List.getElem_cons_succ, List.getElem_cons_zero, List.setIfInBounds_toArray, List.set_cons_zero, List.set_cons_succ]
              refine Runs.cons (v := ?_) rfl rfl (Or.inl ⟨by rfl, ?_⟩) ?_
              rotate_left
              · intro w hSw; (try dsimp only at hSw); first | (go_simp; done) | (go_simp; with_reducible rfl)
              try simp only [Act.put, List.getElem_toArray, List.getElem_cons_succ, List.getElem_cons_zero, List.setIfInBounds_toArray, List.set_cons_zero, List.set_cons_succ]
              refine Runs.cons (v := ?_) rfl rfl (Or.inl ⟨by rfl, ?_⟩) ?_
              rotate_left
              · intro w hSw; (try dsimp only at hSw); first | (go_simp; done) | (go_simp; with_reducible rfl)
              try simp only [Act.put, List.getElem_toArray, List.getElem_cons_succ, List.getElem_cons_zero, List.setIfInBounds_toArray, List.set_cons_zero, List.set_cons_succ]
              refine Runs.cons (v := ?_) rfl rfl (Or.inl ⟨by rfl, ?_⟩) ?_
              rotate_left
              · intro w hSw; (try dsimp only at hSw); first | (go_simp; done) | (go_simp; with_reducible rfl)
              try simp only [Act.put, List.getElem_toArray, List.getElem_cons_succ, List.getElem_cons_zero, List.setIfInBounds_toArray, List.set_cons_zero, List.set_cons_succ]
              refine Runs.cons (v := ?_) rfl rfl (Or.inl ⟨by rfl, ?_⟩) ?_
              rotate_left
              · intro w hSw; (try dsimp only at hSw); first | (go_simp; done) | (go_simp; with_reducible rfl)
              try simp only [Act.put, List.getElem_toArray, List.getElem_cons_succ, List.getElem_cons_zero, List.setIfInBounds_toArray, List.set_cons_zero, List.set_cons_succ]
              refine Runs.cons (v := ?_) rfl rfl (Or.inl ⟨by rfl, ?_⟩) ?_
              rotate_left
              · intro w hSw; (try dsimp only at hSw); first | (go_simp; done) | (go_simp; with_reducible rfl)
              try simp only [Act.put, List.getElem_toArray, List.getElem_cons_succ, List.getElem_cons_zero, List.setIfInBounds_toArray, List.set_cons_zero, List.set_cons_succ]
              refine Runs.cons (v := ?_) rfl rfl (Or.inl ⟨by rfl, ?_⟩) ?_
              rotate_left
              · intro w hSw; (try dsimp only at hSw); first | (go_simp; done) | (go_simp; with_reducible rfl)
              try simp only [Act.put, List.getElem_toArray, List.getElem_cons_succ, List.getElem_cons_zero, List.setIfInBounds_toArray, List.set_cons_zero, List.set_cons_succ]
              refine Runs.cons (v := ?_) rfl rfl (Or.inl ⟨by rfl, ?_⟩) ?_
              rotate_left
              · intro w hSw; (try dsimp only at hSw); first | (go_simp; done) | (go_simp; with_reducible rfl)
              try simp only [Act.put, List.getElem_toArray, List.getElem_cons_succ, List.getElem_cons_zero, List.setIfInBounds_toArray, List.set_cons_zero, List.set_cons_succ]
              refine Runs.cons (v := ?_) rfl rfl (Or.inl ⟨by rfl, ?_⟩) ?_
              rotate_left
              · intro w hSw; (try dsimp only at hSw); first | (go_simp; done) | (go_simp; with_reducible rfl)
              try simp only [Act.put, List.getElem_toArray, List.getElem_cons_succ, List.getElem_cons_zero, List.setIfInBounds_toArray, List.set_cons_zero, List.set_cons_succ]
              refine Runs.cons (v := ?_) rfl rfl (Or.inl ⟨by rfl, ?_⟩) ?_
              rotate_left
              · intro w hSw; (try dsimp only at hSw); first | (go_simp; done) | (go_simp; with_reducible rfl)
              try simp only [Act.put, List.getElem_toArray, List.getElem_cons_succ, List.getElem_cons_zero, List.setIfInBounds_toArray, List.set_cons_zero, List.set_cons_succ]
              refine Runs.cons (v := ?_) rfl rfl (Or.inl ⟨by rfl, ?_⟩) ?_
              rotate_left
              · intro w hSw; (try dsimp only at hSw); first | (go_simp; done) | (go_simp; with_reducible rfl)
              try simp only [Act.put, List.getElem_toArray, List.getElem_cons_succ, List.getElem_cons_zero, List.setIfInBounds_toArray, List.set_cons_zero, List.set_cons_succ]
              exact Runs.nil
            refine wpAnyT_last (i := 83) (by kernel_rfl) (by kernel_rfl) rfl (by kernel_rfl) (fun K hK => ?_)
            go_simp
            refine hK.out _ _ ?_
            clear hK K
            try simp only [Act.put, List.getElem_toArray, List.getElem_cons_succ, List.getElem_cons_zero, List.setIfInBounds_toArray, List.set_cons_zero, List.set_cons_succ]
            clear hHeld
            go_wp2
            go_roundw
            case rel => exact ⟨k + 1, _, by omega, by go_num, rfl⟩
            case measure => simp [intOf]; omega
    · obtain rfl : k = n := by omega
      go_wp2_with (go_at_call 10; refine (awake_any _).mono ?_; rintro e w10 ⟨rfl, hb10⟩)
      go_ret
      exact ⟨rfl, (Below_drewN HB2.out d).trans (hb10.mono HB2.out.size)⟩
end Go.Proofs.Ytadkkkdecejkeaa

