/- demands of package grid, for valid tracks and items. -/
import Derived.Test.YtadkkkdecejkeaaSpread
import Derived.Test.YtadkkkdecejkeaaTail
namespace Go.Proofs.Ytadkkkdecejkeaa
open Go.RowKit
attribute [local go_sem ↓] Go.wp_at_zero Go.wp_at_succ
set_option linter.unusedVariables false
set_option linter.unusedSimpArgs false

theorem fxTo_at {l : List Rec} {n : Nat} : ∀ {k}, k ≤ n → ∀ {i}, i < n → gz (fxTo l n k) i = if i < k ∧ gf l i 0 = 0 then gf l i 1 else 0
  | 0, _, i, _ => by simp [fxTo, gz_replicate]
  | k + 1, hk, i, hi => by
    have ih := fxTo_at (l := l) (n := n) (k := k) (by omega) hi
    simp only [fxTo]
    by_cases hz : gf l k 0 = 0
    · rw [if_pos hz]
      by_cases e : k = i
      · subst e
        rw [gz_set_same _ _ _ (by rw [fxTo_len]; omega), if_pos ⟨by omega, hz⟩]
      · rw [gz_set_other _ _ _ _ e, ih]
        by_cases c : i < k ∧ gf l i 0 = 0
        · rw [if_pos c, if_pos ⟨by omega, c.2⟩]
        · rw [if_neg c, if_neg (fun h => c ⟨by omega, h.2⟩)]
    · rw [if_neg hz, ih]
      by_cases c : i < k ∧ gf l i 0 = 0
      · rw [if_pos c, if_pos ⟨by omega, c.2⟩]
      · rw [if_neg c, if_neg (fun h => by
          by_cases e : i = k
          · subst e; exact hz h.2
          · exact c ⟨by omega, h.2⟩)]
theorem fxTo_dm (l it : List Rec) (c : Nat) : fxTo l l.length l.length = dmL l it c 0 := by
  refine list_ext_gz (by rw [fxTo_len, dmL_len]) fun i hi => ?_
  rw [fxTo_len] at hi
  rw [fxTo_at (Nat.le_refl _) hi, dmL_at hi]
  unfold dmAt
  by_cases hz : gf l i 0 = 0
  · rw [if_pos ⟨hi, hz⟩, if_pos hz]
  · rw [if_neg (fun h => hz h.2), if_neg hz]; rfl
theorem mxTo_at {ls ms : List Int} : ∀ {k}, k ≤ ms.length → ∀ {i}, i < ms.length → gz (mxTo ls ms k) i = if i < k then (if gz ms i < gz ls i then gz ls i else gz ms i) else gz ms i
  | 0, _, i, _ => by simp [mxTo]
  | k + 1, hk, i, hi => by
    have ih := fun i hi => mxTo_at (ls := ls) (ms := ms) (k := k) (by omega) (i := i) hi
    simp only [mxTo]
    by_cases e : k = i
    · subst e
      have e1 : gz (mxTo ls ms k) k = gz ms k := by rw [ih k hi, if_neg (Nat.lt_irrefl _)]
      rw [gz_set_same _ _ _ (by rw [mxTo_len]; exact hi), e1, if_pos (show k < k + 1 by omega)]
    · rw [gz_set_other _ _ _ _ e, ih i hi]
      by_cases c : i < k
      · rw [if_pos c, if_pos (show i < k + 1 by omega)]
      · rw [if_neg c, if_neg (show ¬ i < k + 1 by omega)]
theorem mxTo_up {ls ms : List Int} : mxTo ls ms ms.length = upL ls ms := by
  refine list_ext_gz (by rw [mxTo_len, upL_len]) fun i hi => ?_
  rw [mxTo_len] at hi
  rw [mxTo_at (Nat.le_refl _) hi, if_pos hi, upL_at hi]
section
variable {P Q L M n : Nat} {ls ms xs : List Int} {w w' : World}
theorem OwnV.turn {P a b : Nat} {v : Value} (h : OwnV w P v) (ht : Turn a b w w') (ha : P ≠ a) (hb : P ≠ b) : OwnV w' P v := (ht.block P h.lt ha hb).trans h
theorem OwnI.turn {g a b : Nat} (h : OwnI w g xs) (ht : Turn a b w w') (ha : g ≠ a) (hb : g ≠ b) : OwnI w' g xs := (ht.block g h.lt ha hb).trans h
theorem Rows2.turnL (h : Rows2 P Q L M n ls ms w) (ht : Turn L L w w') (ho : OwnI w' L xs) : Rows2 P Q L M n xs ms w' :=
  ⟨h.p.turn ht h.pl h.pl, h.q.turn ht h.ql h.ql, ho, h.m.turn ht h.lm.symm h.lm.symm, h.pq, h.pl, h.pm, h.ql, h.qm, h.lm⟩
theorem Rows2.turnM (h : Rows2 P Q L M n ls ms w) (ht : Turn M M w w') (ho : OwnI w' M xs) : Rows2 P Q L M n ls xs w' :=
  ⟨h.p.turn ht h.pm h.pm, h.q.turn ht h.qm h.qm, h.l.turn ht h.lm h.lm, ho, h.pq, h.pl, h.pm, h.ql, h.qm, h.lm⟩
theorem Turn.low {a b B : Nat} {u v : World} (h : Turn a b u v) (ha : B ≤ a) (hb : B ≤ b) (hB : B ≤ u.heap.size) : Below B u v := ⟨h.os, h.tape, h.output, h.size, fun k hk => h.block k (by omega) (by omega) (by omega)⟩
end

set_option maxHeartbeats 20000000 in
set_option maxRecDepth 100000 in
theorem demands_any (a ia : Option Addr) (cap n icap q : Nat) (gp : Int) (l it : List Rec) (w : World) (HN : Hid (l.length = n)) (hn : n ≤ 24) (HIQ : Hid (it.length = q)) (hq : q ≤ 100) (hg : 0 ≤ gp ∧ gp ≤ 1048576)
    (HTK : Hid (trksB l = true)) (HIT : Hid (itsB it n = true))
    (H3 : Hid (0 < n → ∃ b off, a = some ⟨b, off, none⟩ ∧ b < w.heap.size ∧ ∀ i, i < n → ∀ j, j < 2 → w.cell? ⟨b, off + i * 2 + j, none⟩ = some (.int .i64 (gf l i j))))
    (HI3 : Hid (0 < q → ∃ b off, ia = some ⟨b, off, none⟩ ∧ b < w.heap.size ∧ ∀ i, i < q → ∀ j, j < 4 → w.cell? ⟨b, off + i * 4 + j, none⟩ = some (.int .i64 (gf it i j)))) :
    Calls Try.prog 29 #[.int .i64 gp, .slice a n cap, .slice ia q icap] w (Demanded n (leastL l it gp) (mostL l it gp) w) := by
  have hn' : (n : Int) ≤ 24 := by omega
  have hq' : (q : Int) ≤ 100 := by omega
  have HG := Lib.hid hg
  have hmk := make_ints n (by omega)
  clear hg
  go_enter Try.func29, Try.ntmps29
  go_upto_region 1 with fail
  go_cut [6] (fun p wx => p = .pointer (some ⟨w.heap.size, 0, none⟩) ∧ ∃ L M, w.heap.size ≤ L ∧ w.heap.size ≤ M ∧ Rows2 w.heap.size (w.heap.size + 1) L M n (fxTo l n 0) (fxTo l n 0) wx ∧ Below w.heap.size w wx)
  case first =>
    as_aux_lemma =>
      go_region
      all_goals go_wp2
      all_goals go_meet
      · have h := rows2_made w n _ _ (.inl ⟨rfl, rfl⟩)
        exact ⟨rfl, _, _, by omega, by omega, h.drew, ((((Below.refl w.heap.size w).alloc (Nat.le_refl _) _).alloc (by simp) _).alloc (by simp; omega) _).alloc (by simp; omega) _ |>.drew⟩
      · have h := rows2_made w n _ _ (.inr ⟨rfl, rfl⟩)
        exact ⟨rfl, _, _, by omega, by omega, h.drew, ((((Below.refl w.heap.size w).alloc (Nat.le_refl _) _).alloc (by simp) _).alloc (by simp; omega) _).alloc (by simp; omega) _ |>.drew⟩
  case rest =>
    obtain ⟨rfl, L, M, hl0, hm0, hr, hbl⟩ := hcut
    obtain ⟨w1, rfl⟩ : ∃ x : World, x = wc := ⟨_, rfl⟩
    have HR := Lib.hid hr
    have HB := Lib.hid hbl
    have HL0 := Lib.hid hl0
    have HM0 := Lib.hid hm0
    obtain ⟨P, hP⟩ : ∃ P, w.heap.size = P := ⟨_, rfl⟩
    have HP := Lib.hid hP
    rw [hP] at HR HL0 HM0 ⊢
    obtain ⟨Q, hQ⟩ : ∃ Q, P + 1 = Q := ⟨_, rfl⟩
    have HQ := Lib.hid hQ
    rw [hQ] at HR ⊢
    clear hr hbl hl0 hm0 hP hQ hmk
    go_wp2_with fail
    go_loopw [25] (fun i wr => ∃ k : Nat, k ≤ n ∧ i = .int .i64 k ∧ Rows2 P Q L M n (fxTo l n k) (fxTo l n k) wr ∧ Below P w wr) (fun i _ => n - (intOf i).toNat)
    case atStart => exact ⟨0, Nat.zero_le _, rfl, HR.out, by rw [← HP.out]; exact HB.out⟩
    case round =>
      obtain ⟨k, hk, rfl, hr, hbl⟩ := hrel
      have HRk := Lib.hid hr
      have HBk := Lib.hid hbl
      clear hr hbl HR HB
      by_cases hkn : k < n
      ·
        as_aux_lemma =>
          obtain ⟨b, off, rfl, hlt, hcell⟩ := H3.out (by omega)
          rw [HP.out] at hlt
          have k0 := (HBk.out.cell (p := ⟨b, off + k * 2 + 0, none⟩) hlt).trans (hcell k hkn 0 (by omega))
          have k1 := (HBk.out.cell (p := ⟨b, off + k * 2 + 1, none⟩) hlt).trans (hcell k hkn 1 (by omega))
          rw [Nat.add_zero] at k0
          have HFN : Hid (fxTo l n (k + 1) = if gf l k 0 = 0 then (fxTo l n k).set k (gf l k 1) else fxTo l n k) := rfl
          obtain ⟨q0, hq0⟩ : ∃ q, gf l k 0 = q := ⟨_, rfl⟩
          obtain ⟨q1, hq1⟩ : ∃ q, gf l k 1 = q := ⟨_, rfl⟩
          rw [hq0] at k0 HFN
          rw [hq1] at k1 HFN
          have hkn' : (k : Int) < (n : Int) := by omega
          have hk0 : (0 : Int) ≤ (k : Int) := by omega
          clear hcell hlt hq0 hq1
          have HBS : Hid (P ≤ wr.heap.size) := by have := HBk.out.size; rw [HP.out] at this; exact this
          have HRA : Hid (∀ o, Rows2 P Q L M n (fxTo l n k) (fxTo l n k) (wr.alloc o)) := fun o => HRk.out.below ((Below.refl wr.heap.size wr).alloc (Nat.le_refl _) _) (Nat.le_refl _)
          have HBA : Hid (∀ o, Below P w (wr.alloc o)) := fun o => HBk.out.alloc HBS.out _
          by_cases hz : q0 = 0
          · subst hz
            rw [if_pos rfl] at HFN
            go_upto_region 6 with fail
            have c1 : (wr.alloc (.cells #[.int .i64 0, .int .i64 q1] 42)).cell? ⟨wr.heap.size, 1, none⟩ = some (.int .i64 q1) := by go_simp
            obtain ⟨W5, hW5⟩ : ∃ W, wr.alloc (.cells #[.int .i64 0, .int .i64 q1] 42) = W := ⟨_, rfl⟩
            have HR5 := Lib.hid (HRA.out (.cells #[.int .i64 0, .int .i64 q1] 42))
            have HB5 := Lib.hid (HBA.out (.cells #[.int .i64 0, .int .i64 q1] 42))
            rw [hW5] at HR5 HB5 c1 ⊢
            clear hW5 k0 k1
            have cp := HR5.out.p.cell
            have cq := HR5.out.q.cell
            have cl := HR5.out.l.cell (i := k) (by rw [fxTo_len]; exact hkn)
            have cm := HR5.out.m.cell (i := k) (by rw [fxTo_len]; exact hkn)
            have fl := HR5.out.l.free k
            have fm := HR5.out.m.free k
            have hlm := HR5.out.lm
            have hml := HR5.out.lm.symm
            have hpl := HR5.out.pl
            have hpm := HR5.out.pm
            have hql := HR5.out.ql
            have hqm := HR5.out.qm
            obtain ⟨hs, hhs⟩ : ∃ x, wr.heap.size = x := ⟨_, rfl⟩
            have hsl : hs ≠ L := by have := HRk.out.lt; omega
            have hsm : hs ≠ M := by have := HRk.out.lt; omega
            rw [hhs] at c1 ⊢
            clear hhs
            go_region
            all_goals
              go_wp2
              go_roundw
              case rel => exact ⟨k + 1, by omega, by go_num, by rw [HFN.out]; first | exact ((HR5.out.setL k q1).setM k q1).drew | exact ((HR5.out.setM k q1).setL k q1).drew, by first | exact ((HB5.out.setCell (p := ⟨L, k, none⟩) HL0.out _).setCell (p := ⟨M, k, none⟩) HM0.out _).drew | exact ((HB5.out.setCell (p := ⟨M, k, none⟩) HM0.out _).setCell (p := ⟨L, k, none⟩) HL0.out _).drew⟩
              case measure => simp [intOf]; omega
          · have e0 : (q0 == 0) = false := by simp [hz]
            rw [if_neg hz] at HFN
            clear hz
            go_wp2_with fail
            go_roundw
            case rel => exact ⟨k + 1, by omega, by go_num, by rw [HFN.out]; exact HRA.out _, HBA.out _⟩
            case measure => simp [intOf]; omega
      · obtain rfl : n = k := by omega
        have HR2 : Hid (Rows2 P Q L M n (dmL l it 2 0) (dmL l it 3 0) wr) := by
          have h := HRk.out
          have e2 := fxTo_dm l it 2
          have e3 := fxTo_dm l it 3
          rw [HN.out] at e2 e3
          show Rows2 _ _ _ _ _ _ _ _
          rw [← e2, ← e3]; exact h
        obtain ⟨w2, rfl⟩ : ∃ x : World, x = wr := ⟨_, rfl⟩
        clear HRk
        go_wp2_with fail
        go_loopw [46] (fun i wr => ∃ j : Nat, j ≤ q ∧ i = .int .i64 j ∧ Rows2 P Q L M n (dmL l it 2 j) (dmL l it 3 j) wr ∧ Below P w wr) (fun i _ => q - (intOf i).toNat)
        case atStart => exact ⟨0, Nat.zero_le _, rfl, HR2.out, HBk.out⟩
        case round =>
          obtain ⟨j, hj, rfl, hr, hbl⟩ := hrel
          have HRj := Lib.hid hr
          have HBj := Lib.hid hbl
          clear hr hbl
          by_cases hjq : j < q
          ·
            as_aux_lemma =>
              obtain ⟨ib, io, rfl, ilt, icell⟩ := HI3.out (by omega)
              rw [HP.out] at ilt
              have i0 := (HBj.out.cell (p := ⟨ib, io + j * 4 + 0, none⟩) ilt).trans (icell j hjq 0 (by omega))
              have i1 := (HBj.out.cell (p := ⟨ib, io + j * 4 + 1, none⟩) ilt).trans (icell j hjq 1 (by omega))
              have i2 := (HBj.out.cell (p := ⟨ib, io + j * 4 + 2, none⟩) ilt).trans (icell j hjq 2 (by omega))
              have i3 := (HBj.out.cell (p := ⟨ib, io + j * 4 + 3, none⟩) ilt).trans (icell j hjq 3 (by omega))
              rw [Nat.add_zero] at i0
              obtain ⟨n0, n1, n2, n3⟩ := itB_nat (itsB_at HIT.out (j := j) (by rw [HIQ.out]; exact hjq))
              have HM2 : Hid (∀ k, k < l.length → gf it j 1 = 1 → gf it j 0 = (k : Int) → itA it j = k) := fun k hk _ h => by omega
              obtain ⟨A, hA⟩ : ∃ A, itA it j = A := ⟨_, rfl⟩
              obtain ⟨m, hm⟩ : ∃ m, itS it j = m := ⟨_, rfl⟩
              rw [hA] at n0 n3 HM2
              rw [hm] at n1 n2 n3
              have HN0 := Lib.hid n0
              have HN1 := Lib.hid n1
              rw [n0] at i0
              rw [n1] at i1
              obtain ⟨q2, hq2⟩ : ∃ q, gf it j 2 = q := ⟨_, rfl⟩
              obtain ⟨q3, hq3⟩ : ∃ q, gf it j 3 = q := ⟨_, rfl⟩
              have HQ2 := Lib.hid hq2
              have HQ3 := Lib.hid hq3
              rw [hq2] at i2
              rw [hq3] at i3
              have hAn : A < n := by omega
              have hAn' : (A : Int) < (n : Int) := by omega
              have hA0 : (0 : Int) ≤ (A : Int) := by omega
              have hjq' : (j : Int) < (q : Int) := by omega
              have hj0 : (0 : Int) ≤ (j : Int) := by omega
              obtain ⟨b, off, rfl, hlt, hcell⟩ := H3.out (by omega)
              rw [HP.out] at hlt
              have tk := (HBj.out.cell (p := ⟨b, off + A * 2 + 0, none⟩) hlt).trans (hcell A hAn 0 (by omega))
              rw [Nat.add_zero] at tk
              obtain ⟨kd, hkd⟩ : ∃ k, gf l A 0 = k := ⟨_, rfl⟩
              have HKD := Lib.hid hkd
              rw [hkd] at tk
              have HBS : Hid (P ≤ wr.heap.size) := by have := HBj.out.size; rw [HP.out] at this; exact this
              have HRA : Hid (Rows2 P Q L M n (dmL l it 2 j) (dmL l it 3 j) (wr.alloc (.cells #[.int .i64 A, .int .i64 m, .int .i64 q2, .int .i64 q3] 44))) := HRj.out.below ((Below.refl wr.heap.size wr).alloc (Nat.le_refl _) _) (Nat.le_refl _)
              have HBA : Hid (Below P w (wr.alloc (.cells #[.int .i64 A, .int .i64 m, .int .i64 q2, .int .i64 q3] 44))) := HBj.out.alloc HBS.out _
              have tk5 := (HBA.out.cell (p := ⟨b, off + A * 2 + 0, none⟩) hlt).trans (hcell A hAn 0 (by omega))
              rw [Nat.add_zero, hkd] at tk5
              clear n0 n1 n2 n3 hA hm hq2 hq3 hkd icell hcell tk
              by_cases hm1 : m = 1
              · have e1 : ((m : Int) == 1) = true := by simp; omega
                have HN1' : Hid (gf it j 1 = 1) := by show _ = _; rw [HN1.out, hm1]; rfl
                clear hm1
                by_cases hk0 : kd = 0
                · subst hk0
                  have HD2 : Hid (dmL l it 2 (j + 1) = dmL l it 2 j) := dmL_miss (fun k hk h1 h0 => by rw [← HM2.out k hk h1 h0]; exact HKD.out)
                  have HD3 : Hid (dmL l it 3 (j + 1) = dmL l it 3 j) := dmL_miss (fun k hk h1 h0 => by rw [← HM2.out k hk h1 h0]; exact HKD.out)
                  go_wp2_with fail
                  go_roundw
                  case rel => exact ⟨j + 1, by omega, by go_num, by rw [HD2.out, HD3.out]; exact HRA.out, HBA.out⟩
                  case measure => simp [intOf]; omega
                ·
                  as_aux_lemma =>
                    have e0 : (kd != 0) = true := by simpa using hk0
                    have HD2 : Hid ((dmL l it 2 j).set A (if gz (dmL l it 2 j) A < q2 then q2 else gz (dmL l it 2 j) A) = dmL l it 2 (j + 1)) := by
                      have h := dmL_hit (l := l) (it := it) (c := 2) (j := j) (k := A) (by rw [HN.out]; exact hAn) HN1'.out HN0.out (by rw [HKD.out]; exact hk0)
                      rw [HQ2.out] at h; exact h
                    have HD3 : Hid ((dmL l it 3 j).set A (if gz (dmL l it 3 j) A < q3 then q3 else gz (dmL l it 3 j) A) = dmL l it 3 (j + 1)) := by
                      have h := dmL_hit (l := l) (it := it) (c := 3) (j := j) (k := A) (by rw [HN.out]; exact hAn) HN1'.out HN0.out (by rw [HKD.out]; exact hk0)
                      rw [HQ3.out] at h; exact h
                    go_upto_region 12 with fail
                    have c0 : (wr.alloc (.cells #[.int .i64 A, .int .i64 m, .int .i64 q2, .int .i64 q3] 44)).cell? ⟨wr.heap.size, 0, none⟩ = some (.int .i64 A) := by go_simp
                    have c2 : (wr.alloc (.cells #[.int .i64 A, .int .i64 m, .int .i64 q2, .int .i64 q3] 44)).cell? ⟨wr.heap.size, 2, none⟩ = some (.int .i64 q2) := by go_simp
                    have c3 : (wr.alloc (.cells #[.int .i64 A, .int .i64 m, .int .i64 q2, .int .i64 q3] 44)).cell? ⟨wr.heap.size, 3, none⟩ = some (.int .i64 q3) := by go_simp
                    obtain ⟨W5, hW5⟩ : ∃ W, wr.alloc (.cells #[.int .i64 A, .int .i64 m, .int .i64 q2, .int .i64 q3] 44) = W := ⟨_, rfl⟩
                    obtain ⟨hs, hhs⟩ : ∃ x, wr.heap.size = x := ⟨_, rfl⟩
                    have hsl : hs ≠ L := by have := HRj.out.lt; omega
                    have hsm : hs ≠ M := by have := HRj.out.lt; omega
                    have HR5 : Hid (Rows2 P Q L M n (dmL l it 2 j) (dmL l it 3 j) W5) := by show Rows2 _ _ _ _ _ _ _ _; rw [← hW5]; exact HRA.out
                    have HB5 : Hid (Below P w W5) := by show Below _ _ _; rw [← hW5]; exact HBA.out
                    have HSL := Lib.hid hsl
                    have HSM := Lib.hid hsm
                    rw [hW5] at c0 c2 c3 ⊢
                    rw [hhs] at c0 c2 c3 ⊢
                    clear hW5 hhs i0 i1 i2 i3 tk5 HRA HBA HRj HBj
                    have cp := HR5.out.p.cell
                    have cq := HR5.out.q.cell
                    have cl := HR5.out.l.cell (i := A) (by rw [dmL_len, HN.out]; exact hAn)
                    have cm := HR5.out.m.cell (i := A) (by rw [dmL_len, HN.out]; exact hAn)
                    have fl := HR5.out.l.free A
                    have fm := HR5.out.m.free A
                    have hlm := HR5.out.lm
                    have hml := HR5.out.lm.symm
                    have hpl := HR5.out.pl
                    have hql := HR5.out.ql
                    obtain ⟨x, hx⟩ : ∃ x, gz (dmL l it 2 j) A = x := ⟨_, rfl⟩
                    obtain ⟨y, hy⟩ : ∃ y, gz (dmL l it 3 j) A = y := ⟨_, rfl⟩
                    rw [hx] at cl HD2
                    rw [hy] at cm HD3
                    clear hx hy
                    by_cases hx : x < q2
                    · by_cases hy : y < q3
                      · rw [if_pos hx] at HD2
                        rw [if_pos hy] at HD3
                        refine wp_region_T (S := (fun w' => w'.cell? ⟨P, 0, none⟩ = some (.slice (some ⟨L, 0, none⟩) n n) ∧ w'.cell? ⟨Q, 0, none⟩ = some (.slice (some ⟨M, 0, none⟩) n n) ∧ w'.cell? ⟨hs, 0, none⟩ = some (.int .i64 A) ∧ w'.cell? ⟨hs, 2, none⟩ = some (.int .i64 q2) ∧ w'.cell? ⟨hs, 3, none⟩ = some (.int .i64 q3) ∧ w'.cell? ⟨M, A, none⟩ = some (.int .i64 y))) 25 (by kernel_rfl) (⟨cp, cq, c0, c2, c3, cm⟩) (fun hHeld => ?_)
                        refine wpAnyT_take (i := 0) (v := ?_) rfl (by decide +kernel) (by decide +kernel) (by decide +kernel) (by decide +kernel) (by decide +kernel) (fun _ _ _ h => h) (Or.inl ⟨by rfl, ?_⟩) (by assumption) ?_
                        rotate_left
                        · intro w hSw; (try dsimp only at hSw); first | (go_simp; done) | (go_simp; with_reducible rfl)
                        try simp only [Act.put, List.getElem_toArray, List.getElem_cons_succ, List.getElem_cons_zero, List.setIfInBounds_toArray, List.set_cons_zero, List.set_cons_succ]
                        refine wpAnyT_take (i := 1) (v := ?_) rfl (by decide +kernel) (by decide +kernel) (by decide +kernel) (by decide +kernel) (by decide +kernel) (fun _ _ _ h => h) (Or.inl ⟨by rfl, ?_⟩) (by assumption) ?_
                        rotate_left
                        · intro w hSw; (try dsimp only at hSw); first | (go_simp; done) | (go_simp; with_reducible rfl)
                        try simp only [Act.put, List.getElem_toArray, List.getElem_cons_succ, List.getElem_cons_zero, List.setIfInBounds_toArray, List.set_cons_zero, List.set_cons_succ]
                        refine wpAnyT_take (i := 2) (v := ?_) rfl (by decide +kernel) (by decide +kernel) (by decide +kernel) (by decide +kernel) (by decide +kernel) (fun _ _ _ h => h) (Or.inl ⟨by rfl, ?_⟩) (by assumption) ?_
                        rotate_left
                        · intro w hSw; (try dsimp only at hSw); first | (go_simp; done) | (go_simp; with_reducible rfl)
                        try simp only [Act.put, List.getElem_toArray, List.getElem_cons_succ, List.getElem_cons_zero, List.setIfInBounds_toArray, List.set_cons_zero, List.set_cons_succ]
                        refine wpAnyT_take (i := 3) (v := ?_) rfl (by decide +kernel) (by decide +kernel) (by decide +kernel) (by decide +kernel) (by decide +kernel) (fun _ _ _ h => h) (Or.inl ⟨by rfl, ?_⟩) (by assumption) ?_
                        rotate_left
                        · intro w hSw; (try dsimp only at hSw); first | (go_simp; done) | (go_simp; with_reducible rfl)
                        try simp only [Act.put, List.getElem_toArray, List.getElem_cons_succ, List.getElem_cons_zero, List.setIfInBounds_toArray, List.set_cons_zero, List.set_cons_succ]
                        refine wpAnyT_take (i := 4) (v := ?_) rfl (by decide +kernel) (by decide +kernel) (by decide +kernel) (by decide +kernel) (by decide +kernel) (fun _ _ _ h => h) (Or.inl ⟨by rfl, ?_⟩) (by assumption) ?_
                        rotate_left
                        · intro w hSw; (try dsimp only at hSw); first | (go_simp; done) | (go_simp; with_reducible rfl)
                        try simp only [Act.put, List.getElem_toArray, List.getElem_cons_succ, List.getElem_cons_zero, List.setIfInBounds_toArray, List.set_cons_zero, List.set_cons_succ]
                        refine wpAnyT_take (i := 5) (v := ?_) rfl (by decide +kernel) (by decide +kernel) (by decide +kernel) (by decide +kernel) (by decide +kernel) (fun _ _ _ h => h) (Or.inl ⟨by rfl, ?_⟩) (by assumption) ?_
                        rotate_left
                        · intro w hSw; (try dsimp only at hSw); first | (go_simp; done) | (go_simp; with_reducible rfl)
                        try simp only [Act.put, List.getElem_toArray, List.getElem_cons_succ, List.getElem_cons_zero, List.setIfInBounds_toArray, List.set_cons_zero, List.set_cons_succ]
                        refine wpAnyT_take (i := 6) (v := ?_) rfl (by decide +kernel) (by decide +kernel) (by decide +kernel) (by decide +kernel) (by decide +kernel) (fun _ _ _ h => h) (Or.inl ⟨by rfl, ?_⟩) (by assumption) ?_
                        rotate_left
                        · intro w hSw; (try dsimp only at hSw); first | (go_simp; done) | (go_simp; with_reducible rfl)
                        try simp only [Act.put, List.getElem_toArray, List.getElem_cons_succ, List.getElem_cons_zero, List.setIfInBounds_toArray, List.set_cons_zero, List.set_cons_succ]
                        refine wpAnyT_take (i := 7) (v := ?_) rfl (by decide +kernel) (by decide +kernel) (by decide +kernel) (by decide +kernel) (by decide +kernel) (fun _ _ _ h => h) (Or.inl ⟨by rfl, ?_⟩) (by assumption) ?_
                        rotate_left
                        · intro w hSw; (try dsimp only at hSw); first | (go_simp; done) | (go_simp; with_reducible rfl)
                        try simp only [Act.put, List.getElem_toArray, List.getElem_cons_succ, List.getElem_cons_zero, List.setIfInBounds_toArray, List.set_cons_zero, List.set_cons_succ]
                        refine wpAnyT_take (i := 8) (v := ?_) rfl (by decide +kernel) (by decide +kernel) (by decide +kernel) (by decide +kernel) (by decide +kernel) (fun _ _ _ h => h) (Or.inl ⟨by rfl, ?_⟩) (by assumption) ?_
                        rotate_left
                        · intro w hSw; (try dsimp only at hSw); first | (go_simp; done) | (go_simp; with_reducible rfl)
                        try simp only [Act.put, List.getElem_toArray, List.getElem_cons_succ, List.getElem_cons_zero, List.setIfInBounds_toArray, List.set_cons_zero, List.set_cons_succ]
                        refine wpAnyT_take (i := 9) (v := ?_) rfl (by decide +kernel) (by decide +kernel) (by decide +kernel) (by decide +kernel) (by decide +kernel) (fun _ _ _ h => h) (Or.inl ⟨by rfl, ?_⟩) (by assumption) ?_
                        rotate_left
                        · intro w hSw; (try dsimp only at hSw); first | (go_simp; done) | (go_simp; with_reducible rfl)
                        try simp only [Act.put, List.getElem_toArray, List.getElem_cons_succ, List.getElem_cons_zero, List.setIfInBounds_toArray, List.set_cons_zero, List.set_cons_succ]
                        refine wpAnyT_take (i := 11) (v := ?_) rfl (by decide +kernel) (by decide +kernel) (by decide +kernel) (by decide +kernel) (by decide +kernel) (fun _ _ _ h => h) (Or.inl ⟨by rfl, ?_⟩) (by assumption) ?_
                        rotate_left
                        · intro w hSw; (try dsimp only at hSw); first | (go_simp; done) | (go_simp; with_reducible rfl)
                        try simp only [Act.put, List.getElem_toArray, List.getElem_cons_succ, List.getElem_cons_zero, List.setIfInBounds_toArray, List.set_cons_zero, List.set_cons_succ]
                        refine wpAnyT_take (i := 12) (v := ?_) rfl (by decide +kernel) (by decide +kernel) (by decide +kernel) (by decide +kernel) (by decide +kernel) (fun _ _ _ h => h) (Or.inl ⟨by rfl, ?_⟩) (by assumption) ?_
                        rotate_left
                        · intro w hSw; (try dsimp only at hSw); first | (go_simp; done) | (go_simp; with_reducible rfl)
                        try simp only [Act.put, List.getElem_toArray, List.getElem_cons_succ, List.getElem_cons_zero, List.setIfInBounds_toArray, List.set_cons_zero, List.set_cons_succ]
                        refine wpAnyT_take (i := 14) (v := ?_) rfl (by decide +kernel) (by decide +kernel) (by decide +kernel) (by decide +kernel) (by decide +kernel) (fun _ _ _ h => h) (Or.inl ⟨by rfl, ?_⟩) (by assumption) ?_
                        rotate_left
                        · intro w hSw; (try dsimp only at hSw); first | (go_simp; done) | (go_simp; with_reducible rfl)
                        try simp only [Act.put, List.getElem_toArray, List.getElem_cons_succ, List.getElem_cons_zero, List.setIfInBounds_toArray, List.set_cons_zero, List.set_cons_succ]
                        refine wpAnyT_take (i := 15) (v := ?_) rfl (by decide +kernel) (by decide +kernel) (by decide +kernel) (by decide +kernel) (by decide +kernel) (fun _ _ _ h => h) (Or.inl ⟨by rfl, ?_⟩) (by assumption) ?_
                        rotate_left
                        · intro w hSw; (try dsimp only at hSw); first | (go_simp; done) | (go_simp; with_reducible rfl)
                        try simp only [Act.put, List.getElem_toArray, List.getElem_cons_succ, List.getElem_cons_zero, List.setIfInBounds_toArray, List.set_cons_zero, List.set_cons_succ]
                        refine wpAnyT_take (i := 16) (v := ?_) rfl (by decide +kernel) (by decide +kernel) (by decide +kernel) (by decide +kernel) (by decide +kernel) (fun _ _ _ h => h) (Or.inl ⟨by rfl, ?_⟩) (by assumption) ?_
                        rotate_left
                        · intro w hSw; (try dsimp only at hSw); first | (go_simp; done) | (go_simp; with_reducible rfl)
                        try simp only [Act.put, List.getElem_toArray, List.getElem_cons_succ, List.getElem_cons_zero, List.setIfInBounds_toArray, List.set_cons_zero, List.set_cons_succ]
                        refine wpAnyT_take (i := 17) (v := ?_) rfl (by decide +kernel) (by decide +kernel) (by decide +kernel) (by decide +kernel) (by decide +kernel) (fun _ _ _ h => h) (Or.inl ⟨by rfl, ?_⟩) (by assumption) ?_
                        rotate_left
                        · intro w hSw; (try dsimp only at hSw); first | (go_simp; done) | (go_simp; with_reducible rfl)
                        try simp only [Act.put, List.getElem_toArray, List.getElem_cons_succ, List.getElem_cons_zero, List.setIfInBounds_toArray, List.set_cons_zero, List.set_cons_succ]
                        refine wpAnyT_take (i := 18) (v := ?_) rfl (by decide +kernel) (by decide +kernel) (by decide +kernel) (by decide +kernel) (by decide +kernel) (fun _ _ _ h => h) (Or.inl ⟨by rfl, ?_⟩) (by assumption) ?_
                        rotate_left
                        · intro w hSw; (try dsimp only at hSw); first | (go_simp; done) | (go_simp; with_reducible rfl)
                        try simp only [Act.put, List.getElem_toArray, List.getElem_cons_succ, List.getElem_cons_zero, List.setIfInBounds_toArray, List.set_cons_zero, List.set_cons_succ]
                        refine wpAnyT_take (i := 19) (v := ?_) rfl (by decide +kernel) (by decide +kernel) (by decide +kernel) (by decide +kernel) (by decide +kernel) (fun _ _ _ h => h) (Or.inl ⟨by rfl, ?_⟩) (by assumption) ?_
                        rotate_left
                        · intro w hSw; (try dsimp only at hSw); first | (go_simp; done) | (go_simp; with_reducible rfl)
                        try simp only [Act.put, List.getElem_toArray, List.getElem_cons_succ, List.getElem_cons_zero, List.setIfInBounds_toArray, List.set_cons_zero, List.set_cons_succ]
                        refine wpAnyT_take (i := 20) (v := ?_) rfl (by decide +kernel) (by decide +kernel) (by decide +kernel) (by decide +kernel) (by decide +kernel) (fun _ _ _ h => h) (Or.inl ⟨by rfl, ?_⟩) (by assumption) ?_
                        rotate_left
                        · intro w hSw; (try dsimp only at hSw); first | (go_simp; done) | (go_simp; with_reducible rfl)
                        try simp only [Act.put, List.getElem_toArray, List.getElem_cons_succ, List.getElem_cons_zero, List.setIfInBounds_toArray, List.set_cons_zero, List.set_cons_succ]
                        refine wpAnyT_take (i := 21) (v := ?_) rfl (by decide +kernel) (by decide +kernel) (by decide +kernel) (by decide +kernel) (by decide +kernel) (fun _ _ _ h => h) (Or.inl ⟨by rfl, ?_⟩) (by assumption) ?_
                        rotate_left
                        · intro w hSw; (try dsimp only at hSw); first | (go_simp; done) | (go_simp; with_reducible rfl)
                        try simp only [Act.put, List.getElem_toArray, List.getElem_cons_succ, List.getElem_cons_zero, List.setIfInBounds_toArray, List.set_cons_zero, List.set_cons_succ]
                        refine wpAnyT_one (i := 10) (by kernel_rfl) rfl (fun K hK => ?_)
                        go_simp
                        refine hK.out _ _ ?_ (fun hHeld2 => ?_)
                        · (try dsimp only); exact ⟨cp, cq, c0, c2, c3, cm⟩
                        clear hK K hHeld
                        have hHeld := hHeld2
                        clear hHeld2
                        try simp only [Act.put, List.getElem_toArray, List.getElem_cons_succ, List.getElem_cons_zero, List.setIfInBounds_toArray, List.set_cons_zero, List.set_cons_succ]
                        refine wpAnyT_take (i := 13) (v := ?_) rfl (by decide +kernel) (by decide +kernel) (by decide +kernel) (by decide +kernel) (by decide +kernel) (fun _ _ _ h => h) (Or.inl ⟨by rfl, ?_⟩) (by assumption) ?_
                        rotate_left
                        · intro w hSw; (try dsimp only at hSw); first | (go_simp; done) | (go_simp; with_reducible rfl)
                        try simp only [Act.put, List.getElem_toArray, List.getElem_cons_succ, List.getElem_cons_zero, List.setIfInBounds_toArray, List.set_cons_zero, List.set_cons_succ]
                        refine wpAnyT_take (i := 22) (v := ?_) rfl (by decide +kernel) (by decide +kernel) (by decide +kernel) (by decide +kernel) (by decide +kernel) (fun _ _ _ h => h) (Or.inl ⟨by rfl, ?_⟩) (by assumption) ?_
                        rotate_left
                        · intro w hSw; (try dsimp only at hSw); first | (go_simp; done) | (go_simp; with_reducible rfl)
                        try simp only [Act.put, List.getElem_toArray, List.getElem_cons_succ, List.getElem_cons_zero, List.setIfInBounds_toArray, List.set_cons_zero, List.set_cons_succ]
                        refine wpAnyT_one (i := 23) (by kernel_rfl) rfl (fun K hK => ?_)
                        go_simp
                        refine hK.out _ _ ?_ (fun hHeld2 => ?_)
                        · (try dsimp only); exact ⟨(HR5.out.setL A q2).p.cell, (HR5.out.setL A q2).q.cell, by go_simp, by go_simp, by go_simp, by go_simp⟩
                        clear hK K hHeld
                        have hHeld := hHeld2
                        clear hHeld2
                        try simp only [Act.put, List.getElem_toArray, List.getElem_cons_succ, List.getElem_cons_zero, List.setIfInBounds_toArray, List.set_cons_zero, List.set_cons_succ]
                        refine wpAnyT_take (i := 24) (v := ?_) rfl (by decide +kernel) (by decide +kernel) (by decide +kernel) (by decide +kernel) (by decide +kernel) (fun _ _ _ h => h) (Or.inl ⟨by rfl, ?_⟩) (by assumption) ?_
                        rotate_left
                        · intro w hSw; (try dsimp only at hSw); first | (go_simp; done) | (go_simp; with_reducible rfl)
                        try simp only [Act.put, List.getElem_toArray, List.getElem_cons_succ, List.getElem_cons_zero, List.setIfInBounds_toArray, List.set_cons_zero, List.set_cons_succ]
                        refine wpAnyT_last (i := 25) (by kernel_rfl) (by kernel_rfl) rfl (by kernel_rfl) (fun K hK => ?_)
                        go_simp
                        refine hK.out _ _ ?_
                        clear hK K
                        try simp only [Act.put, List.getElem_toArray, List.getElem_cons_succ, List.getElem_cons_zero, List.setIfInBounds_toArray, List.set_cons_zero, List.set_cons_succ]
                        clear hHeld
                        go_wp2
                        go_roundw
                        case rel => exact ⟨j + 1, by omega, by go_num, by rw [← HD2.out, ← HD3.out]; exact ((HR5.out.setL A q2).setM A q3).drew, ((HB5.out.setCell (p := ⟨L, A, none⟩) HL0.out _).setCell (p := ⟨M, A, none⟩) HM0.out _).drew⟩
                        case measure => simp [intOf]; omega
                      · rw [if_pos hx] at HD2
                        rw [if_neg hy] at HD3
                        refine wp_region_T (S := (fun w' => w'.cell? ⟨P, 0, none⟩ = some (.slice (some ⟨L, 0, none⟩) n n) ∧ w'.cell? ⟨Q, 0, none⟩ = some (.slice (some ⟨M, 0, none⟩) n n) ∧ w'.cell? ⟨hs, 0, none⟩ = some (.int .i64 A) ∧ w'.cell? ⟨hs, 2, none⟩ = some (.int .i64 q2) ∧ w'.cell? ⟨hs, 3, none⟩ = some (.int .i64 q3) ∧ w'.cell? ⟨M, A, none⟩ = some (.int .i64 y))) 25 (by kernel_rfl) (⟨cp, cq, c0, c2, c3, cm⟩) (fun hHeld => ?_)
                        refine wpAnyT_take (i := 0) (v := ?_) rfl (by decide +kernel) (by decide +kernel) (by decide +kernel) (by decide +kernel) (by decide +kernel) (fun _ _ _ h => h) (Or.inl ⟨by rfl, ?_⟩) (by assumption) ?_
                        rotate_left
                        · intro w hSw; (try dsimp only at hSw); first | (go_simp; done) | (go_simp; with_reducible rfl)
                        try simp only [Act.put, List.getElem_toArray, List.getElem_cons_succ, List.getElem_cons_zero, List.setIfInBounds_toArray, List.set_cons_zero, List.set_cons_succ]
                        refine wpAnyT_take (i := 1) (v := ?_) rfl (by decide +kernel) (by decide +kernel) (by decide +kernel) (by decide +kernel) (by decide +kernel) (fun _ _ _ h => h) (Or.inl ⟨by rfl, ?_⟩) (by assumption) ?_
                        rotate_left
                        · intro w hSw; (try dsimp only at hSw); first | (go_simp; done) | (go_simp; with_reducible rfl)
                        try simp only [Act.put, List.getElem_toArray, List.getElem_cons_succ, List.getElem_cons_zero, List.setIfInBounds_toArray, List.set_cons_zero, List.set_cons_succ]
                        refine wpAnyT_take (i := 2) (v := ?_) rfl (by decide +kernel) (by decide +kernel) (by decide +kernel) (by decide +kernel) (by decide +kernel) (fun _ _ _ h => h) (Or.inl ⟨by rfl, ?_⟩) (by assumption) ?_
                        rotate_left
                        · intro w hSw; (try dsimp only at hSw); first | (go_simp; done) | (go_simp; with_reducible rfl)
                        try simp only [Act.put, List.getElem_toArray, List.getElem_cons_succ, List.getElem_cons_zero, List.setIfInBounds_toArray, List.set_cons_zero, List.set_cons_succ]
                        refine wpAnyT_take (i := 3) (v := ?_) rfl (by decide +kernel) (by decide +kernel) (by decide +kernel) (by decide +kernel) (by decide +kernel) (fun _ _ _ h => h) (Or.inl ⟨by rfl, ?_⟩) (by assumption) ?_
                        rotate_left
                        · intro w hSw; (try dsimp only at hSw); first | (go_simp; done) | (go_simp; with_reducible rfl)
                        try simp only [Act.put, List.getElem_toArray, List.getElem_cons_succ, List.getElem_cons_zero, List.setIfInBounds_toArray, List.set_cons_zero, List.set_cons_succ]
                        refine wpAnyT_take (i := 4) (v := ?_) rfl (by decide +kernel) (by decide +kernel) (by decide +kernel) (by decide +kernel) (by decide +kernel) (fun _ _ _ h => h) (Or.inl ⟨by rfl, ?_⟩) (by assumption) ?_
                        rotate_left
                        · intro w hSw; (try dsimp only at hSw); first | (go_simp; done) | (go_simp; with_reducible rfl)
                        try simp only [Act.put, List.getElem_toArray, List.getElem_cons_succ, List.getElem_cons_zero, List.setIfInBounds_toArray, List.set_cons_zero, List.set_cons_succ]
                        refine wpAnyT_take (i := 5) (v := ?_) rfl (by decide +kernel) (by decide +kernel) (by decide +kernel) (by decide +kernel) (by decide +kernel) (fun _ _ _ h => h) (Or.inl ⟨by rfl, ?_⟩) (by assumption) ?_
                        rotate_left
                        · intro w hSw; (try dsimp only at hSw); first | (go_simp; done) | (go_simp; with_reducible rfl)
                        try simp only [Act.put, List.getElem_toArray, List.getElem_cons_succ, List.getElem_cons_zero, List.setIfInBounds_toArray, List.set_cons_zero, List.set_cons_succ]
                        refine wpAnyT_take (i := 6) (v := ?_) rfl (by decide +kernel) (by decide +kernel) (by decide +kernel) (by decide +kernel) (by decide +kernel) (fun _ _ _ h => h) (Or.inl ⟨by rfl, ?_⟩) (by assumption) ?_
                        rotate_left
                        · intro w hSw; (try dsimp only at hSw); first | (go_simp; done) | (go_simp; with_reducible rfl)
                        try simp only [Act.put, List.getElem_toArray, List.getElem_cons_succ, List.getElem_cons_zero, List.setIfInBounds_toArray, List.set_cons_zero, List.set_cons_succ]
                        refine wpAnyT_take (i := 7) (v := ?_) rfl (by decide +kernel) (by decide +kernel) (by decide +kernel) (by decide +kernel) (by decide +kernel) (fun _ _ _ h => h) (Or.inl ⟨by rfl, ?_⟩) (by assumption) ?_
                        rotate_left
                        · intro w hSw; (try dsimp only at hSw); first | (go_simp; done) | (go_simp; with_reducible rfl)
                        try simp only [Act.put, List.getElem_toArray, List.getElem_cons_succ, List.getElem_cons_zero, List.setIfInBounds_toArray, List.set_cons_zero, List.set_cons_succ]
                        refine wpAnyT_take (i := 8) (v := ?_) rfl (by decide +kernel) (by decide +kernel) (by decide +kernel) (by decide +kernel) (by decide +kernel) (fun _ _ _ h => h) (Or.inl ⟨by rfl, ?_⟩) (by assumption) ?_
                        rotate_left
                        · intro w hSw; (try dsimp only at hSw); first | (go_simp; done) | (go_simp; with_reducible rfl)
                        try simp only [Act.put, List.getElem_toArray, List.getElem_cons_succ, List.getElem_cons_zero, List.setIfInBounds_toArray, List.set_cons_zero, List.set_cons_succ]
                        refine wpAnyT_take (i := 9) (v := ?_) rfl (by decide +kernel) (by decide +kernel) (by decide +kernel) (by decide +kernel) (by decide +kernel) (fun _ _ _ h => h) (Or.inl ⟨by rfl, ?_⟩) (by assumption) ?_
                        rotate_left
                        · intro w hSw; (try dsimp only at hSw); first | (go_simp; done) | (go_simp; with_reducible rfl)
                        try simp only [Act.put, List.getElem_toArray, List.getElem_cons_succ, List.getElem_cons_zero, List.setIfInBounds_toArray, List.set_cons_zero, List.set_cons_succ]
                        refine wpAnyT_take (i := 11) (v := ?_) rfl (by decide +kernel) (by decide +kernel) (by decide +kernel) (by decide +kernel) (by decide +kernel) (fun _ _ _ h => h) (Or.inl ⟨by rfl, ?_⟩) (by assumption) ?_
                        rotate_left
                        · intro w hSw; (try dsimp only at hSw); first | (go_simp; done) | (go_simp; with_reducible rfl)
                        try simp only [Act.put, List.getElem_toArray, List.getElem_cons_succ, List.getElem_cons_zero, List.setIfInBounds_toArray, List.set_cons_zero, List.set_cons_succ]
                        refine wpAnyT_take (i := 12) (v := ?_) rfl (by decide +kernel) (by decide +kernel) (by decide +kernel) (by decide +kernel) (by decide +kernel) (fun _ _ _ h => h) (Or.inl ⟨by rfl, ?_⟩) (by assumption) ?_
                        rotate_left
                        · intro w hSw; (try dsimp only at hSw); first | (go_simp; done) | (go_simp; with_reducible rfl)
                        try simp only [Act.put, List.getElem_toArray, List.getElem_cons_succ, List.getElem_cons_zero, List.setIfInBounds_toArray, List.set_cons_zero, List.set_cons_succ]
                        refine wpAnyT_take (i := 14) (v := ?_) rfl (by decide +kernel) (by decide +kernel) (by decide +kernel) (by decide +kernel) (by decide +kernel) (fun _ _ _ h => h) (Or.inl ⟨by rfl, ?_⟩) (by assumption) ?_
                        rotate_left
                        · intro w hSw; (try dsimp only at hSw); first | (go_simp; done) | (go_simp; with_reducible rfl)
                        try simp only [Act.put, List.getElem_toArray, List.getElem_cons_succ, List.getElem_cons_zero, List.setIfInBounds_toArray, List.set_cons_zero, List.set_cons_succ]
                        refine wpAnyT_take (i := 15) (v := ?_) rfl (by decide +kernel) (by decide +kernel) (by decide +kernel) (by decide +kernel) (by decide +kernel) (fun _ _ _ h => h) (Or.inl ⟨by rfl, ?_⟩) (by assumption) ?_
                        rotate_left
                        · intro w hSw; (try dsimp only at hSw); first | (go_simp; done) | (go_simp; with_reducible rfl)
                        try simp only [Act.put, List.getElem_toArray, List.getElem_cons_succ, List.getElem_cons_zero, List.setIfInBounds_toArray, List.set_cons_zero, List.set_cons_succ]
                        refine wpAnyT_take (i := 16) (v := ?_) rfl (by decide +kernel) (by decide +kernel) (by decide +kernel) (by decide +kernel) (by decide +kernel) (fun _ _ _ h => h) (Or.inl ⟨by rfl, ?_⟩) (by assumption) ?_
                        rotate_left
                        · intro w hSw; (try dsimp only at hSw); first | (go_simp; done) | (go_simp; with_reducible rfl)
                        try simp only [Act.put, List.getElem_toArray, List.getElem_cons_succ, List.getElem_cons_zero, List.setIfInBounds_toArray, List.set_cons_zero, List.set_cons_succ]
                        refine wpAnyT_take (i := 17) (v := ?_) rfl (by decide +kernel) (by decide +kernel) (by decide +kernel) (by decide +kernel) (by decide +kernel) (fun _ _ _ h => h) (Or.inl ⟨by rfl, ?_⟩) (by assumption) ?_
                        rotate_left
                        · intro w hSw; (try dsimp only at hSw); first | (go_simp; done) | (go_simp; with_reducible rfl)
                        try simp only [Act.put, List.getElem_toArray, List.getElem_cons_succ, List.getElem_cons_zero, List.setIfInBounds_toArray, List.set_cons_zero, List.set_cons_succ]
                        refine wpAnyT_take (i := 18) (v := ?_) rfl (by decide +kernel) (by decide +kernel) (by decide +kernel) (by decide +kernel) (by decide +kernel) (fun _ _ _ h => h) (Or.inl ⟨by rfl, ?_⟩) (by assumption) ?_
                        rotate_left
                        · intro w hSw; (try dsimp only at hSw); first | (go_simp; done) | (go_simp; with_reducible rfl)
                        try simp only [Act.put, List.getElem_toArray, List.getElem_cons_succ, List.getElem_cons_zero, List.setIfInBounds_toArray, List.set_cons_zero, List.set_cons_succ]
                        refine wpAnyT_take (i := 19) (v := ?_) rfl (by decide +kernel) (by decide +kernel) (by decide +kernel) (by decide +kernel) (by decide +kernel) (fun _ _ _ h => h) (Or.inl ⟨by rfl, ?_⟩) (by assumption) ?_
                        rotate_left
                        · intro w hSw; (try dsimp only at hSw); first | (go_simp; done) | (go_simp; with_reducible rfl)
                        try simp only [Act.put, List.getElem_toArray, List.getElem_cons_succ, List.getElem_cons_zero, List.setIfInBounds_toArray, List.set_cons_zero, List.set_cons_succ]
                        refine wpAnyT_take (i := 20) (v := ?_) rfl (by decide +kernel) (by decide +kernel) (by decide +kernel) (by decide +kernel) (by decide +kernel) (fun _ _ _ h => h) (Or.inl ⟨by rfl, ?_⟩) (by assumption) ?_
                        rotate_left
                        · intro w hSw; (try dsimp only at hSw); first | (go_simp; done) | (go_simp; with_reducible rfl)
                        try simp only [Act.put, List.getElem_toArray, List.getElem_cons_succ, List.getElem_cons_zero, List.setIfInBounds_toArray, List.set_cons_zero, List.set_cons_succ]
                        refine wpAnyT_take (i := 21) (v := ?_) rfl (by decide +kernel) (by decide +kernel) (by decide +kernel) (by decide +kernel) (by decide +kernel) (fun _ _ _ h => h) (Or.inl ⟨by rfl, ?_⟩) (by assumption) ?_
                        rotate_left
                        · intro w hSw; (try dsimp only at hSw); first | (go_simp; done) | (go_simp; with_reducible rfl)
                        try simp only [Act.put, List.getElem_toArray, List.getElem_cons_succ, List.getElem_cons_zero, List.setIfInBounds_toArray, List.set_cons_zero, List.set_cons_succ]
                        refine wpAnyT_one (i := 10) (by kernel_rfl) rfl (fun K hK => ?_)
                        go_simp
                        refine hK.out _ _ ?_ (fun hHeld2 => ?_)
                        · (try dsimp only); exact ⟨cp, cq, c0, c2, c3, cm⟩
                        clear hK K hHeld
                        have hHeld := hHeld2
                        clear hHeld2
                        try simp only [Act.put, List.getElem_toArray, List.getElem_cons_succ, List.getElem_cons_zero, List.setIfInBounds_toArray, List.set_cons_zero, List.set_cons_succ]
                        refine wpAnyT_take (i := 13) (v := ?_) rfl (by decide +kernel) (by decide +kernel) (by decide +kernel) (by decide +kernel) (by decide +kernel) (fun _ _ _ h => h) (Or.inl ⟨by rfl, ?_⟩) (by assumption) ?_
                        rotate_left
                        · intro w hSw; (try dsimp only at hSw); first | (go_simp; done) | (go_simp; with_reducible rfl)
                        try simp only [Act.put, List.getElem_toArray, List.getElem_cons_succ, List.getElem_cons_zero, List.setIfInBounds_toArray, List.set_cons_zero, List.set_cons_succ]
                        refine wpAnyT_take (i := 22) (v := ?_) rfl (by decide +kernel) (by decide +kernel) (by decide +kernel) (by decide +kernel) (by decide +kernel) (fun _ _ _ h => h) (Or.inl ⟨by rfl, ?_⟩) (by assumption) ?_
                        rotate_left
                        · intro w hSw; (try dsimp only at hSw); first | (go_simp; done) | (go_simp; with_reducible rfl)
                        try simp only [Act.put, List.getElem_toArray, List.getElem_cons_succ, List.getElem_cons_zero, List.setIfInBounds_toArray, List.set_cons_zero, List.set_cons_succ]
                        refine wpAnyT_one (i := 23) (by kernel_rfl) rfl (fun K hK => ?_)
                        go_simp
                        refine hK.out _ _ ?_ (fun hHeld2 => ?_)
                        · (try dsimp only); exact ⟨(HR5.out.setL A q2).p.cell, (HR5.out.setL A q2).q.cell, by go_simp, by go_simp, by go_simp, by go_simp⟩
                        clear hK K hHeld
                        have hHeld := hHeld2
                        clear hHeld2
                        try simp only [Act.put, List.getElem_toArray, List.getElem_cons_succ, List.getElem_cons_zero, List.setIfInBounds_toArray, List.set_cons_zero, List.set_cons_succ]
                        refine wpAnyT_take (i := 24) (v := ?_) rfl (by decide +kernel) (by decide +kernel) (by decide +kernel) (by decide +kernel) (by decide +kernel) (fun _ _ _ h => h) (Or.inl ⟨by rfl, ?_⟩) (by assumption) ?_
                        rotate_left
                        · intro w hSw; (try dsimp only at hSw); first | (go_simp; done) | (go_simp; with_reducible rfl)
                        try simp only [Act.put, List.getElem_toArray, List.getElem_cons_succ, List.getElem_cons_zero, List.setIfInBounds_toArray, List.set_cons_zero, List.set_cons_succ]
                        refine wpAnyT_last (i := 25) (by kernel_rfl) (by kernel_rfl) rfl (by kernel_rfl) (fun K hK => ?_)
                        go_simp
                        refine hK.out _ _ ?_
                        clear hK K
                        try simp only [Act.put, List.getElem_toArray, List.getElem_cons_succ, List.getElem_cons_zero, List.setIfInBounds_toArray, List.set_cons_zero, List.set_cons_succ]
                        clear hHeld
                        go_wp2
                        go_roundw
                        case rel => exact ⟨j + 1, by omega, by go_num, by rw [← HD2.out, ← HD3.out]; exact ((HR5.out.setL A q2).setM A y).drew, ((HB5.out.setCell (p := ⟨L, A, none⟩) HL0.out _).setCell (p := ⟨M, A, none⟩) HM0.out _).drew⟩
                        case measure => simp [intOf]; omega
                    · by_cases hy : y < q3
                      · rw [if_neg hx] at HD2
                        rw [if_pos hy] at HD3
                        refine wp_region_T (S := (fun w' => w'.cell? ⟨P, 0, none⟩ = some (.slice (some ⟨L, 0, none⟩) n n) ∧ w'.cell? ⟨Q, 0, none⟩ = some (.slice (some ⟨M, 0, none⟩) n n) ∧ w'.cell? ⟨hs, 0, none⟩ = some (.int .i64 A) ∧ w'.cell? ⟨hs, 2, none⟩ = some (.int .i64 q2) ∧ w'.cell? ⟨hs, 3, none⟩ = some (.int .i64 q3) ∧ w'.cell? ⟨M, A, none⟩ = some (.int .i64 y))) 25 (by kernel_rfl) (⟨cp, cq, c0, c2, c3, cm⟩) (fun hHeld => ?_)
                        refine wpAnyT_take (i := 0) (v := ?_) rfl (by decide +kernel) (by decide +kernel) (by decide +kernel) (by decide +kernel) (by decide +kernel) (fun _ _ _ h => h) (Or.inl ⟨by rfl, ?_⟩) (by assumption) ?_
                        rotate_left
                        · intro w hSw; (try dsimp only at hSw); first | (go_simp; done) | (go_simp; with_reducible rfl)
                        try simp only [Act.put, List.getElem_toArray, List.getElem_cons_succ, List.getElem_cons_zero, List.setIfInBounds_toArray, List.set_cons_zero, List.set_cons_succ]
                        refine wpAnyT_take (i := 1) (v := ?_) rfl (by decide +kernel) (by decide +kernel) (by decide +kernel) (by decide +kernel) (by decide +kernel) (fun _ _ _ h => h) (Or.inl ⟨by rfl, ?_⟩) (by assumption) ?_
                        rotate_left
                        · intro w hSw; (try dsimp only at hSw); first | (go_simp; done) | (go_simp; with_reducible rfl)
                        try simp only [Act.put, List.getElem_toArray, List.getElem_cons_succ, List.getElem_cons_zero, List.setIfInBounds_toArray, List.set_cons_zero, List.set_cons_succ]
                        refine wpAnyT_take (i := 2) (v := ?_) rfl (by decide +kernel) (by decide +kernel) (by decide +kernel) (by decide +kernel) (by decide +kernel) (fun _ _ _ h => h) (Or.inl ⟨by rfl, ?_⟩) (by assumption) ?_
                        rotate_left
                        · intro w hSw; (try dsimp only at hSw); first | (go_simp; done) | (go_simp; with_reducible rfl)
                        try simp only [Act.put, List.getElem_toArray, List.getElem_cons_succ, List.getElem_cons_zero, List.setIfInBounds_toArray, List.set_cons_zero, List.set_cons_succ]
                        refine wpAnyT_take (i := 3) (v := ?_) rfl (by decide +kernel) (by decide +kernel) (by decide +kernel) (by decide +kernel) (by decide +kernel) (fun _ _ _ h => h) (Or.inl ⟨by rfl, ?_⟩) (by assumption) ?_
                        rotate_left
                        · intro w hSw; (try dsimp only at hSw); first | (go_simp; done) | (go_simp; with_reducible rfl)
                        try simp only [Act.put, List.getElem_toArray, List.getElem_cons_succ, List.getElem_cons_zero, List.setIfInBounds_toArray, List.set_cons_zero, List.set_cons_succ]
                        refine wpAnyT_take (i := 4) (v := ?_) rfl (by decide +kernel) (by decide +kernel) (by decide +kernel) (by decide +kernel) (by decide +kernel) (fun _ _ _ h => h) (Or.inl ⟨by rfl, ?_⟩) (by assumption) ?_
                        rotate_left
                        · intro w hSw; (try dsimp only at hSw); first | (go_simp; done) | (go_simp; with_reducible rfl)
                        try simp only [Act.put, List.getElem_toArray, List.getElem_cons_succ, List.getElem_cons_zero, List.setIfInBounds_toArray, List.set_cons_zero, List.set_cons_succ]
                        refine wpAnyT_take (i := 5) (v := ?_) rfl (by decide +kernel) (by decide +kernel) (by decide +kernel) (by decide +kernel) (by decide +kernel) (fun _ _ _ h => h) (Or.inl ⟨by rfl, ?_⟩) (by assumption) ?_
                        rotate_left
                        · intro w hSw; (try dsimp only at hSw); first | (go_simp; done) | (go_simp; with_reducible rfl)
                        try simp only [Act.put, List.getElem_toArray, List.getElem_cons_succ, List.getElem_cons_zero, List.setIfInBounds_toArray, List.set_cons_zero, List.set_cons_succ]
                        refine wpAnyT_take (i := 6) (v := ?_) rfl (by decide +kernel) (by decide +kernel) (by decide +kernel) (by decide +kernel) (by decide +kernel) (fun _ _ _ h => h) (Or.inl ⟨by rfl, ?_⟩) (by assumption) ?_
                        rotate_left
                        · intro w hSw; (try dsimp only at hSw); first | (go_simp; done) | (go_simp; with_reducible rfl)
                        try simp only [Act.put, List.getElem_toArray, List.getElem_cons_succ, List.getElem_cons_zero, List.setIfInBounds_toArray, List.set_cons_zero, List.set_cons_succ]
                        refine wpAnyT_take (i := 7) (v := ?_) rfl (by decide +kernel) (by decide +kernel) (by decide +kernel) (by decide +kernel) (by decide +kernel) (fun _ _ _ h => h) (Or.inl ⟨by rfl, ?_⟩) (by assumption) ?_
                        rotate_left
                        · intro w hSw; (try dsimp only at hSw); first | (go_simp; done) | (go_simp; with_reducible rfl)
                        try simp only [Act.put, List.getElem_toArray, List.getElem_cons_succ, List.getElem_cons_zero, List.setIfInBounds_toArray, List.set_cons_zero, List.set_cons_succ]
                        refine wpAnyT_take (i := 8) (v := ?_) rfl (by decide +kernel) (by decide +kernel) (by decide +kernel) (by decide +kernel) (by decide +kernel) (fun _ _ _ h => h) (Or.inl ⟨by rfl, ?_⟩) (by assumption) ?_
                        rotate_left
                        · intro w hSw; (try dsimp only at hSw); first | (go_simp; done) | (go_simp; with_reducible rfl)
                        try simp only [Act.put, List.getElem_toArray, List.getElem_cons_succ, List.getElem_cons_zero, List.setIfInBounds_toArray, List.set_cons_zero, List.set_cons_succ]
                        refine wpAnyT_take (i := 9) (v := ?_) rfl (by decide +kernel) (by decide +kernel) (by decide +kernel) (by decide +kernel) (by decide +kernel) (fun _ _ _ h => h) (Or.inl ⟨by rfl, ?_⟩) (by assumption) ?_
                        rotate_left
                        · intro w hSw; (try dsimp only at hSw); first | (go_simp; done) | (go_simp; with_reducible rfl)
                        try simp only [Act.put, List.getElem_toArray, List.getElem_cons_succ, List.getElem_cons_zero, List.setIfInBounds_toArray, List.set_cons_zero, List.set_cons_succ]
                        refine wpAnyT_take (i := 11) (v := ?_) rfl (by decide +kernel) (by decide +kernel) (by decide +kernel) (by decide +kernel) (by decide +kernel) (fun _ _ _ h => h) (Or.inl ⟨by rfl, ?_⟩) (by assumption) ?_
                        rotate_left
                        · intro w hSw; (try dsimp only at hSw); first | (go_simp; done) | (go_simp; with_reducible rfl)
                        try simp only [Act.put, List.getElem_toArray, List.getElem_cons_succ, List.getElem_cons_zero, List.setIfInBounds_toArray, List.set_cons_zero, List.set_cons_succ]
                        refine wpAnyT_take (i := 12) (v := ?_) rfl (by decide +kernel) (by decide +kernel) (by decide +kernel) (by decide +kernel) (by decide +kernel) (fun _ _ _ h => h) (Or.inl ⟨by rfl, ?_⟩) (by assumption) ?_
                        rotate_left
                        · intro w hSw; (try dsimp only at hSw); first | (go_simp; done) | (go_simp; with_reducible rfl)
                        try simp only [Act.put, List.getElem_toArray, List.getElem_cons_succ, List.getElem_cons_zero, List.setIfInBounds_toArray, List.set_cons_zero, List.set_cons_succ]
                        refine wpAnyT_take (i := 14) (v := ?_) rfl (by decide +kernel) (by decide +kernel) (by decide +kernel) (by decide +kernel) (by decide +kernel) (fun _ _ _ h => h) (Or.inl ⟨by rfl, ?_⟩) (by assumption) ?_
                        rotate_left
                        · intro w hSw; (try dsimp only at hSw); first | (go_simp; done) | (go_simp; with_reducible rfl)
                        try simp only [Act.put, List.getElem_toArray, List.getElem_cons_succ, List.getElem_cons_zero, List.setIfInBounds_toArray, List.set_cons_zero, List.set_cons_succ]
                        refine wpAnyT_take (i := 15) (v := ?_) rfl (by decide +kernel) (by decide +kernel) (by decide +kernel) (by decide +kernel) (by decide +kernel) (fun _ _ _ h => h) (Or.inl ⟨by rfl, ?_⟩) (by assumption) ?_
                        rotate_left
                        · intro w hSw; (try dsimp only at hSw); first | (go_simp; done) | (go_simp; with_reducible rfl)
                        try simp only [Act.put, List.getElem_toArray, List.getElem_cons_succ, List.getElem_cons_zero, List.setIfInBounds_toArray, List.set_cons_zero, List.set_cons_succ]
                        refine wpAnyT_take (i := 16) (v := ?_) rfl (by decide +kernel) (by decide +kernel) (by decide +kernel) (by decide +kernel) (by decide +kernel) (fun _ _ _ h => h) (Or.inl ⟨by rfl, ?_⟩) (by assumption) ?_
                        rotate_left
                        · intro w hSw; (try dsimp only at hSw); first | (go_simp; done) | (go_simp; with_reducible rfl)
                        try simp only [Act.put, List.getElem_toArray, List.getElem_cons_succ, List.getElem_cons_zero, List.setIfInBounds_toArray, List.set_cons_zero, List.set_cons_succ]
                        refine wpAnyT_take (i := 17) (v := ?_) rfl (by decide +kernel) (by decide +kernel) (by decide +kernel) (by decide +kernel) (by decide +kernel) (fun _ _ _ h => h) (Or.inl ⟨by rfl, ?_⟩) (by assumption) ?_
                        rotate_left
                        · intro w hSw; (try dsimp only at hSw); first | (go_simp; done) | (go_simp; with_reducible rfl)
                        try simp only [Act.put, List.getElem_toArray, List.getElem_cons_succ, List.getElem_cons_zero, List.setIfInBounds_toArray, List.set_cons_zero, List.set_cons_succ]
                        refine wpAnyT_take (i := 18) (v := ?_) rfl (by decide +kernel) (by decide +kernel) (by decide +kernel) (by decide +kernel) (by decide +kernel) (fun _ _ _ h => h) (Or.inl ⟨by rfl, ?_⟩) (by assumption) ?_
                        rotate_left
                        · intro w hSw; (try dsimp only at hSw); first | (go_simp; done) | (go_simp; with_reducible rfl)
                        try simp only [Act.put, List.getElem_toArray, List.getElem_cons_succ, List.getElem_cons_zero, List.setIfInBounds_toArray, List.set_cons_zero, List.set_cons_succ]
                        refine wpAnyT_take (i := 19) (v := ?_) rfl (by decide +kernel) (by decide +kernel) (by decide +kernel) (by decide +kernel) (by decide +kernel) (fun _ _ _ h => h) (Or.inl ⟨by rfl, ?_⟩) (by assumption) ?_
                        rotate_left
                        · intro w hSw; (try dsimp only at hSw); first | (go_simp; done) | (go_simp; with_reducible rfl)
                        try simp only [Act.put, List.getElem_toArray, List.getElem_cons_succ, List.getElem_cons_zero, List.setIfInBounds_toArray, List.set_cons_zero, List.set_cons_succ]
                        refine wpAnyT_take (i := 20) (v := ?_) rfl (by decide +kernel) (by decide +kernel) (by decide +kernel) (by decide +kernel) (by decide +kernel) (fun _ _ _ h => h) (Or.inl ⟨by rfl, ?_⟩) (by assumption) ?_
                        rotate_left
                        · intro w hSw; (try dsimp only at hSw); first | (go_simp; done) | (go_simp; with_reducible rfl)
                        try simp only [Act.put, List.getElem_toArray, List.getElem_cons_succ, List.getElem_cons_zero, List.setIfInBounds_toArray, List.set_cons_zero, List.set_cons_succ]
                        refine wpAnyT_take (i := 21) (v := ?_) rfl (by decide +kernel) (by decide +kernel) (by decide +kernel) (by decide +kernel) (by decide +kernel) (fun _ _ _ h => h) (Or.inl ⟨by rfl, ?_⟩) (by assumption) ?_
                        rotate_left
                        · intro w hSw; (try dsimp only at hSw); first | (go_simp; done) | (go_simp; with_reducible rfl)
                        try simp only [Act.put, List.getElem_toArray, List.getElem_cons_succ, List.getElem_cons_zero, List.setIfInBounds_toArray, List.set_cons_zero, List.set_cons_succ]
                        refine wpAnyT_one (i := 10) (by kernel_rfl) rfl (fun K hK => ?_)
                        go_simp
                        refine hK.out _ _ ?_ (fun hHeld2 => ?_)
                        · (try dsimp only); exact ⟨cp, cq, c0, c2, c3, cm⟩
                        clear hK K hHeld
                        have hHeld := hHeld2
                        clear hHeld2
                        try simp only [Act.put, List.getElem_toArray, List.getElem_cons_succ, List.getElem_cons_zero, List.setIfInBounds_toArray, List.set_cons_zero, List.set_cons_succ]
                        refine wpAnyT_take (i := 13) (v := ?_) rfl (by decide +kernel) (by decide +kernel) (by decide +kernel) (by decide +kernel) (by decide +kernel) (fun _ _ _ h => h) (Or.inl ⟨by rfl, ?_⟩) (by assumption) ?_
                        rotate_left
                        · intro w hSw; (try dsimp only at hSw); first | (go_simp; done) | (go_simp; with_reducible rfl)
                        try simp only [Act.put, List.getElem_toArray, List.getElem_cons_succ, List.getElem_cons_zero, List.setIfInBounds_toArray, List.set_cons_zero, List.set_cons_succ]
                        refine wpAnyT_take (i := 22) (v := ?_) rfl (by decide +kernel) (by decide +kernel) (by decide +kernel) (by decide +kernel) (by decide +kernel) (fun _ _ _ h => h) (Or.inl ⟨by rfl, ?_⟩) (by assumption) ?_
                        rotate_left
                        · intro w hSw; (try dsimp only at hSw); first | (go_simp; done) | (go_simp; with_reducible rfl)
                        try simp only [Act.put, List.getElem_toArray, List.getElem_cons_succ, List.getElem_cons_zero, List.setIfInBounds_toArray, List.set_cons_zero, List.set_cons_succ]
                        refine wpAnyT_one (i := 23) (by kernel_rfl) rfl (fun K hK => ?_)
                        go_simp
                        refine hK.out _ _ ?_ (fun hHeld2 => ?_)
                        · (try dsimp only); exact ⟨(HR5.out.setL A x).p.cell, (HR5.out.setL A x).q.cell, by go_simp, by go_simp, by go_simp, by go_simp⟩
                        clear hK K hHeld
                        have hHeld := hHeld2
                        clear hHeld2
                        try simp only [Act.put, List.getElem_toArray, List.getElem_cons_succ, List.getElem_cons_zero, List.setIfInBounds_toArray, List.set_cons_zero, List.set_cons_succ]
                        refine wpAnyT_take (i := 24) (v := ?_) rfl (by decide +kernel) (by decide +kernel) (by decide +kernel) (by decide +kernel) (by decide +kernel) (fun _ _ _ h => h) (Or.inl ⟨by rfl, ?_⟩) (by assumption) ?_
                        rotate_left
                        · intro w hSw; (try dsimp only at hSw); first | (go_simp; done) | (go_simp; with_reducible rfl)
                        try simp only [Act.put, List.getElem_toArray, List.getElem_cons_succ, List.getElem_cons_zero, List.setIfInBounds_toArray, List.set_cons_zero, List.set_cons_succ]
                        refine wpAnyT_last (i := 25) (by kernel_rfl) (by kernel_rfl) rfl (by kernel_rfl) (fun K hK => ?_)
                        go_simp
                        refine hK.out _ _ ?_
                        clear hK K
                        try simp only [Act.put, List.getElem_toArray, List.getElem_cons_succ, List.getElem_cons_zero, List.setIfInBounds_toArray, List.set_cons_zero, List.set_cons_succ]
                        clear hHeld
                        go_wp2
                        go_roundw
                        case rel => exact ⟨j + 1, by omega, by go_num, by rw [← HD2.out, ← HD3.out]; exact ((HR5.out.setL A x).setM A q3).drew, ((HB5.out.setCell (p := ⟨L, A, none⟩) HL0.out _).setCell (p := ⟨M, A, none⟩) HM0.out _).drew⟩
                        case measure => simp [intOf]; omega
                      · rw [if_neg hx] at HD2
                        rw [if_neg hy] at HD3
                        refine wp_region_T (S := (fun w' => w'.cell? ⟨P, 0, none⟩ = some (.slice (some ⟨L, 0, none⟩) n n) ∧ w'.cell? ⟨Q, 0, none⟩ = some (.slice (some ⟨M, 0, none⟩) n n) ∧ w'.cell? ⟨hs, 0, none⟩ = some (.int .i64 A) ∧ w'.cell? ⟨hs, 2, none⟩ = some (.int .i64 q2) ∧ w'.cell? ⟨hs, 3, none⟩ = some (.int .i64 q3) ∧ w'.cell? ⟨M, A, none⟩ = some (.int .i64 y))) 25 (by kernel_rfl) (⟨cp, cq, c0, c2, c3, cm⟩) (fun hHeld => ?_)
                        refine wpAnyT_take (i := 0) (v := ?_) rfl (by decide +kernel) (by decide +kernel) (by decide +kernel) (by decide +kernel) (by decide +kernel) (fun _ _ _ h => h) (Or.inl ⟨by rfl, ?_⟩) (by assumption) ?_
                        rotate_left
                        · intro w hSw; (try dsimp only at hSw); first | (go_simp; done) | (go_simp; with_reducible rfl)
                        try simp only [Act.put, List.getElem_toArray, List.getElem_cons_succ, List.getElem_cons_zero, List.setIfInBounds_toArray, List.set_cons_zero, List.set_cons_succ]
                        refine wpAnyT_take (i := 1) (v := ?_) rfl (by decide +kernel) (by decide +kernel) (by decide +kernel) (by decide +kernel) (by decide +kernel) (fun _ _ _ h => h) (Or.inl ⟨by rfl, ?_⟩) (by assumption) ?_
                        rotate_left
                        · intro w hSw; (try dsimp only at hSw); first | (go_simp; done) | (go_simp; with_reducible rfl)
                        try simp only [Act.put, List.getElem_toArray, List.getElem_cons_succ, List.getElem_cons_zero, List.setIfInBounds_toArray, List.set_cons_zero, List.set_cons_succ]
                        refine wpAnyT_take (i := 2) (v := ?_) rfl (by decide +kernel) (by decide +kernel) (by decide +kernel) (by decide +kernel) (by decide +kernel) (fun _ _ _ h => h) (Or.inl ⟨by rfl, ?_⟩) (by assumption) ?_
                        rotate_left
                        · intro w hSw; (try dsimp only at hSw); first | (go_simp; done) | (go_simp; with_reducible rfl)
                        try simp only [Act.put, List.getElem_toArray, List.getElem_cons_succ, List.getElem_cons_zero, List.setIfInBounds_toArray, List.set_cons_zero, List.set_cons_succ]
                        refine wpAnyT_take (i := 3) (v := ?_) rfl (by decide +kernel) (by decide +kernel) (by decide +kernel) (by decide +kernel) (by decide +kernel) (fun _ _ _ h => h) (Or.inl ⟨by rfl, ?_⟩) (by assumption) ?_
                        rotate_left
                        · intro w hSw; (try dsimp only at hSw); first | (go_simp; done) | (go_simp; with_reducible rfl)
                        try simp only [Act.put, List.getElem_toArray, List.getElem_cons_succ, List.getElem_cons_zero, List.setIfInBounds_toArray, List.set_cons_zero, List.set_cons_succ]
                        refine wpAnyT_take (i := 4) (v := ?_) rfl (by decide +kernel) (by decide +kernel) (by decide +kernel) (by decide +kernel) (by decide +kernel) (fun _ _ _ h => h) (Or.inl ⟨by rfl, ?_⟩) (by assumption) ?_
                        rotate_left
                        · intro w hSw; (try dsimp only at hSw); first | (go_simp; done) | (go_simp; with_reducible rfl)
                        try simp only [Act.put, List.getElem_toArray, List.getElem_cons_succ, List.getElem_cons_zero, List.setIfInBounds_toArray, List.set_cons_zero, List.set_cons_succ]
                        refine wpAnyT_take (i := 5) (v := ?_) rfl (by decide +kernel) (by decide +kernel) (by decide +kernel) (by decide +kernel) (by decide +kernel) (fun _ _ _ h => h) (Or.inl ⟨by rfl, ?_⟩) (by assumption) ?_
                        rotate_left
                        · intro w hSw; (try dsimp only at hSw); first | (go_simp; done) | (go_simp; with_reducible rfl)
                        try simp only [Act.put, List.getElem_toArray, List.getElem_cons_succ, List.getElem_cons_zero, List.setIfInBounds_toArray, List.set_cons_zero, List.set_cons_succ]
                        refine wpAnyT_take (i := 6) (v := ?_) rfl (by decide +kernel) (by decide +kernel) (by decide +kernel) (by decide +kernel) (by decide +kernel) (fun _ _ _ h => h) (Or.inl ⟨by rfl, ?_⟩) (by assumption) ?_
                        rotate_left
                        · intro w hSw; (try dsimp only at hSw); first | (go_simp; done) | (go_simp; with_reducible rfl)
                        try simp only [Act.put, List.getElem_toArray, List.getElem_cons_succ, List.getElem_cons_zero, List.setIfInBounds_toArray, List.set_cons_zero, List.set_cons_succ]
                        refine wpAnyT_take (i := 7) (v := ?_) rfl (by decide +kernel) (by decide +kernel) (by decide +kernel) (by decide +kernel) (by decide +kernel) (fun _ _ _ h => h) (Or.inl ⟨by rfl, ?_⟩) (by assumption) ?_
                        rotate_left
                        · intro w hSw; (try dsimp only at hSw); first | (go_simp; done) | (go_simp; with_reducible rfl)
                        try simp only [Act.put, List.getElem_toArray, List.getElem_cons_succ, List.getElem_cons_zero, List.setIfInBounds_toArray, List.set_cons_zero, List.set_cons_succ]
                        refine wpAnyT_take (i := 8) (v := ?_) rfl (by decide +kernel) (by decide +kernel) (by decide +kernel) (by decide +kernel) (by decide +kernel) (fun _ _ _ h => h) (Or.inl ⟨by rfl, ?_⟩) (by assumption) ?_
                        rotate_left
                        · intro w hSw; (try dsimp only at hSw); first | (go_simp; done) | (go_simp; with_reducible rfl)
                        try simp only [Act.put, List.getElem_toArray, List.getElem_cons_succ, List.getElem_cons_zero, List.setIfInBounds_toArray, List.set_cons_zero, List.set_cons_succ]
                        refine wpAnyT_take (i := 9) (v := ?_) rfl (by decide +kernel) (by decide +kernel) (by decide +kernel) (by decide +kernel) (by decide +kernel) (fun _ _ _ h => h) (Or.inl ⟨by rfl, ?_⟩) (by assumption) ?_
                        rotate_left
                        · intro w hSw; (try dsimp only at hSw); first | (go_simp; done) | (go_simp; with_reducible rfl)
                        try simp only [Act.put, List.getElem_toArray, List.getElem_cons_succ, List.getElem_cons_zero, List.setIfInBounds_toArray, List.set_cons_zero, List.set_cons_succ]
                        refine wpAnyT_take (i := 11) (v := ?_) rfl (by decide +kernel) (by decide +kernel) (by decide +kernel) (by decide +kernel) (by decide +kernel) (fun _ _ _ h => h) (Or.inl ⟨by rfl, ?_⟩) (by assumption) ?_
                        rotate_left
                        · intro w hSw; (try dsimp only at hSw); first | (go_simp; done) | (go_simp; with_reducible rfl)
                        try simp only [Act.put, List.getElem_toArray, List.getElem_cons_succ, List.getElem_cons_zero, List.setIfInBounds_toArray, List.set_cons_zero, List.set_cons_succ]
                        refine wpAnyT_take (i := 12) (v := ?_) rfl (by decide +kernel) (by decide +kernel) (by decide +kernel) (by decide +kernel) (by decide +kernel) (fun _ _ _ h => h) (Or.inl ⟨by rfl, ?_⟩) (by assumption) ?_
                        rotate_left
                        · intro w hSw; (try dsimp only at hSw); first | (go_simp; done) | (go_simp; with_reducible rfl)
                        try simp only [Act.put, List.getElem_toArray, List.getElem_cons_succ, List.getElem_cons_zero, List.setIfInBounds_toArray, List.set_cons_zero, List.set_cons_succ]
                        refine wpAnyT_take (i := 14) (v := ?_) rfl (by decide +kernel) (by decide +kernel) (by decide +kernel) (by decide +kernel) (by decide +kernel) (fun _ _ _ h => h) (Or.inl ⟨by rfl, ?_⟩) (by assumption) ?_
                        rotate_left
                        · intro w hSw; (try dsimp only at hSw); first | (go_simp; done) | (go_simp; with_reducible rfl)
                        try simp only [Act.put, List.getElem_toArray, List.getElem_cons_succ, List.getElem_cons_zero, List.setIfInBounds_toArray, List.set_cons_zero, List.set_cons_succ]
                        refine wpAnyT_take (i := 15) (v := ?_) rfl (by decide +kernel) (by decide +kernel) (by decide +kernel) (by decide +kernel) (by decide +kernel) (fun _ _ _ h => h) (Or.inl ⟨by rfl, ?_⟩) (by assumption) ?_
                        rotate_left
                        · intro w hSw; (try dsimp only at hSw); first | (go_simp; done) | (go_simp; with_reducible rfl)
                        try simp only [Act.put, List.getElem_toArray, List.getElem_cons_succ, List.getElem_cons_zero, List.setIfInBounds_toArray, List.set_cons_zero, List.set_cons_succ]
                        refine wpAnyT_take (i := 16) (v := ?_) rfl (by decide +kernel) (by decide +kernel) (by decide +kernel) (by decide +kernel) (by decide +kernel) (fun _ _ _ h => h) (Or.inl ⟨by rfl, ?_⟩) (by assumption) ?_
                        rotate_left
                        · intro w hSw; (try dsimp only at hSw); first | (go_simp; done) | (go_simp; with_reducible rfl)
                        try simp only [Act.put, List.getElem_toArray, List.getElem_cons_succ, List.getElem_cons_zero, List.setIfInBounds_toArray, List.set_cons_zero, List.set_cons_succ]
                        refine wpAnyT_take (i := 17) (v := ?_) rfl (by decide +kernel) (by decide +kernel) (by decide +kernel) (by decide +kernel) (by decide +kernel) (fun _ _ _ h => h) (Or.inl ⟨by rfl, ?_⟩) (by assumption) ?_
                        rotate_left
                        · intro w hSw; (try dsimp only at hSw); first | (go_simp; done) | (go_simp; with_reducible rfl)
                        try simp only [Act.put, List.getElem_toArray, List.getElem_cons_succ, List.getElem_cons_zero, List.setIfInBounds_toArray, List.set_cons_zero, List.set_cons_succ]
                        refine wpAnyT_take (i := 18) (v := ?_) rfl (by decide +kernel) (by decide +kernel) (by decide +kernel) (by decide +kernel) (by decide +kernel) (fun _ _ _ h => h) (Or.inl ⟨by rfl, ?_⟩) (by assumption) ?_
                        rotate_left
                        · intro w hSw; (try dsimp only at hSw); first | (go_simp; done) | (go_simp; with_reducible rfl)
                        try simp only [Act.put, List.getElem_toArray, List.getElem_cons_succ, List.getElem_cons_zero, List.setIfInBounds_toArray, List.set_cons_zero, List.set_cons_succ]
                        refine wpAnyT_take (i := 19) (v := ?_) rfl (by decide +kernel) (by decide +kernel) (by decide +kernel) (by decide +kernel) (by decide +kernel) (fun _ _ _ h => h) (Or.inl ⟨by rfl, ?_⟩) (by assumption) ?_
                        rotate_left
                        · intro w hSw; (try dsimp only at hSw); first | (go_simp; done) | (go_simp; with_reducible rfl)
                        try simp only [Act.put, List.getElem_toArray, List.getElem_cons_succ, List.getElem_cons_zero, List.setIfInBounds_toArray, List.set_cons_zero, List.set_cons_succ]
                        refine wpAnyT_take (i := 20) (v := ?_) rfl (by decide +kernel) (by decide +kernel) (by decide +kernel) (by decide +kernel) (by decide +kernel) (fun _ _ _ h => h) (Or.inl ⟨by rfl, ?_⟩) (by assumption) ?_
                        rotate_left
                        · intro w hSw; (try dsimp only at hSw); first | (go_simp; done) | (go_simp; with_reducible rfl)
                        try simp only [Act.put, List.getElem_toArray, List.getElem_cons_succ, List.getElem_cons_zero, List.setIfInBounds_toArray, List.set_cons_zero, List.set_cons_succ]
                        refine wpAnyT_take (i := 21) (v := ?_) rfl (by decide +kernel) (by decide +kernel) (by decide +kernel) (by decide +kernel) (by decide +kernel) (fun _ _ _ h => h) (Or.inl ⟨by rfl, ?_⟩) (by assumption) ?_
                        rotate_left
                        · intro w hSw; (try dsimp only at hSw); first | (go_simp; done) | (go_simp; with_reducible rfl)
                        try simp only [Act.put, List.getElem_toArray, List.getElem_cons_succ, List.getElem_cons_zero, List.setIfInBounds_toArray, List.set_cons_zero, List.set_cons_succ]
                        refine wpAnyT_one (i := 10) (by kernel_rfl) rfl (fun K hK => ?_)
                        go_simp
                        refine hK.out _ _ ?_ (fun hHeld2 => ?_)
                        · (try dsimp only); exact ⟨cp, cq, c0, c2, c3, cm⟩
                        clear hK K hHeld
                        have hHeld := hHeld2
                        clear hHeld2
                        try simp only [Act.put, List.getElem_toArray, List.getElem_cons_succ, List.getElem_cons_zero, List.setIfInBounds_toArray, List.set_cons_zero, List.set_cons_succ]
                        refine wpAnyT_take (i := 13) (v := ?_) rfl (by decide +kernel) (by decide +kernel) (by decide +kernel) (by decide +kernel) (by decide +kernel) (fun _ _ _ h => h) (Or.inl ⟨by rfl, ?_⟩) (by assumption) ?_
                        rotate_left
                        · intro w hSw; (try dsimp only at hSw); first | (go_simp; done) | (go_simp; with_reducible rfl)
                        try simp only [Act.put, List.getElem_toArray, List.getElem_cons_succ, List.getElem_cons_zero, List.setIfInBounds_toArray, List.set_cons_zero, List.set_cons_succ]
                        refine wpAnyT_take (i := 22) (v := ?_) rfl (by decide +kernel) (by decide +kernel) (by decide +kernel) (by decide +kernel) (by decide +kernel) (fun _ _ _ h => h) (Or.inl ⟨by rfl, ?_⟩) (by assumption) ?_
                        rotate_left
                        · intro w hSw; (try dsimp only at hSw); first | (go_simp; done) | (go_simp; with_reducible rfl)
                        try simp only [Act.put, List.getElem_toArray, List.getElem_cons_succ, List.getElem_cons_zero, List.setIfInBounds_toArray, List.set_cons_zero, List.set_cons_succ]
                        refine wpAnyT_one (i := 23) (by kernel_rfl) rfl (fun K hK => ?_)
                        go_simp
                        refine hK.out _ _ ?_ (fun hHeld2 => ?_)
                        · (try dsimp only); exact ⟨(HR5.out.setL A x).p.cell, (HR5.out.setL A x).q.cell, by go_simp, by go_simp, by go_simp, by go_simp⟩
                        clear hK K hHeld
                        have hHeld := hHeld2
                        clear hHeld2
                        try simp only [Act.put, List.getElem_toArray, List.getElem_cons_succ, List.getElem_cons_zero, List.setIfInBounds_toArray, List.set_cons_zero, List.set_cons_succ]
                        refine wpAnyT_take (i := 24) (v := ?_) rfl (by decide +kernel) (by decide +kernel) (by decide +kernel) (by decide +kernel) (by decide +kernel) (fun _ _ _ h => h) (Or.inl ⟨by rfl, ?_⟩) (by assumption) ?_
                        rotate_left
                        · intro w hSw; (try dsimp only at hSw); first | (go_simp; done) | (go_simp; with_reducible rfl)
                        try simp only [Act.put, List.getElem_toArray, List.getElem_cons_succ, List.getElem_cons_zero, List.setIfInBounds_toArray, List.set_cons_zero, List.set_cons_succ]
                        refine wpAnyT_last (i := 25) (by kernel_rfl) (by kernel_rfl) rfl (by kernel_rfl) (fun K hK => ?_)
                        go_simp
                        refine hK.out _ _ ?_
                        clear hK K
                        try simp only [Act.put, List.getElem_toArray, List.getElem_cons_succ, List.getElem_cons_zero, List.setIfInBounds_toArray, List.set_cons_zero, List.set_cons_succ]
                        clear hHeld
                        go_wp2
                        go_roundw
                        case rel => exact ⟨j + 1, by omega, by go_num, by rw [← HD2.out, ← HD3.out]; exact ((HR5.out.setL A x).setM A y).drew, ((HB5.out.setCell (p := ⟨L, A, none⟩) HL0.out _).setCell (p := ⟨M, A, none⟩) HM0.out _).drew⟩
                        case measure => simp [intOf]; omega
              · have e1 : ((m : Int) == 1) = false := by simp; omega
                have HD2 : Hid (dmL l it 2 (j + 1) = dmL l it 2 j) := dmL_miss (fun k hk h1 h0 => by have := HN1.out; omega)
                have HD3 : Hid (dmL l it 3 (j + 1) = dmL l it 3 j) := dmL_miss (fun k hk h1 h0 => by have := HN1.out; omega)
                clear hm1
                go_wp2_with fail
                go_roundw
                case rel => exact ⟨j + 1, by omega, by go_num, by rw [HD2.out, HD3.out]; exact HRA.out, HBA.out⟩
                case measure => simp [intOf]; omega
          ·
            as_aux_lemma =>
              obtain rfl : j = q := by omega
              have HL2 : Hid ((dmL l it 2 j).length = n) := by show _ = _; rw [dmL_len, HN.out]
              have HL3 : Hid ((dmL l it 3 j).length = n) := by show _ = _; rw [dmL_len, HN.out]
              have HMS : Hid (mxTo (dmL l it 2 j) (dmL l it 3 j) n = ms0 l it) := by
                show _ = _
                have h := mxTo_up (ls := dmL l it 2 j) (ms := dmL l it 3 j)
                rw [HL3.out] at h
                rw [h]; unfold ms0 ls0; rw [HIQ.out]
              have HLS : Hid (dmL l it 2 j = ls0 l it) := by show _ = _; unfold ls0; rw [HIQ.out]
              have HMB : Hid (szTo (ls0 l it) 1048576 ∧ szTo (ms0 l it) 1048576) := ⟨ls0_bd HTK.out (by rw [HN.out]; exact HIT.out), ms0_bd HTK.out (by rw [HN.out]; exact HIT.out)⟩
              have HZ2 : Hid (∀ k, k ≤ j → szTo (sprTo l it gp 2 (ls0 l it) k) 134217728) := fun k hk => sprTo_bd2 HG.out (.inl rfl) (by rw [ls0_len, HN.out]; exact hn) HMB.out.1 (by rw [HIQ.out]; exact hk) (by rw [HIQ.out]; exact hq) (by rw [ls0_len, HN.out]; exact HIT.out)
              have HZ3 : Hid (∀ k, k ≤ j → szTo (sprTo l it gp 3 (ms0 l it) k) 134217728) := fun k hk => sprTo_bd2 HG.out (.inr rfl) (by rw [ms0_len, HN.out]; exact hn) HMB.out.2 (by rw [HIQ.out]; exact hk) (by rw [HIQ.out]; exact hq) (by rw [ms0_len, HN.out]; exact HIT.out)
              have HE2 : Hid (∀ k, (sprTo l it gp 2 (ls0 l it) k).length = n) := fun k => by rw [sprTo_len, ls0_len, HN.out]
              have HE3 : Hid (∀ k, (sprTo l it gp 3 (ms0 l it) k).length = n) := fun k => by rw [sprTo_len, ms0_len, HN.out]
              have HLEA : Hid (sprTo l it gp 2 (ls0 l it) j = leastL l it gp) := by show _ = _; unfold leastL; rw [HIQ.out]
              have HMOS : Hid (mxTo (leastL l it gp) (sprTo l it gp 3 (ms0 l it) j) n = mostL l it gp) := by
                show _ = _
                have h := mxTo_up (ls := leastL l it gp) (ms := sprTo l it gp 3 (ms0 l it) j)
                rw [HE3.out] at h
                rw [h]; unfold mostL; rw [HIQ.out]
              have HLL : Hid ((leastL l it gp).length = n) := by show _ = _; rw [leastL_len, HN.out]
              clear hj
              go_wp2_with (go_at_call 42; refine (raise_any P Q L M n P _ _ _ HRj.out hn HL2.out HL3.out HM0.out).mono ?_; rintro e w3 ⟨rfl, hr3, hb3⟩; have HR3 := Lib.hid hr3; have HB3 : Hid (Below P w w3) := HBj.out.trans hb3; clear hr3 hb3)
              rw [HMS.out, HLS.out] at HR3
              clear HRj HBj HR2 HBk
              go_loopw [92] (fun i wx => ∃ k : Nat, k ≤ j ∧ i = .int .i64 k ∧ Rows2 P Q L M n (sprTo l it gp 2 (ls0 l it) k) (ms0 l it) wx ∧ Below P w wx) (fun i _ => j - (intOf i).toNat)
              case atStart => exact ⟨0, Nat.zero_le _, rfl, HR3.out, HB3.out⟩
              case round =>
                obtain ⟨k, hk, rfl, hr, hbl⟩ := hrel
                have HRk := Lib.hid hr
                have HBk := Lib.hid hbl
                clear hr hbl
                by_cases hkq : k < j
                ·
                  as_aux_lemma =>
                    obtain ⟨ib, io, rfl, ilt, icell⟩ := HI3.out (by omega)
                    rw [HP.out] at ilt
                    have i0 := (HBk.out.cell (p := ⟨ib, io + k * 4 + 0, none⟩) ilt).trans (icell k hkq 0 (by omega))
                    have i1 := (HBk.out.cell (p := ⟨ib, io + k * 4 + 1, none⟩) ilt).trans (icell k hkq 1 (by omega))
                    have i2 := (HBk.out.cell (p := ⟨ib, io + k * 4 + 2, none⟩) ilt).trans (icell k hkq 2 (by omega))
                    have i3 := (HBk.out.cell (p := ⟨ib, io + k * 4 + 3, none⟩) ilt).trans (icell k hkq 3 (by omega))
                    rw [Nat.add_zero] at i0
                    have hib := itsB_at HIT.out (j := k) (by rw [HIQ.out]; exact hkq)
                    obtain ⟨n0, n1, n2, n3⟩ := itB_nat hib
                    have hbd := itB_out hib
                    have HSN : Hid (sprTo l it gp 2 (ls0 l it) (k + 1) = if 1 < gf it k 1 then spr l gp (itA it k) (itS it k) (gf it k 2) (sprTo l it gp 2 (ls0 l it) k) else sprTo l it gp 2 (ls0 l it) k) := rfl
                    obtain ⟨A, hA⟩ : ∃ A, itA it k = A := ⟨_, rfl⟩
                    obtain ⟨m, hm⟩ : ∃ m, itS it k = m := ⟨_, rfl⟩
                    rw [hA] at n0 n3 HSN
                    rw [hm] at n1 n2 n3 HSN
                    rw [n1] at HSN
                    rw [n0] at i0
                    rw [n1] at i1
                    obtain ⟨q2, hq2⟩ : ∃ q, gf it k 2 = q := ⟨_, rfl⟩
                    obtain ⟨q3, hq3⟩ : ∃ q, gf it k 3 = q := ⟨_, rfl⟩
                    rw [hq2] at i2 hbd
                    rw [hq3] at i3 hbd
                    rw [hq2] at HSN
                    have HQB : Hid ((0 ≤ q2 ∧ q2 ≤ 1048576) ∧ (0 ≤ q3 ∧ q3 ≤ 1048576)) := ⟨hbd.1, hbd.2.1⟩
                    have hkq' : (k : Int) < (j : Int) := by omega
                    have hk0 : (0 : Int) ≤ (k : Int) := by omega
                    obtain ⟨b, off, rfl, hlt, hcell⟩ := H3.out (by omega)
                    rw [HP.out] at hlt
                    have HBS : Hid (P ≤ wr.heap.size) := by have := HBk.out.size; rw [HP.out] at this; exact this
                    have HRA : Hid (Rows2 P Q L M n (sprTo l it gp 2 (ls0 l it) k) (ms0 l it) (wr.alloc (.cells #[.int .i64 A, .int .i64 m, .int .i64 q2, .int .i64 q3] 44))) := HRk.out.below ((Below.refl wr.heap.size wr).alloc (Nat.le_refl _) _) (Nat.le_refl _)
                    have HBA : Hid (Below P w (wr.alloc (.cells #[.int .i64 A, .int .i64 m, .int .i64 q2, .int .i64 q3] 44))) := HBk.out.alloc HBS.out _
                    have HSA : Hid (P ≤ (wr.alloc (.cells #[.int .i64 A, .int .i64 m, .int .i64 q2, .int .i64 q3] 44)).heap.size) := by have := HBS.out; show _ ≤ _; rw [World.size_alloc]; omega
                    have HCA : Hid (∀ i, i < n → ∀ j, j < 2 → (wr.alloc (.cells #[.int .i64 A, .int .i64 m, .int .i64 q2, .int .i64 q3] 44)).cell? ⟨b, off + i * 2 + j, none⟩ = some (.int .i64 (gf l i j))) := fun i hi j hj => (HBA.out.cell (p := ⟨b, off + i * 2 + j, none⟩) hlt).trans (hcell i hi j hj)
                    have HBL : Hid (b < (wr.alloc (.cells #[.int .i64 A, .int .i64 m, .int .i64 q2, .int .i64 q3] 44)).heap.size ∧ b ≠ L) := by have h1 := HBS.out; have h2 := HL0.out; exact ⟨by rw [World.size_alloc]; omega, by omega⟩
                    clear n0 n1 hA hm hq2 hq3 icell hcell hbd hib
                    by_cases hm1 : 1 < m
                    · rw [if_pos (by omega)] at HSN
                      have e1 : (1 : Int) < (m : Int) := by omega
                      have e2 : decide ((1 : Int) < (m : Int)) = true := by simpa using e1
                      have cp := HRA.out.p.cell
                      have cq := HRA.out.q.cell
                      have HM1 : Hid (1 ≤ m ∧ A + m ≤ n) := ⟨n2, n3⟩
                      clear hm1 n2 n3
                      go_wp2_with fail
                      refine (spread_any b off cap n L A m gp q2 q3 q2 l _ _ hn HBL.out.2 HBL.out.1 HRA.out.l (HE2.out k) (HZ2.out k (by omega)) HG.out HM1.out.1 HM1.out.2 HQB.out.1 HCA.out).mono ?_
                      rintro e w4 ⟨rfl, ho4, ht4⟩
                      have HR4 : Hid (Rows2 P Q L M n (sprTo l it gp 2 (ls0 l it) (k + 1)) (ms0 l it) w4) := by
                        show Rows2 _ _ _ _ _ _ _ _
                        rw [HSN.out]; exact HRA.out.turnL ht4 ho4
                      have HB4 : Hid (Below P w w4) := HBA.out.trans (ht4.low HL0.out HL0.out HSA.out)
                      clear ho4 ht4 cp cq
                      go_wp2_with fail
                      go_roundw
                      case rel => exact ⟨k + 1, by omega, by go_num, HR4.out, HB4.out⟩
                      case measure => simp [intOf]; omega
                    · rw [if_neg (by omega)] at HSN
                      have e1 : ¬ (1 : Int) < (m : Int) := by omega
                      have e2 : decide ((1 : Int) < (m : Int)) = false := by simpa using e1
                      clear hm1
                      go_wp2_with fail
                      go_roundw
                      case rel => exact ⟨k + 1, by omega, by go_num, by rw [HSN.out]; exact HRA.out, HBA.out⟩
                      case measure => simp [intOf]; omega
                · obtain rfl : k = j := by omega
                  as_aux_lemma =>
                    rw [HLEA.out] at HRk
                    obtain ⟨w5, rfl⟩ : ∃ x : World, x = wr := ⟨_, rfl⟩
                    go_wp2_with fail
                    go_loopw [109] (fun i wx => ∃ k' : Nat, k' ≤ k ∧ i = .int .i64 k' ∧ Rows2 P Q L M n (leastL l it gp) (sprTo l it gp 3 (ms0 l it) k') wx ∧ Below P w wx) (fun i _ => k - (intOf i).toNat)
                    case atStart => exact ⟨0, Nat.zero_le _, rfl, HRk.out, HBk.out⟩
                    case round =>
                      obtain ⟨j, hj2, rfl, hr, hbl⟩ := hrel
                      have HRj := Lib.hid hr
                      have HBj := Lib.hid hbl
                      clear hr hbl HRk HBk
                      by_cases hjq2 : j < k
                      ·
                        as_aux_lemma =>
                          obtain ⟨ib, io, rfl, ilt, icell⟩ := HI3.out (by omega)
                          rw [HP.out] at ilt
                          have i0 := (HBj.out.cell (p := ⟨ib, io + j * 4 + 0, none⟩) ilt).trans (icell j hjq2 0 (by omega))
                          have i1 := (HBj.out.cell (p := ⟨ib, io + j * 4 + 1, none⟩) ilt).trans (icell j hjq2 1 (by omega))
                          have i2 := (HBj.out.cell (p := ⟨ib, io + j * 4 + 2, none⟩) ilt).trans (icell j hjq2 2 (by omega))
                          have i3 := (HBj.out.cell (p := ⟨ib, io + j * 4 + 3, none⟩) ilt).trans (icell j hjq2 3 (by omega))
                          rw [Nat.add_zero] at i0
                          have hib := itsB_at HIT.out (j := j) (by rw [HIQ.out]; exact hjq2)
                          obtain ⟨n0, n1, n2, n3⟩ := itB_nat hib
                          have hbd := itB_out hib
                          have HSN : Hid (sprTo l it gp 3 (ms0 l it) (j + 1) = if 1 < gf it j 1 then spr l gp (itA it j) (itS it j) (gf it j 3) (sprTo l it gp 3 (ms0 l it) j) else sprTo l it gp 3 (ms0 l it) j) := rfl
                          obtain ⟨A, hA⟩ : ∃ A, itA it j = A := ⟨_, rfl⟩
                          obtain ⟨m, hm⟩ : ∃ m, itS it j = m := ⟨_, rfl⟩
                          rw [hA] at n0 n3 HSN
                          rw [hm] at n1 n2 n3 HSN
                          rw [n1] at HSN
                          rw [n0] at i0
                          rw [n1] at i1
                          obtain ⟨q2, hq2⟩ : ∃ q, gf it j 2 = q := ⟨_, rfl⟩
                          obtain ⟨q3, hq3⟩ : ∃ q, gf it j 3 = q := ⟨_, rfl⟩
                          rw [hq2] at i2 hbd
                          rw [hq3] at i3 hbd
                          rw [hq3] at HSN
                          have HQB : Hid ((0 ≤ q2 ∧ q2 ≤ 1048576) ∧ (0 ≤ q3 ∧ q3 ≤ 1048576)) := ⟨hbd.1, hbd.2.1⟩
                          have hjq2' : (j : Int) < (k : Int) := by omega
                          have hk0 : (0 : Int) ≤ (j : Int) := by omega
                          obtain ⟨b, off, rfl, hlt, hcell⟩ := H3.out (by omega)
                          rw [HP.out] at hlt
                          have HBS : Hid (P ≤ wr.heap.size) := by have := HBj.out.size; rw [HP.out] at this; exact this
                          have HRA : Hid (Rows2 P Q L M n (leastL l it gp) (sprTo l it gp 3 (ms0 l it) j) (wr.alloc (.cells #[.int .i64 A, .int .i64 m, .int .i64 q2, .int .i64 q3] 44))) := HRj.out.below ((Below.refl wr.heap.size wr).alloc (Nat.le_refl _) _) (Nat.le_refl _)
                          have HBA : Hid (Below P w (wr.alloc (.cells #[.int .i64 A, .int .i64 m, .int .i64 q2, .int .i64 q3] 44))) := HBj.out.alloc HBS.out _
                          have HSA : Hid (P ≤ (wr.alloc (.cells #[.int .i64 A, .int .i64 m, .int .i64 q2, .int .i64 q3] 44)).heap.size) := by have := HBS.out; show _ ≤ _; rw [World.size_alloc]; omega
                          have HCA : Hid (∀ i, i < n → ∀ k, k < 2 → (wr.alloc (.cells #[.int .i64 A, .int .i64 m, .int .i64 q2, .int .i64 q3] 44)).cell? ⟨b, off + i * 2 + k, none⟩ = some (.int .i64 (gf l i k))) := fun i hi k hj => (HBA.out.cell (p := ⟨b, off + i * 2 + k, none⟩) hlt).trans (hcell i hi k hj)
                          have HBL : Hid (b < (wr.alloc (.cells #[.int .i64 A, .int .i64 m, .int .i64 q2, .int .i64 q3] 44)).heap.size ∧ b ≠ M) := by have h1 := HBS.out; have h2 := HM0.out; exact ⟨by rw [World.size_alloc]; omega, by omega⟩
                          clear n0 n1 hA hm hq2 hq3 icell hcell hbd hib
                          by_cases hm1 : 1 < m
                          · rw [if_pos (by omega)] at HSN
                            have e1 : (1 : Int) < (m : Int) := by omega
                            have e2 : decide ((1 : Int) < (m : Int)) = true := by simpa using e1
                            have cp := HRA.out.p.cell
                            have cq := HRA.out.q.cell
                            have HM1 : Hid (1 ≤ m ∧ A + m ≤ n) := ⟨n2, n3⟩
                            clear hm1 n2 n3
                            go_wp2_with fail
                            refine (spread_any b off cap n M A m gp q2 q3 q3 l _ _ hn HBL.out.2 HBL.out.1 HRA.out.m (HE3.out j) (HZ3.out j (by omega)) HG.out HM1.out.1 HM1.out.2 HQB.out.2 HCA.out).mono ?_
                            rintro e w4 ⟨rfl, ho4, ht4⟩
                            have HR4 : Hid (Rows2 P Q L M n (leastL l it gp) (sprTo l it gp 3 (ms0 l it) (j + 1)) w4) := by
                              show Rows2 _ _ _ _ _ _ _ _
                              rw [HSN.out]; exact HRA.out.turnM ht4 ho4
                            have HB4 : Hid (Below P w w4) := HBA.out.trans (ht4.low HM0.out HM0.out HSA.out)
                            clear ho4 ht4 cp cq
                            go_wp2_with fail
                            go_roundw
                            case rel => exact ⟨j + 1, by omega, by go_num, HR4.out, HB4.out⟩
                            case measure => simp [intOf]; omega
                          · rw [if_neg (by omega)] at HSN
                            have e1 : ¬ (1 : Int) < (m : Int) := by omega
                            have e2 : decide ((1 : Int) < (m : Int)) = false := by simpa using e1
                            clear hm1
                            go_wp2_with fail
                            go_roundw
                            case rel => exact ⟨j + 1, by omega, by go_num, by rw [HSN.out]; exact HRA.out, HBA.out⟩
                            case measure => simp [intOf]; omega
                      · obtain rfl : j = k := by omega
                        as_aux_lemma =>
                          go_wp2_with (go_at_call 42; refine (raise_any P Q L M n P _ _ _ HRj.out hn HLL.out (HE3.out j) HM0.out).mono ?_; rintro e w6 ⟨rfl, hr6, hb6⟩; rw [HMOS.out] at hr6; have HR6 := Lib.hid hr6; have HB6 : Hid (Below P w w6) := HBj.out.trans hb6; have cp := hr6.p.cell; have cq := hr6.q.cell; have fp := hr6.p.free 0; have fq := hr6.q.free 0; have hpq := hr6.pq; have hqp := hr6.pq.symm; clear hr6 hb6)
                          have z1 : (w6.setCell ⟨P, 0, none⟩ (.slice (some ⟨L, 0, none⟩) n n)).cell? ⟨P, 0, none⟩ = some (.slice (some ⟨L, 0, none⟩) n n) := (HR6.out.p.set _).cell
                          have z2 : (w6.setCell ⟨Q, 0, none⟩ (.slice (some ⟨M, 0, none⟩) n n)).cell? ⟨Q, 0, none⟩ = some (.slice (some ⟨M, 0, none⟩) n n) := (HR6.out.q.set _).cell
                          go_region
                          all_goals go_wp2
                          all_goals (try simp only [Exit.inBlock, Exit.then])
                          all_goals
                            refine bodyPost_ret (v := .tuple #[.slice (some ⟨L, 0, none⟩) n n, .slice (some ⟨M, 0, none⟩) n n]) (by simp [results, Try.results29, go_sem, z1, z2, cp, cq, hpq, hqp]) rfl ?_
                          · have hR := HR6.out
                            refine ⟨L, M, rfl, ?_, ?_, hR.lm, by rw [HP.out]; exact HL0.out, by rw [HP.out]; exact HM0.out, ?_⟩
                            · exact ((hR.l.set_other hR.pl 0 _).set_other hR.ql 0 _).drew
                            · exact ((hR.m.set_other hR.pm 0 _).set_other hR.qm 0 _).drew
                            · rw [HP.out]; exact ((HB6.out.setCell (p := ⟨P, 0, none⟩) (Nat.le_refl _) _).setCell (p := ⟨Q, 0, none⟩) (by have := HQ.out; show P ≤ Q; omega) _).drew
end Go.Proofs.Ytadkkkdecejkeaa

