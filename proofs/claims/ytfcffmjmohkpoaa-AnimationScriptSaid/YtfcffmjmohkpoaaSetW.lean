/- Set of package animation (printed by wip/gen_set.py). -/
import Derived.Test.YtfcffmjmohkpoaaSetA
import Derived.Test.YtfcffmjmohkpoaaCopy
import Derived.Deep.RegionHeld3
import Derived.Test.YtfcffmjmohkpoaaTail
namespace Go.Proofs.Ytfcffmjmohkpoaa
open Go.RowKit
set_option linter.unusedVariables false
set_option linter.unusedSimpArgs false

/-- What a call of Set leaves. -/
def Setted (l : List Anim) (a : Anim) (now : Int) (w : World) (e : Ending) (w' : World) : Prop :=
  ∃ u, e = .returned (.tuple #[u, .int .i64 (setErr l a now)]) ∧ IsAnims w' u (setOn l a now) ∧ Below w.heap.size w w'
theorem Setted.no {l : List Anim} {a : Anim} {now c : Int} {w w' : World} (h : setErr l a now = c) (hc : c ≠ 0) (hb : Below w.heap.size w w') : Setted l a now w (.returned (.tuple #[.slice none 0 0, .int .i64 c])) w' := by
  refine ⟨_, by rw [h], ?_, hb⟩
  rw [setOn, if_neg (by rw [h]; exact hc)]; exact IsRecs.nil 16 _
/-- A store of a whole animation, in a region that draws its order. -/
theorem step_store_anim {ops : Array Oper} {o : Oper} {a : Act} {w : World} {K : Act → World → Prop} {Q : Exit → Act → World → Prop} {E : Prop} (hgd : o.guard = none) (x y : Operand) (ho : o.op = .store 38 x y)
    (b : Nat) (vs : List Value) (hl : vs.length = 16) (hx : a.eval x = .pointer (some ⟨b, 0, none⟩)) (hy : a.eval y = .agg vs.toArray) (cs : List Value) (t : TypeId) (hc : AnimBlk w b t cs)
    (h1 : vs.toArray.all (·.oneCell') = true)
    (h : ∀ w', AnimBlk w' b t vs → (∀ B, B ≤ b → Below B w w') → K (a.put o.dst undef) w') : if Region.wanted o (yielded ops a.tmps) = true then Oper.wp Try.prog o a w K Q else E := by
  have hw : Region.wanted o (yielded ops a.tmps) = true := by simp [Region.wanted, hgd]
  rw [if_pos hw]
  refine wp_store_mid 38 x y ho b 0 vs.toArray hx hy (by rw [List.size_toArray, hl]; exact hc.there) (by rw [List.size_toArray, hl]; exact anim_row.2) h1 (h _ ?_ (fun B hB => ?_))
  · have k := AnimBlk.fillL b t vs 0 w cs hc (by rw [hl, hc.1])
    simpa using k
  · exact below_fillL hB vs 0 w (Below.refl _ _)
theorem info_anim2 : (Try.prog.info? 38).map (fun i => (i.zero, i.size, i.bytes)) = some (some (.agg #[.int .i64 0, .int .i64 0, .int .i64 0, .int .i64 0, .int .i64 0, .int .i64 0, .int .i64 0, .int .i64 0, .int .i64 0, .int .i64 0, .int .i64 0, .int .i64 0, .int .i64 0, .int .i64 0, .int .i64 0, .int .i64 0]), 16, 128) := by kernel_rfl
theorem PlaceTo.skip {l : List Anim} {a : Anim} {k p : Nat} (h : PlaceTo l a k p) (hk : k < l.length) (hs : p = l.length → sameKey (ga l k) a = false) : PlaceTo l a (k + 1) p := by
  rcases h with ⟨h1, h2⟩ | ⟨h1, h2, h3⟩
  · refine .inl ⟨h1, fun i hi => ?_⟩
    by_cases c : i = k
    · subst c; exact hs h1
    · exact h2 i (by omega)
  · exact .inr ⟨by omega, h2, h3⟩
theorem PlaceTo.here {l : List Anim} {a : Anim} {k : Nat} (h : PlaceTo l a k l.length) (hk : k < l.length) (hs : sameKey (ga l k) a = true) : PlaceTo l a (k + 1) k := by
  rcases h with ⟨h1, h2⟩ | ⟨h1, h2, h3⟩
  · exact .inr ⟨by omega, hs, h2⟩
  · omega

set_option maxHeartbeats 16000000 in
set_option maxRecDepth 100000 in
theorem set_in (v : Value) (l : List Anim) (q0 q1 q2 q3 q4 q5 q6 q7 q8 q9 q10 q11 q12 q13 q14 q15 now : Int) (w : World) (hv : IsAnims w v l) (hl : l.length ≤ 64) (hbt : btw now 0 1099511627776 = true) :
    Calls Try.prog 33 #[v, .agg #[.int .i64 q0, .int .i64 q1, .int .i64 q2, .int .i64 q3, .int .i64 q4, .int .i64 q5, .int .i64 q6, .int .i64 q7, .int .i64 q8, .int .i64 q9, .int .i64 q10, .int .i64 q11, .int .i64 q12, .int .i64 q13, .int .i64 q14, .int .i64 q15], .int .i64 now] w (Setted l (⟨q0, q1, q2, q3, q4, q5, q6, q7, q8, q9, q10, q11, q12, q13, q14, q15⟩ : Anim) now w) := by
  obtain ⟨i0, hi0, hz0, hz1, hz2⟩ := info_parts info_anim2
  obtain ⟨a, cap, rfl, h1, h2, h3⟩ := hv.open_
  obtain ⟨n, hn⟩ : ∃ n, l.length = n := ⟨_, rfl⟩
  rw [hn] at hv h1 h3 hl ⊢
  have HV0 := Lib.hid hv
  have H3 := Lib.hid h3
  have HN := Lib.hid hn
  have hl' : (n : Int) ≤ 64 := by omega
  have HP0 : Hid (PlaceTo l (⟨q0, q1, q2, q3, q4, q5, q6, q7, q8, q9, q10, q11, q12, q13, q14, q15⟩ : Anim) 0 n) := by have := PlaceTo.start l (⟨q0, q1, q2, q3, q4, q5, q6, q7, q8, q9, q10, q11, q12, q13, q14, q15⟩ : Anim); rwa [hn] at this
  clear h3 hn h2 hv
  go_enter Try.func33, Try.ntmps33
  go_wp2_with (go_at_call 39; refine (between_any _ _ _ _).mono ?_; rintro e w' ⟨rfl, rfl⟩)
  go_loopw [8, 24] (fun p i wr => ∃ k pl : Nat, k ≤ n ∧ i = .int .i64 k ∧ p = .int .i64 pl ∧ Hid (PlaceTo l (⟨q0, q1, q2, q3, q4, q5, q6, q7, q8, q9, q10, q11, q12, q13, q14, q15⟩ : Anim) k pl) ∧ Hid (validTo l k) ∧ Below (w.alloc (.cells #[.int .i64 q0, .int .i64 q1, .int .i64 q2, .int .i64 q3, .int .i64 q4, .int .i64 q5, .int .i64 q6, .int .i64 q7, .int .i64 q8, .int .i64 q9, .int .i64 q10, .int .i64 q11, .int .i64 q12, .int .i64 q13, .int .i64 q14, .int .i64 q15] 38)).heap.size (w.alloc (.cells #[.int .i64 q0, .int .i64 q1, .int .i64 q2, .int .i64 q3, .int .i64 q4, .int .i64 q5, .int .i64 q6, .int .i64 q7, .int .i64 q8, .int .i64 q9, .int .i64 q10, .int .i64 q11, .int .i64 q12, .int .i64 q13, .int .i64 q14, .int .i64 q15] 38)) wr) (fun _ i _ => n - (intOf i).toNat)
  case atStart => exact ⟨0, n, Nat.zero_le _, rfl, rfl, HP0, fun i hi => absurd hi (Nat.not_lt_zero _), Below.refl _ _⟩
  case round =>
    obtain ⟨k, pl, hk, rfl, rfl, HP, HV, hbl⟩ := hrel
    have HB := Lib.hid hbl
    have hbw : Below w.heap.size w wr := ((Below.refl _ _).alloc (Nat.le_refl _) _).trans (hbl.mono (by simp))
    have HBW := Lib.hid hbw
    by_cases hkn : k < n
    · skip
      obtain ⟨b, off, rfl, hlt, hcell⟩ := H3.out (by omega)
      have hoff := (hcell k hkn).kept hbw hlt
      obtain ⟨g, hg⟩ : ∃ g, ga l k = g := ⟨_, rfl⟩
      have HG := Lib.hid hg
      have HS := Lib.hid (HP.out.skip (by rw [HN.out]; exact hkn))
      have HHr : Hid (pl = n → sameKey (ga l k) (⟨q0, q1, q2, q3, q4, q5, q6, q7, q8, q9, q10, q11, q12, q13, q14, q15⟩ : Anim) = true → PlaceTo l (⟨q0, q1, q2, q3, q4, q5, q6, q7, q8, q9, q10, q11, q12, q13, q14, q15⟩ : Anim) (k + 1) k) := fun e1 e2 => by
        have hp := HP.out
        rw [e1, ← HN.out] at hp
        exact hp.here (by rw [HN.out]; exact hkn) e2
      rw [hg] at hoff
      obtain ⟨g0, g1, g2, g3, g4, g5, g6, g7, g8, g9, g10, g11, g12, g13, g14, g15⟩ := g
      obtain ⟨c0, c1, c2, c3, c4, c5, c6, c7, c8, c9, c10, c11, c12, c13, c14, c15⟩ := hoff
      simp only at c0 c1 c2 c3 c4 c5 c6 c7 c8 c9 c10 c11 c12 c13 c14 c15
      clear hcell hbl hbw hg
      by_cases he : (⟨g0, g1, g2, g3, g4, g5, g6, g7, g8, g9, g10, g11, g12, g13, g14, g15⟩ : Anim).err = 0
      · have HE := Lib.hid he
        have HVs : Hid (validTo l (k + 1)) := by
          intro i hi
          by_cases ci : i = k
          · subst ci; rw [HG.out]; exact HE.out
          · exact HV.out i (by omega)
        clear he
        have HB2 : Hid (∀ w2 o, Below (wr.alloc o).heap.size (wr.alloc o) w2 → Below (w.alloc (.cells #[.int .i64 q0, .int .i64 q1, .int .i64 q2, .int .i64 q3, .int .i64 q4, .int .i64 q5, .int .i64 q6, .int .i64 q7, .int .i64 q8, .int .i64 q9, .int .i64 q10, .int .i64 q11, .int .i64 q12, .int .i64 q13, .int .i64 q14, .int .i64 q15] 38)).heap.size (w.alloc (.cells #[.int .i64 q0, .int .i64 q1, .int .i64 q2, .int .i64 q3, .int .i64 q4, .int .i64 q5, .int .i64 q6, .int .i64 q7, .int .i64 q8, .int .i64 q9, .int .i64 q10, .int .i64 q11, .int .i64 q12, .int .i64 q13, .int .i64 q14, .int .i64 q15] 38)) w2) := fun w2 o hb => (HB.out.alloc HB.out.size _).trans (hb.mono (by have := HB.out.size; simp at this ⊢; omega))
        have hbx := fun (w2 : World) (hb : Below (wr.alloc (.cells #[.int .i64 g0, .int .i64 g1, .int .i64 g2, .int .i64 g3, .int .i64 g4, .int .i64 g5, .int .i64 g6, .int .i64 g7, .int .i64 g8, .int .i64 g9, .int .i64 g10, .int .i64 g11, .int .i64 g12, .int .i64 g13, .int .i64 g14, .int .i64 g15] 38)).heap.size (wr.alloc (.cells #[.int .i64 g0, .int .i64 g1, .int .i64 g2, .int .i64 g3, .int .i64 g4, .int .i64 g5, .int .i64 g6, .int .i64 g7, .int .i64 g8, .int .i64 g9, .int .i64 g10, .int .i64 g11, .int .i64 g12, .int .i64 g13, .int .i64 g14, .int .i64 g15] 38)) w2) => (animAt_new wr g0 g1 g2 g3 g4 g5 g6 g7 g8 g9 g10 g11 g12 g13 g14 g15).kept hb (by simp)
        have HBX := Lib.hid hbx
        clear hbx
        by_cases hpl : pl = n
        · subst hpl
          by_cases k0 : g0 = q0
          · by_cases k1 : g1 = q1
            · have HK : Hid (PlaceTo l (⟨q0, q1, q2, q3, q4, q5, q6, q7, q8, q9, q10, q11, q12, q13, q14, q15⟩ : Anim) (k + 1) k) := HHr.out rfl (by rw [HG.out]; simp [sameKey, k0, k1])
              have f0 : (g0 == q0) = true := by simpa using k0
              have f1 : (g1 == q1) = true := by simpa using k1
              clear k0 k1
              as_aux_lemma =>
              go_wp2_with fail
              refine (Validate_any _ _ _ _ _ _ _ _ _ _ _ _ _ _ _ _ _).mono ?_
              rw [HE.out]
              rintro e w2 ⟨rfl, hb⟩
              obtain ⟨d0, d1, d2, d3, d4, d5, d6, d7, d8, d9, d10, d11, d12, d13, d14, d15⟩ := HBX.out _ hb
              have HBn := Lib.hid (HB2.out _ _ hb)
              have HA2 : AnimBlk w2 w.heap.size 38 [.int .i64 q0, .int .i64 q1, .int .i64 q2, .int .i64 q3, .int .i64 q4, .int .i64 q5, .int .i64 q6, .int .i64 q7, .int .i64 q8, .int .i64 q9, .int .i64 q10, .int .i64 q11, .int .i64 q12, .int .i64 q13, .int .i64 q14, .int .i64 q15] := (animBlk_new w [.int .i64 q0, .int .i64 q1, .int .i64 q2, .int .i64 q3, .int .i64 q4, .int .i64 q5, .int .i64 q6, .int .i64 q7, .int .i64 q8, .int .i64 q9, .int .i64 q10, .int .i64 q11, .int .i64 q12, .int .i64 q13, .int .i64 q14, .int .i64 q15] _ rfl).kept HBn.out (by simp)
              have ha0 : w2.cell? ⟨w.heap.size, 0, none⟩ = some (.int .i64 q0) := (HA2.cell 0).trans rfl
              have ha1 : w2.cell? ⟨w.heap.size, 1, none⟩ = some (.int .i64 q1) := (HA2.cell 1).trans rfl
              clear hb HA2
              go_wp2
              go_roundw
              case rel => exact ⟨k + 1, k, by omega, by go_num, rfl, HK, HVs, HBn.out⟩
              case measure => simp [intOf]; omega

            · have HK : Hid (PlaceTo l (⟨q0, q1, q2, q3, q4, q5, q6, q7, q8, q9, q10, q11, q12, q13, q14, q15⟩ : Anim) (k + 1) pl) := HS.out (fun _ => by rw [HG.out]; simp [sameKey, k1])
              have f0 : (g0 == q0) = true := by simpa using k0
              have f1 : (g1 == q1) = false := by simpa using k1
              clear k0 k1
              as_aux_lemma =>
              go_wp2_with fail
              refine (Validate_any _ _ _ _ _ _ _ _ _ _ _ _ _ _ _ _ _).mono ?_
              rw [HE.out]
              rintro e w2 ⟨rfl, hb⟩
              obtain ⟨d0, d1, d2, d3, d4, d5, d6, d7, d8, d9, d10, d11, d12, d13, d14, d15⟩ := HBX.out _ hb
              have HBn := Lib.hid (HB2.out _ _ hb)
              have HA2 : AnimBlk w2 w.heap.size 38 [.int .i64 q0, .int .i64 q1, .int .i64 q2, .int .i64 q3, .int .i64 q4, .int .i64 q5, .int .i64 q6, .int .i64 q7, .int .i64 q8, .int .i64 q9, .int .i64 q10, .int .i64 q11, .int .i64 q12, .int .i64 q13, .int .i64 q14, .int .i64 q15] := (animBlk_new w [.int .i64 q0, .int .i64 q1, .int .i64 q2, .int .i64 q3, .int .i64 q4, .int .i64 q5, .int .i64 q6, .int .i64 q7, .int .i64 q8, .int .i64 q9, .int .i64 q10, .int .i64 q11, .int .i64 q12, .int .i64 q13, .int .i64 q14, .int .i64 q15] _ rfl).kept HBn.out (by simp)
              have ha0 : w2.cell? ⟨w.heap.size, 0, none⟩ = some (.int .i64 q0) := (HA2.cell 0).trans rfl
              have ha1 : w2.cell? ⟨w.heap.size, 1, none⟩ = some (.int .i64 q1) := (HA2.cell 1).trans rfl
              clear hb HA2
              go_wp2
              go_roundw
              case rel => exact ⟨k + 1, pl, by omega, by go_num, rfl, HK, HVs, HBn.out⟩
              case measure => simp [intOf]; omega

          · have HK : Hid (PlaceTo l (⟨q0, q1, q2, q3, q4, q5, q6, q7, q8, q9, q10, q11, q12, q13, q14, q15⟩ : Anim) (k + 1) pl) := HS.out (fun _ => by rw [HG.out]; simp [sameKey, k0])
            have f0 : (g0 == q0) = false := by simpa using k0
            clear k0
            as_aux_lemma =>
            go_wp2_with fail
            refine (Validate_any _ _ _ _ _ _ _ _ _ _ _ _ _ _ _ _ _).mono ?_
            rw [HE.out]
            rintro e w2 ⟨rfl, hb⟩
            obtain ⟨d0, d1, d2, d3, d4, d5, d6, d7, d8, d9, d10, d11, d12, d13, d14, d15⟩ := HBX.out _ hb
            have HBn := Lib.hid (HB2.out _ _ hb)
            have HA2 : AnimBlk w2 w.heap.size 38 [.int .i64 q0, .int .i64 q1, .int .i64 q2, .int .i64 q3, .int .i64 q4, .int .i64 q5, .int .i64 q6, .int .i64 q7, .int .i64 q8, .int .i64 q9, .int .i64 q10, .int .i64 q11, .int .i64 q12, .int .i64 q13, .int .i64 q14, .int .i64 q15] := (animBlk_new w [.int .i64 q0, .int .i64 q1, .int .i64 q2, .int .i64 q3, .int .i64 q4, .int .i64 q5, .int .i64 q6, .int .i64 q7, .int .i64 q8, .int .i64 q9, .int .i64 q10, .int .i64 q11, .int .i64 q12, .int .i64 q13, .int .i64 q14, .int .i64 q15] _ rfl).kept HBn.out (by simp)
            have ha0 : w2.cell? ⟨w.heap.size, 0, none⟩ = some (.int .i64 q0) := (HA2.cell 0).trans rfl
            have ha1 : w2.cell? ⟨w.heap.size, 1, none⟩ = some (.int .i64 q1) := (HA2.cell 1).trans rfl
            clear hb HA2
            go_wp2
            go_roundw
            case rel => exact ⟨k + 1, pl, by omega, by go_num, rfl, HK, HVs, HBn.out⟩
            case measure => simp [intOf]; omega

        · have HK : Hid (PlaceTo l (⟨q0, q1, q2, q3, q4, q5, q6, q7, q8, q9, q10, q11, q12, q13, q14, q15⟩ : Anim) (k + 1) pl) := HS.out (fun e => absurd (e.trans HN.out) hpl)
          have f0 : ((pl : Int) == (n : Int)) = false := by simp; omega
          have f1 : ¬ (pl : Int) = (n : Int) := by omega
          as_aux_lemma =>
          go_wp2_with fail
          refine (Validate_any _ _ _ _ _ _ _ _ _ _ _ _ _ _ _ _ _).mono ?_
          rw [HE.out]
          rintro e w2 ⟨rfl, hb⟩
          obtain ⟨d0, d1, d2, d3, d4, d5, d6, d7, d8, d9, d10, d11, d12, d13, d14, d15⟩ := HBX.out _ hb
          have HBn := Lib.hid (HB2.out _ _ hb)
          have HA2 : AnimBlk w2 w.heap.size 38 [.int .i64 q0, .int .i64 q1, .int .i64 q2, .int .i64 q3, .int .i64 q4, .int .i64 q5, .int .i64 q6, .int .i64 q7, .int .i64 q8, .int .i64 q9, .int .i64 q10, .int .i64 q11, .int .i64 q12, .int .i64 q13, .int .i64 q14, .int .i64 q15] := (animBlk_new w [.int .i64 q0, .int .i64 q1, .int .i64 q2, .int .i64 q3, .int .i64 q4, .int .i64 q5, .int .i64 q6, .int .i64 q7, .int .i64 q8, .int .i64 q9, .int .i64 q10, .int .i64 q11, .int .i64 q12, .int .i64 q13, .int .i64 q14, .int .i64 q15] _ rfl).kept HBn.out (by simp)
          have ha0 : w2.cell? ⟨w.heap.size, 0, none⟩ = some (.int .i64 q0) := (HA2.cell 0).trans rfl
          have ha1 : w2.cell? ⟨w.heap.size, 1, none⟩ = some (.int .i64 q1) := (HA2.cell 1).trans rfl
          clear hb HA2
          go_wp2
          go_roundw
          case rel => exact ⟨k + 1, pl, by omega, by go_num, rfl, HK, HVs, HBn.out⟩
          case measure => simp [intOf]; omega

      · obtain ⟨E, hE⟩ : ∃ E, (⟨g0, g1, g2, g3, g4, g5, g6, g7, g8, g9, g10, g11, g12, g13, g14, g15⟩ : Anim).err = E := ⟨_, rfl⟩
        have HE := Lib.hid hE
        rw [hE] at he
        have HR : Hid (setErr l (⟨q0, q1, q2, q3, q4, q5, q6, q7, q8, q9, q10, q11, q12, q13, q14, q15⟩ : Anim) now = E) := by
          have e1 : firstErr l = E := by rw [firstErr_stop HV.out (by rw [HN.out]; exact hkn) (by rw [HG.out, HE.out]; exact he), HG.out, HE.out]
          show _ = _
          rw [setErr, if_neg (by rw [HN.out]; omega), if_neg (by rw [hbt]; decide), e1, if_pos he]
        have HEn := Lib.hid he
        have e1 : (E == 0) = false := by simpa using he
        have e2 : (E != 0) = true := by simpa using he
        clear he hE
        as_aux_lemma =>
        go_wp2_with fail
        refine (Validate_any _ _ _ _ _ _ _ _ _ _ _ _ _ _ _ _ _).mono ?_
        rw [HE.out]
        rintro e w2 ⟨rfl, hb⟩
        have HBn : Hid (Below w.heap.size w w2) := (HBW.out.alloc HBW.out.size _).trans (hb.mono (by have := HBW.out.size; simp; omega))
        clear hb
        go_wp2
        go_ret2
        exact Setted.no HR.out HEn.out HBn.out
    · obtain rfl : k = n := by omega
      have hfe : firstErr l = 0 := firstErr_none (by rw [HN.out]; exact HV.out)
      have hpl : place l (⟨q0, q1, q2, q3, q4, q5, q6, q7, q8, q9, q10, q11, q12, q13, q14, q15⟩ : Anim) = pl := by have hp := HP.out; rw [← HN.out] at hp; exact hp.place
      have HFE := Lib.hid hfe
      have HPL := Lib.hid hpl
      have hple : pl ≤ k := by have hp := HP.out; have h8 := HN.out; rcases hp with ⟨h, -⟩ | ⟨h, -⟩ <;> omega
      have HA0 : Hid (AnimBlk wr w.heap.size 38 [.int .i64 q0, .int .i64 q1, .int .i64 q2, .int .i64 q3, .int .i64 q4, .int .i64 q5, .int .i64 q6, .int .i64 q7, .int .i64 q8, .int .i64 q9, .int .i64 q10, .int .i64 q11, .int .i64 q12, .int .i64 q13, .int .i64 q14, .int .i64 q15]) := (animBlk_new w [.int .i64 q0, .int .i64 q1, .int .i64 q2, .int .i64 q3, .int .i64 q4, .int .i64 q5, .int .i64 q6, .int .i64 q7, .int .i64 q8, .int .i64 q9, .int .i64 q10, .int .i64 q11, .int .i64 q12, .int .i64 q13, .int .i64 q14, .int .i64 q15] _ rfl).kept HB.out (by simp)
      have a5 : wr.cell? ⟨w.heap.size, 5, none⟩ = some (.int .i64 q5) := (HA0.out.cell 5).trans rfl
      have a15 : wr.cell? ⟨w.heap.size, 15, none⟩ = some (.int .i64 q15) := (HA0.out.cell 15).trans rfl
      have z5 : wr.frozen? ⟨w.heap.size, 5, none⟩ = false := HA0.out.free 5
      have z15 : wr.frozen? ⟨w.heap.size, 15, none⟩ = false := HA0.out.free 15
      have hlt1 : w.heap.size < wr.heap.size := HA0.out.lt
      have HVr : Hid (IsAnims wr (.slice a k cap) l) := HV0.out.of_below hbw
      clear hbl hbw hfe hpl
      as_aux_lemma =>
      go_wp2_with (refine halt_dst 60 ?_; intro G HGo)
      have HA1 : Hid (AnimBlk ((wr.setCell ⟨w.heap.size, 5, none⟩ (.int .i64 now)).setCell ⟨w.heap.size, 15, none⟩ (.int .i64 now)) w.heap.size 38 [.int .i64 q0, .int .i64 q1, .int .i64 q2, .int .i64 q3, .int .i64 q4, .int .i64 now, .int .i64 q6, .int .i64 q7, .int .i64 q8, .int .i64 q9, .int .i64 q10, .int .i64 q11, .int .i64 q12, .int .i64 q13, .int .i64 q14, .int .i64 now]) := (HA0.out.set 5 _).set 15 _
      have HB1 : Hid (Below w.heap.size w ((wr.setCell ⟨w.heap.size, 5, none⟩ (.int .i64 now)).setCell ⟨w.heap.size, 15, none⟩ (.int .i64 now))) := (HBW.out.setCell (Nat.le_refl _) _).setCell (Nat.le_refl _) _
      obtain ⟨w1, hw1⟩ : ∃ w1, (wr.setCell ⟨w.heap.size, 5, none⟩ (.int .i64 now)).setCell ⟨w.heap.size, 15, none⟩ (.int .i64 now) = w1 := ⟨_, rfl⟩
      refine HGo.out ?_
      clear HGo
      rw [hw1] at HA1 HB1 ⊢
      clear hw1 a5 a15 z5 z15 hlt1 HA0 HBW
      by_cases hpn : pl < k
      · skip
        obtain ⟨b, off, rfl, hlt, hcell⟩ := H3.out (by omega)
        have hoff := (hcell pl (by omega)).kept HB1.out hlt
        obtain ⟨g, hg⟩ : ∃ g, ga l pl = g := ⟨_, rfl⟩
        have hge : g.err = 0 := by rw [← hg]; exact HV.out pl hpn
        have HG := Lib.hid hg
        rw [hg] at hoff
        obtain ⟨g0, g1, g2, g3, g4, g5, g6, g7, g8, g9, g10, g11, g12, g13, g14, g15⟩ := g
        obtain ⟨c0, c1, c2, c3, c4, c5, c6, c7, c8, c9, c10, c11, c12, c13, c14, c15⟩ := hoff
        simp only at c0 c1 c2 c3 c4 c5 c6 c7 c8 c9 c10 c11 c12 c13 c14 c15
        have HGE := Lib.hid hge
        clear hcell hg hge
        have a0 : w1.cell? ⟨w.heap.size, 0, none⟩ = some (.int .i64 q0) := (HA1.out.cell 0).trans rfl
        have a1 : w1.cell? ⟨w.heap.size, 1, none⟩ = some (.int .i64 q1) := (HA1.out.cell 1).trans rfl
        have a2 : w1.cell? ⟨w.heap.size, 2, none⟩ = some (.int .i64 q2) := (HA1.out.cell 2).trans rfl
        have a3 : w1.cell? ⟨w.heap.size, 3, none⟩ = some (.int .i64 q3) := (HA1.out.cell 3).trans rfl
        have a4 : w1.cell? ⟨w.heap.size, 4, none⟩ = some (.int .i64 q4) := (HA1.out.cell 4).trans rfl
        have a5 : w1.cell? ⟨w.heap.size, 5, none⟩ = some (.int .i64 now) := (HA1.out.cell 5).trans rfl
        have a6 : w1.cell? ⟨w.heap.size, 6, none⟩ = some (.int .i64 q6) := (HA1.out.cell 6).trans rfl
        have a7 : w1.cell? ⟨w.heap.size, 7, none⟩ = some (.int .i64 q7) := (HA1.out.cell 7).trans rfl
        have a8 : w1.cell? ⟨w.heap.size, 8, none⟩ = some (.int .i64 q8) := (HA1.out.cell 8).trans rfl
        have a9 : w1.cell? ⟨w.heap.size, 9, none⟩ = some (.int .i64 q9) := (HA1.out.cell 9).trans rfl
        have a10 : w1.cell? ⟨w.heap.size, 10, none⟩ = some (.int .i64 q10) := (HA1.out.cell 10).trans rfl
        have a11 : w1.cell? ⟨w.heap.size, 11, none⟩ = some (.int .i64 q11) := (HA1.out.cell 11).trans rfl
        have a12 : w1.cell? ⟨w.heap.size, 12, none⟩ = some (.int .i64 q12) := (HA1.out.cell 12).trans rfl
        have a13 : w1.cell? ⟨w.heap.size, 13, none⟩ = some (.int .i64 q13) := (HA1.out.cell 13).trans rfl
        have a14 : w1.cell? ⟨w.heap.size, 14, none⟩ = some (.int .i64 q14) := (HA1.out.cell 14).trans rfl
        have a15 : w1.cell? ⟨w.heap.size, 15, none⟩ = some (.int .i64 now) := (HA1.out.cell 15).trans rfl
        have hlt1 : w.heap.size < w1.heap.size := HA1.out.lt
        have e9 : (pl : Int) < (k : Int) := by omega
        as_aux_lemma =>
        go_upto_region 17 with fail
        refine wp_region_T (S := (fun w' => w'.cell? ⟨b, off + pl * 16, none⟩ = some (.int .i64 g0) ∧ w'.cell? ⟨b, off + pl * 16 + 1, none⟩ = some (.int .i64 g1) ∧ w'.cell? ⟨b, off + pl * 16 + 2, none⟩ = some (.int .i64 g2) ∧ w'.cell? ⟨b, off + pl * 16 + 3, none⟩ = some (.int .i64 g3) ∧ w'.cell? ⟨b, off + pl * 16 + 4, none⟩ = some (.int .i64 g4) ∧ w'.cell? ⟨b, off + pl * 16 + 5, none⟩ = some (.int .i64 g5) ∧ w'.cell? ⟨b, off + pl * 16 + 6, none⟩ = some (.int .i64 g6) ∧ w'.cell? ⟨b, off + pl * 16 + 7, none⟩ = some (.int .i64 g7) ∧ w'.cell? ⟨b, off + pl * 16 + 8, none⟩ = some (.int .i64 g8) ∧ w'.cell? ⟨b, off + pl * 16 + 9, none⟩ = some (.int .i64 g9) ∧ w'.cell? ⟨b, off + pl * 16 + 10, none⟩ = some (.int .i64 g10) ∧ w'.cell? ⟨b, off + pl * 16 + 11, none⟩ = some (.int .i64 g11) ∧ w'.cell? ⟨b, off + pl * 16 + 12, none⟩ = some (.int .i64 g12) ∧ w'.cell? ⟨b, off + pl * 16 + 13, none⟩ = some (.int .i64 g13) ∧ w'.cell? ⟨b, off + pl * 16 + 14, none⟩ = some (.int .i64 g14) ∧ w'.cell? ⟨b, off + pl * 16 + 15, none⟩ = some (.int .i64 g15) ∧ w'.cell? ⟨w.heap.size, 0, none⟩ = some (.int .i64 q0) ∧ w'.cell? ⟨w.heap.size, 1, none⟩ = some (.int .i64 q1) ∧ w'.cell? ⟨w.heap.size, 2, none⟩ = some (.int .i64 q2) ∧ w'.cell? ⟨w.heap.size, 3, none⟩ = some (.int .i64 q3) ∧ w'.cell? ⟨w.heap.size, 4, none⟩ = some (.int .i64 q4) ∧ w'.cell? ⟨w.heap.size, 5, none⟩ = some (.int .i64 now) ∧ w'.cell? ⟨w.heap.size, 6, none⟩ = some (.int .i64 q6) ∧ w'.cell? ⟨w.heap.size, 7, none⟩ = some (.int .i64 q7) ∧ w'.cell? ⟨w.heap.size, 8, none⟩ = some (.int .i64 q8) ∧ w'.cell? ⟨w.heap.size, 9, none⟩ = some (.int .i64 q9) ∧ w'.cell? ⟨w.heap.size, 10, none⟩ = some (.int .i64 q10) ∧ w'.cell? ⟨w.heap.size, 11, none⟩ = some (.int .i64 q11) ∧ w'.cell? ⟨w.heap.size, 12, none⟩ = some (.int .i64 q12) ∧ w'.cell? ⟨w.heap.size, 13, none⟩ = some (.int .i64 q13) ∧ w'.cell? ⟨w.heap.size, 14, none⟩ = some (.int .i64 q14) ∧ w'.cell? ⟨w.heap.size, 15, none⟩ = some (.int .i64 now))) 7 (by kernel_rfl) (⟨c0, c1, c2, c3, c4, c5, c6, c7, c8, c9, c10, c11, c12, c13, c14, c15, a0, a1, a2, a3, a4, a5, a6, a7, a8, a9, a10, a11, a12, a13, a14, a15⟩) (fun hHeld => ?_)
        refine wpAnyT_take (i := 0) (v := ?_) rfl (by decide +kernel) (by decide +kernel) (by decide +kernel) (by decide +kernel) (by decide +kernel) (fun _ _ _ h => h) (Or.inl ⟨by rfl, ?_⟩) (by assumption) ?_
        rotate_left
        · intro w hSw; (try dsimp only at hSw); first | (go_simp; done) | (go_simp; with_reducible rfl)
        try simp only [Act.put, List.getElem_toArray, List.getElem_cons_succ, List.getElem_cons_zero, List.setIfInBounds_toArray, List.set_cons_zero, List.set_cons_succ]
        refine wpAnyT_take (i := 1) (v := ?_) rfl (by decide +kernel) (by decide +kernel) (by decide +kernel) (by decide +kernel) (by decide +kernel) (fun _ _ _ h => h) (Or.inl ⟨by rfl, ?_⟩) (by assumption) ?_
        rotate_left
        · intro w hSw; (try dsimp only at hSw); first | (go_simp; done) | (go_simp; with_reducible rfl)
        try simp only [Act.put, List.getElem_toArray, List.getElem_cons_succ, List.getElem_cons_zero, List.setIfInBounds_toArray, List.set_cons_zero, List.set_cons_succ]
        refine wpAnyT_take (i := 2) (v := ?_) rfl (by decide +kernel) (by decide +kernel) (by decide +kernel) (by decide +kernel) (by decide +kernel) (fun _ _ _ h => h) (Or.inl ⟨by rfl, ?_⟩) (by assumption) ?_
        rotate_left
        · intro w hSw; (try dsimp only at hSw); first | (go_simp; done) | (go_simp; with_reducible rfl)
        try simp only [Act.put, List.getElem_toArray, List.getElem_cons_succ, List.getElem_cons_zero, List.setIfInBounds_toArray, List.set_cons_zero, List.set_cons_succ]
        refine wpAnyT_take (i := 3) (v := ?_) rfl (by decide +kernel) (by decide +kernel) (by decide +kernel) (by decide +kernel) (by decide +kernel) (fun _ _ _ h => h) (Or.inl ⟨by rfl, ?_⟩) (by assumption) ?_
        rotate_left
        · intro w hSw; (try dsimp only at hSw); first | (go_simp; done) | (go_simp; with_reducible rfl)
        try simp only [Act.put, List.getElem_toArray, List.getElem_cons_succ, List.getElem_cons_zero, List.setIfInBounds_toArray, List.set_cons_zero, List.set_cons_succ]
        refine wpAnyT_take (i := 4) (v := ?_) rfl (by decide +kernel) (by decide +kernel) (by decide +kernel) (by decide +kernel) (by decide +kernel) (fun _ _ _ h => h) (Or.inl ⟨by rfl, ?_⟩) (by assumption) ?_
        rotate_left
        · intro w hSw; (try dsimp only at hSw); first | (go_simp; done) | (go_simp; with_reducible rfl)
        try simp only [Act.put, List.getElem_toArray, List.getElem_cons_succ, List.getElem_cons_zero, List.setIfInBounds_toArray, List.set_cons_zero, List.set_cons_succ]
        refine wpAnyT_take (i := 5) (v := ?_) rfl (by decide +kernel) (by decide +kernel) (by decide +kernel) (by decide +kernel) (by decide +kernel) (fun _ _ _ h => h) (Or.inl ⟨by rfl, ?_⟩) (by assumption) ?_
        rotate_left
        · intro w hSw; (try dsimp only at hSw); first | (go_simp; done) | (go_simp; with_reducible rfl)
        try simp only [Act.put, List.getElem_toArray, List.getElem_cons_succ, List.getElem_cons_zero, List.setIfInBounds_toArray, List.set_cons_zero, List.set_cons_succ]
        refine wpAnyT_one (i := 6) (by kernel_rfl) rfl (fun K hK => ?_)
        go_simp
        (refine (inter_any _ _ _ _ _ _ _ _ _ _ _ _ _ _ _ _ _ _ _ _ _ _ _ _ _ _ _ _ _ _ _ _ now _ HGE.out hbt).mono ?_; rintro e w' ⟨x0, x1, x2, x3, x4, x5, x6, x7, x8, x9, x10, x11, x12, x13, x14, x15, rfl, haft, hb'⟩)
        refine hK.out _ _ ?_ (fun hHeld2 => ?_)
        · (try dsimp only); exact ⟨(hb'.cell (p := ⟨b, off + pl * 16, none⟩) (World.block_lt_of_cell? _ _ c0)).trans c0, (hb'.cell (p := ⟨b, off + pl * 16 + 1, none⟩) (World.block_lt_of_cell? _ _ c1)).trans c1, (hb'.cell (p := ⟨b, off + pl * 16 + 2, none⟩) (World.block_lt_of_cell? _ _ c2)).trans c2, (hb'.cell (p := ⟨b, off + pl * 16 + 3, none⟩) (World.block_lt_of_cell? _ _ c3)).trans c3, (hb'.cell (p := ⟨b, off + pl * 16 + 4, none⟩) (World.block_lt_of_cell? _ _ c4)).trans c4, (hb'.cell (p := ⟨b, off + pl * 16 + 5, none⟩) (World.block_lt_of_cell? _ _ c5)).trans c5, (hb'.cell (p := ⟨b, off + pl * 16 + 6, none⟩) (World.block_lt_of_cell? _ _ c6)).trans c6, (hb'.cell (p := ⟨b, off + pl * 16 + 7, none⟩) (World.block_lt_of_cell? _ _ c7)).trans c7, (hb'.cell (p := ⟨b, off + pl * 16 + 8, none⟩) (World.block_lt_of_cell? _ _ c8)).trans c8, (hb'.cell (p := ⟨b, off + pl * 16 + 9, none⟩) (World.block_lt_of_cell? _ _ c9)).trans c9, (hb'.cell (p := ⟨b, off + pl * 16 + 10, none⟩) (World.block_lt_of_cell? _ _ c10)).trans c10, (hb'.cell (p := ⟨b, off + pl * 16 + 11, none⟩) (World.block_lt_of_cell? _ _ c11)).trans c11, (hb'.cell (p := ⟨b, off + pl * 16 + 12, none⟩) (World.block_lt_of_cell? _ _ c12)).trans c12, (hb'.cell (p := ⟨b, off + pl * 16 + 13, none⟩) (World.block_lt_of_cell? _ _ c13)).trans c13, (hb'.cell (p := ⟨b, off + pl * 16 + 14, none⟩) (World.block_lt_of_cell? _ _ c14)).trans c14, (hb'.cell (p := ⟨b, off + pl * 16 + 15, none⟩) (World.block_lt_of_cell? _ _ c15)).trans c15, (hb'.cell (p := ⟨w.heap.size, 0, none⟩) (World.block_lt_of_cell? _ _ a0)).trans a0, (hb'.cell (p := ⟨w.heap.size, 1, none⟩) (World.block_lt_of_cell? _ _ a1)).trans a1, (hb'.cell (p := ⟨w.heap.size, 2, none⟩) (World.block_lt_of_cell? _ _ a2)).trans a2, (hb'.cell (p := ⟨w.heap.size, 3, none⟩) (World.block_lt_of_cell? _ _ a3)).trans a3, (hb'.cell (p := ⟨w.heap.size, 4, none⟩) (World.block_lt_of_cell? _ _ a4)).trans a4, (hb'.cell (p := ⟨w.heap.size, 5, none⟩) (World.block_lt_of_cell? _ _ a5)).trans a5, (hb'.cell (p := ⟨w.heap.size, 6, none⟩) (World.block_lt_of_cell? _ _ a6)).trans a6, (hb'.cell (p := ⟨w.heap.size, 7, none⟩) (World.block_lt_of_cell? _ _ a7)).trans a7, (hb'.cell (p := ⟨w.heap.size, 8, none⟩) (World.block_lt_of_cell? _ _ a8)).trans a8, (hb'.cell (p := ⟨w.heap.size, 9, none⟩) (World.block_lt_of_cell? _ _ a9)).trans a9, (hb'.cell (p := ⟨w.heap.size, 10, none⟩) (World.block_lt_of_cell? _ _ a10)).trans a10, (hb'.cell (p := ⟨w.heap.size, 11, none⟩) (World.block_lt_of_cell? _ _ a11)).trans a11, (hb'.cell (p := ⟨w.heap.size, 12, none⟩) (World.block_lt_of_cell? _ _ a12)).trans a12, (hb'.cell (p := ⟨w.heap.size, 13, none⟩) (World.block_lt_of_cell? _ _ a13)).trans a13, (hb'.cell (p := ⟨w.heap.size, 14, none⟩) (World.block_lt_of_cell? _ _ a14)).trans a14, (hb'.cell (p := ⟨w.heap.size, 15, none⟩) (World.block_lt_of_cell? _ _ a15)).trans a15⟩
        clear hK K hHeld
        have hHeld := hHeld2
        clear hHeld2
        try simp only [Act.put, List.getElem_toArray, List.getElem_cons_succ, List.getElem_cons_zero, List.setIfInBounds_toArray, List.set_cons_zero, List.set_cons_succ]
        refine wpAnyT_last (i := 7) (by kernel_rfl) (by kernel_rfl) rfl (by kernel_rfl) (fun K hK => ?_)
        refine step_store_anim (by rfl) _ _ (by rfl) w.heap.size [.int .i64 x0, .int .i64 x1, .int .i64 x2, .int .i64 x3, .int .i64 x4, .int .i64 x5, .int .i64 x6, .int .i64 x7, .int .i64 x8, .int .i64 x9, .int .i64 x10, .int .i64 x11, .int .i64 x12, .int .i64 x13, .int .i64 x14, .int .i64 x15] (by rfl) (by rfl) (by rfl) _ _ (HA1.out.kept ((Below.refl w1.heap.size w1).drew.trans hb') hlt1) (by simp [Value.oneCell']) ?_
        intro w2 hA2 hB2
        refine hK.out _ _ ?_
        clear hK K hHeld
        try simp only [Act.put, List.getElem_toArray, List.getElem_cons_succ, List.getElem_cons_zero, List.setIfInBounds_toArray, List.set_cons_zero, List.set_cons_succ]
        have HA2 : Hid (AnimBlk (w2) w.heap.size 38 [.int .i64 x0, .int .i64 x1, .int .i64 x2, .int .i64 x3, .int .i64 x4, .int .i64 x5, .int .i64 x6, .int .i64 x7, .int .i64 x8, .int .i64 x9, .int .i64 x10, .int .i64 x11, .int .i64 x12, .int .i64 x13, .int .i64 x14, .int .i64 x15]) := hA2
        have HB2 : Hid (Below w.heap.size w w2) := HB1.out.trans (((Below.refl w1.heap.size w1).drew.trans hb').mono HB1.out.size |>.trans (hB2 _ (Nat.le_refl _)))
        have HSE : Hid (settled l (⟨q0, q1, q2, q3, q4, q5, q6, q7, q8, q9, q10, q11, q12, q13, q14, q15⟩ : Anim) now = (⟨x0, x1, x2, x3, x4, x5, x6, x7, x8, x9, x10, x11, x12, x13, x14, x15⟩ : Anim).still) := by
          show _ = _
          unfold settled
          simp only
          rw [if_pos (by rw [HPL.out, HN.out]; exact hpn), HPL.out, HG.out, haft]
        clear hA2 hB2 hb' haft HA1 HB1 c0 c1 c2 c3 c4 c5 c6 c7 c8 c9 c10 c11 c12 c13 c14 c15 a0 a1 a2 a3 a4 a5 a6 a7 a8 a9 a10 a11 a12 a13 a14 a15 hlt1
        have b2 : w2.cell? ⟨w.heap.size, 2, none⟩ = some (.int .i64 x2) := (HA2.out.cell 2).trans rfl
        have b13 : w2.cell? ⟨w.heap.size, 13, none⟩ = some (.int .i64 x13) := (HA2.out.cell 13).trans rfl
        have y13 : w2.frozen? ⟨w.heap.size, 13, none⟩ = false := HA2.out.free 13
        have b14 : w2.cell? ⟨w.heap.size, 14, none⟩ = some (.int .i64 x14) := (HA2.out.cell 14).trans rfl
        have y14 : w2.frozen? ⟨w.heap.size, 14, none⟩ = false := HA2.out.free 14
        have hlt2 : w.heap.size < w2.heap.size := HA2.out.lt
        by_cases hk1 : x2 = 1
        · have e1 : (x2 == 1) = true := by simpa using hk1
          have HSt : Hid (settled l (⟨q0, q1, q2, q3, q4, q5, q6, q7, q8, q9, q10, q11, q12, q13, q14, q15⟩ : Anim) now = (⟨x0, x1, x2, x3, x4, x5, x6, x7, x8, x9, x10, x11, x12, 0, 0, x15⟩ : Anim)) := by show _ = _; rw [HSE.out]; simp [Anim.still, hk1]
          clear hk1
          as_aux_lemma =>
          go_wp2_with (refine halt_dst 78 ?_; intro G HGo)
          have HAs : Hid (AnimBlk ((w2.setCell ⟨w.heap.size, 13, none⟩ (.int .i64 0)).setCell ⟨w.heap.size, 14, none⟩ (.int .i64 0)) w.heap.size 38 [.int .i64 x0, .int .i64 x1, .int .i64 x2, .int .i64 x3, .int .i64 x4, .int .i64 x5, .int .i64 x6, .int .i64 x7, .int .i64 x8, .int .i64 x9, .int .i64 x10, .int .i64 x11, .int .i64 x12, .int .i64 0, .int .i64 0, .int .i64 x15]) := (HA2.out.set 13 _).set 14 _
          have HBs : Hid (Below w.heap.size w ((w2.setCell ⟨w.heap.size, 13, none⟩ (.int .i64 0)).setCell ⟨w.heap.size, 14, none⟩ (.int .i64 0))) := (HB2.out.setCell (Nat.le_refl _) _).setCell (Nat.le_refl _) _
          obtain ⟨w3, hw3⟩ : ∃ w3, (w2.setCell ⟨w.heap.size, 13, none⟩ (.int .i64 0)).setCell ⟨w.heap.size, 14, none⟩ (.int .i64 0) = w3 := ⟨_, rfl⟩
          refine HGo.out ?_
          clear HGo
          rw [hw3] at HAs HBs ⊢
          clear hw3 b2 b13 b14 y13 y14 hlt2 HA2 HB2
          have HVs : Hid (IsAnims w3 _ l) := HV0.out.of_below HBs.out
          refine load_anim rfl _ rfl w.heap.size rfl _ _ HAs.out ?_
          obtain ⟨E, hE⟩ : ∃ E, (⟨x0, x1, x2, x3, x4, x5, x6, x7, x8, x9, x10, x11, x12, 0, 0, x15⟩ : Anim).err = E := ⟨_, rfl⟩
          have HE := Lib.hid hE
          clear hE
          go_wp2_with fail
          refine (Validate_any _ _ _ _ _ _ _ _ _ _ _ _ _ _ _ _ _).mono ?_
          rw [HE.out]
          rintro e w4 ⟨rfl, hb⟩
          have HA4 : Hid (AnimBlk (w4) w.heap.size 38 [.int .i64 x0, .int .i64 x1, .int .i64 x2, .int .i64 x3, .int .i64 x4, .int .i64 x5, .int .i64 x6, .int .i64 x7, .int .i64 x8, .int .i64 x9, .int .i64 x10, .int .i64 x11, .int .i64 x12, .int .i64 0, .int .i64 0, .int .i64 x15]) := HAs.out.kept hb HAs.out.lt
          have HB4 : Hid (Below w.heap.size w w4) := HBs.out.trans (hb.mono HBs.out.size)
          have HV4 : Hid (IsAnims w4 _ l) := HVs.out.of_below hb
          clear hb HAs HBs HVs
          by_cases he : E = 0
          · have e2 : (E != 0) = false := by simpa using he
            have e2b : (E == 0) = true := by simpa using he
            have HR : Hid (setErr l (⟨q0, q1, q2, q3, q4, q5, q6, q7, q8, q9, q10, q11, q12, q13, q14, q15⟩ : Anim) now = 0) := by show _ = _; rw [setErr, if_neg (by rw [HN.out]; omega), if_neg (by rw [hbt]; decide), if_neg (by rw [HFE.out]; omega), HSt.out, HE.out, if_neg (by omega), if_neg (by rw [HPL.out]; omega)]
            have e3 : ((pl : Int) == 64) = false := by simp; omega
            have e3b : ¬ (pl : Int) = 64 := by omega
            have e4 : (pl : Int) < (k : Int) := by omega
            as_aux_lemma =>
            go_wp2_with (first | (refine copy_list (base := w.heap.size) HV4.out (by omega) HB4.out.size hi0 hz0 hz1 hz2 ?_; intro v5 w5 hown5 hb5; have HO5 := Lib.hid hown5; have HBB5 := Lib.hid hb5; clear hown5 hb5) | (refine halt_dst 94 ?_; intro G HGo))
            have HA5 : Hid (AnimBlk (w5) w.heap.size 38 [.int .i64 x0, .int .i64 x1, .int .i64 x2, .int .i64 x3, .int .i64 x4, .int .i64 x5, .int .i64 x6, .int .i64 x7, .int .i64 x8, .int .i64 x9, .int .i64 x10, .int .i64 x11, .int .i64 x12, .int .i64 0, .int .i64 0, .int .i64 x15]) := HA4.out.kept (HBB5.out _ (Nat.le_refl _)) HA4.out.lt
            have HB5 : Hid (Below w.heap.size w w5) := HB4.out.trans (HBB5.out _ HB4.out.size)
            refine HGo.out ?_
            clear HGo
            obtain ⟨gq, capq, rfl⟩ := Joins.ownsRow_form HO5.out (by omega)
            refine put_list (base := w.heap.size) (l := l) HN.out.symm hpn HO5.out HA5.out ?_
            intro ad w6 his6 hb6
            have HAn : Hid (IsAnims w6 (.slice (some ⟨gq, 0, none⟩) k capq) (setOn l (⟨q0, q1, q2, q3, q4, q5, q6, q7, q8, q9, q10, q11, q12, q13, q14, q15⟩ : Anim) now)) := by
              show IsAnims _ _ _
              rw [setOn, if_pos HR.out, if_pos (by rw [HPL.out, HN.out]; exact hpn), HSt.out, HPL.out]
              exact his6
            have HB6 : Hid (Below w.heap.size w w6) := HB5.out.trans (hb6 _ (Nat.le_refl _))
            clear his6 hb6
            go_wp2
            go_ret2
            exact ⟨_, by rw [HR.out]; rfl, HAn.out, HB6.out⟩
          · have e2 : (E != 0) = true := by simpa using he
            have e2b : (E == 0) = false := by simpa using he
            have HR : Hid (setErr l (⟨q0, q1, q2, q3, q4, q5, q6, q7, q8, q9, q10, q11, q12, q13, q14, q15⟩ : Anim) now = E) := by show _ = _; rw [setErr, if_neg (by rw [HN.out]; omega), if_neg (by rw [hbt]; decide), if_neg (by rw [HFE.out]; omega), HSt.out, HE.out, if_pos he]
            have HEn := Lib.hid he
            clear he
            as_aux_lemma =>
            go_wp2
            go_ret2
            exact Setted.no HR.out HEn.out HB4.out
        · have e1 : (x2 == 1) = false := by simpa using hk1
          have HSt : Hid (settled l (⟨q0, q1, q2, q3, q4, q5, q6, q7, q8, q9, q10, q11, q12, q13, q14, q15⟩ : Anim) now = (⟨x0, x1, x2, x3, x4, x5, x6, x7, x8, x9, x10, x11, x12, x13, x14, x15⟩ : Anim)) := by show _ = _; rw [HSE.out]; simp [Anim.still, hk1]
          clear hk1
          as_aux_lemma =>
          go_wp2_with (refine halt_dst 78 ?_; intro G HGo)
          refine HGo.out ?_
          clear HGo b2 b13 b14 y13 y14 hlt2
          have HAs := HA2
          have HBs := HB2
          have HVs : Hid (IsAnims w2 _ l) := HV0.out.of_below HBs.out
          clear HA2 HB2
          refine load_anim rfl _ rfl w.heap.size rfl _ _ HAs.out ?_
          obtain ⟨E, hE⟩ : ∃ E, (⟨x0, x1, x2, x3, x4, x5, x6, x7, x8, x9, x10, x11, x12, x13, x14, x15⟩ : Anim).err = E := ⟨_, rfl⟩
          have HE := Lib.hid hE
          clear hE
          go_wp2_with fail
          refine (Validate_any _ _ _ _ _ _ _ _ _ _ _ _ _ _ _ _ _).mono ?_
          rw [HE.out]
          rintro e w4 ⟨rfl, hb⟩
          have HA4 : Hid (AnimBlk (w4) w.heap.size 38 [.int .i64 x0, .int .i64 x1, .int .i64 x2, .int .i64 x3, .int .i64 x4, .int .i64 x5, .int .i64 x6, .int .i64 x7, .int .i64 x8, .int .i64 x9, .int .i64 x10, .int .i64 x11, .int .i64 x12, .int .i64 x13, .int .i64 x14, .int .i64 x15]) := HAs.out.kept hb HAs.out.lt
          have HB4 : Hid (Below w.heap.size w w4) := HBs.out.trans (hb.mono HBs.out.size)
          have HV4 : Hid (IsAnims w4 _ l) := HVs.out.of_below hb
          clear hb HAs HBs HVs
          by_cases he : E = 0
          · have e2 : (E != 0) = false := by simpa using he
            have e2b : (E == 0) = true := by simpa using he
            have HR : Hid (setErr l (⟨q0, q1, q2, q3, q4, q5, q6, q7, q8, q9, q10, q11, q12, q13, q14, q15⟩ : Anim) now = 0) := by show _ = _; rw [setErr, if_neg (by rw [HN.out]; omega), if_neg (by rw [hbt]; decide), if_neg (by rw [HFE.out]; omega), HSt.out, HE.out, if_neg (by omega), if_neg (by rw [HPL.out]; omega)]
            have e3 : ((pl : Int) == 64) = false := by simp; omega
            have e3b : ¬ (pl : Int) = 64 := by omega
            have e4 : (pl : Int) < (k : Int) := by omega
            as_aux_lemma =>
            go_wp2_with (first | (refine copy_list (base := w.heap.size) HV4.out (by omega) HB4.out.size hi0 hz0 hz1 hz2 ?_; intro v5 w5 hown5 hb5; have HO5 := Lib.hid hown5; have HBB5 := Lib.hid hb5; clear hown5 hb5) | (refine halt_dst 94 ?_; intro G HGo))
            have HA5 : Hid (AnimBlk (w5) w.heap.size 38 [.int .i64 x0, .int .i64 x1, .int .i64 x2, .int .i64 x3, .int .i64 x4, .int .i64 x5, .int .i64 x6, .int .i64 x7, .int .i64 x8, .int .i64 x9, .int .i64 x10, .int .i64 x11, .int .i64 x12, .int .i64 x13, .int .i64 x14, .int .i64 x15]) := HA4.out.kept (HBB5.out _ (Nat.le_refl _)) HA4.out.lt
            have HB5 : Hid (Below w.heap.size w w5) := HB4.out.trans (HBB5.out _ HB4.out.size)
            refine HGo.out ?_
            clear HGo
            obtain ⟨gq, capq, rfl⟩ := Joins.ownsRow_form HO5.out (by omega)
            refine put_list (base := w.heap.size) (l := l) HN.out.symm hpn HO5.out HA5.out ?_
            intro ad w6 his6 hb6
            have HAn : Hid (IsAnims w6 (.slice (some ⟨gq, 0, none⟩) k capq) (setOn l (⟨q0, q1, q2, q3, q4, q5, q6, q7, q8, q9, q10, q11, q12, q13, q14, q15⟩ : Anim) now)) := by
              show IsAnims _ _ _
              rw [setOn, if_pos HR.out, if_pos (by rw [HPL.out, HN.out]; exact hpn), HSt.out, HPL.out]
              exact his6
            have HB6 : Hid (Below w.heap.size w w6) := HB5.out.trans (hb6 _ (Nat.le_refl _))
            clear his6 hb6
            go_wp2
            go_ret2
            exact ⟨_, by rw [HR.out]; rfl, HAn.out, HB6.out⟩
          · have e2 : (E != 0) = true := by simpa using he
            have e2b : (E == 0) = false := by simpa using he
            have HR : Hid (setErr l (⟨q0, q1, q2, q3, q4, q5, q6, q7, q8, q9, q10, q11, q12, q13, q14, q15⟩ : Anim) now = E) := by show _ = _; rw [setErr, if_neg (by rw [HN.out]; omega), if_neg (by rw [hbt]; decide), if_neg (by rw [HFE.out]; omega), HSt.out, HE.out, if_pos he]
            have HEn := Lib.hid he
            clear he
            as_aux_lemma =>
            go_wp2
            go_ret2
            exact Setted.no HR.out HEn.out HB4.out
      · obtain rfl : pl = k := by omega
        have a3 : w1.cell? ⟨w.heap.size, 3, none⟩ = some (.int .i64 q3) := (HA1.out.cell 3).trans rfl
        have a13 : w1.cell? ⟨w.heap.size, 13, none⟩ = some (.int .i64 q13) := (HA1.out.cell 13).trans rfl
        have z13 : w1.frozen? ⟨w.heap.size, 13, none⟩ = false := HA1.out.free 13
        have hlt1 : w.heap.size < w1.heap.size := HA1.out.lt
        go_wp2_with (refine halt_dst 73 ?_; intro G HGo)
        have HA2 : Hid (AnimBlk (w1.setCell ⟨w.heap.size, 13, none⟩ (.int .i64 (wrap64 (65536 * q3)))) w.heap.size 38 [.int .i64 q0, .int .i64 q1, .int .i64 q2, .int .i64 q3, .int .i64 q4, .int .i64 now, .int .i64 q6, .int .i64 q7, .int .i64 q8, .int .i64 q9, .int .i64 q10, .int .i64 q11, .int .i64 q12, .int .i64 (wrap64 (65536 * q3)), .int .i64 q14, .int .i64 now]) := HA1.out.set 13 _
        have HB2 : Hid (Below w.heap.size w (w1.setCell ⟨w.heap.size, 13, none⟩ (.int .i64 (wrap64 (65536 * q3))))) := HB1.out.setCell (Nat.le_refl _) _
        have HSE : Hid (settled l (⟨q0, q1, q2, q3, q4, q5, q6, q7, q8, q9, q10, q11, q12, q13, q14, q15⟩ : Anim) now = (⟨q0, q1, q2, q3, q4, now, q6, q7, q8, q9, q10, q11, q12, (wrap64 (65536 * q3)), q14, now⟩ : Anim).still) := by
          show _ = _
          unfold settled
          simp only
          rw [if_neg (by rw [HPL.out, HN.out]; omega), show w64 (65536 * q3) = wrap64 (65536 * q3) from by unfold w64; first | exact IntWalk.i64_left _ | (rw [IntKind.wrap_i64]; unfold wrap64; rfl)]
        obtain ⟨w2, hw2⟩ : ∃ w2, w1.setCell ⟨w.heap.size, 13, none⟩ (.int .i64 (wrap64 (65536 * q3))) = w2 := ⟨_, rfl⟩
        refine HGo.out ?_
        clear HGo
        rw [hw2] at HA2 HB2 ⊢
        clear hw2 a3 a13 z13 hlt1 HA1 HB1
        have b2 : w2.cell? ⟨w.heap.size, 2, none⟩ = some (.int .i64 q2) := (HA2.out.cell 2).trans rfl
        have b13 : w2.cell? ⟨w.heap.size, 13, none⟩ = some (.int .i64 (wrap64 (65536 * q3))) := (HA2.out.cell 13).trans rfl
        have y13 : w2.frozen? ⟨w.heap.size, 13, none⟩ = false := HA2.out.free 13
        have b14 : w2.cell? ⟨w.heap.size, 14, none⟩ = some (.int .i64 q14) := (HA2.out.cell 14).trans rfl
        have y14 : w2.frozen? ⟨w.heap.size, 14, none⟩ = false := HA2.out.free 14
        have hlt2 : w.heap.size < w2.heap.size := HA2.out.lt
        by_cases hk1 : q2 = 1
        · have e1 : (q2 == 1) = true := by simpa using hk1
          have HSt : Hid (settled l (⟨q0, q1, q2, q3, q4, q5, q6, q7, q8, q9, q10, q11, q12, q13, q14, q15⟩ : Anim) now = (⟨q0, q1, q2, q3, q4, now, q6, q7, q8, q9, q10, q11, q12, 0, 0, now⟩ : Anim)) := by show _ = _; rw [HSE.out]; simp [Anim.still, hk1]
          clear hk1
          as_aux_lemma =>
          go_wp2_with (refine halt_dst 78 ?_; intro G HGo)
          have HAs : Hid (AnimBlk ((w2.setCell ⟨w.heap.size, 13, none⟩ (.int .i64 0)).setCell ⟨w.heap.size, 14, none⟩ (.int .i64 0)) w.heap.size 38 [.int .i64 q0, .int .i64 q1, .int .i64 q2, .int .i64 q3, .int .i64 q4, .int .i64 now, .int .i64 q6, .int .i64 q7, .int .i64 q8, .int .i64 q9, .int .i64 q10, .int .i64 q11, .int .i64 q12, .int .i64 0, .int .i64 0, .int .i64 now]) := (HA2.out.set 13 _).set 14 _
          have HBs : Hid (Below w.heap.size w ((w2.setCell ⟨w.heap.size, 13, none⟩ (.int .i64 0)).setCell ⟨w.heap.size, 14, none⟩ (.int .i64 0))) := (HB2.out.setCell (Nat.le_refl _) _).setCell (Nat.le_refl _) _
          obtain ⟨w3, hw3⟩ : ∃ w3, (w2.setCell ⟨w.heap.size, 13, none⟩ (.int .i64 0)).setCell ⟨w.heap.size, 14, none⟩ (.int .i64 0) = w3 := ⟨_, rfl⟩
          refine HGo.out ?_
          clear HGo
          rw [hw3] at HAs HBs ⊢
          clear hw3 b2 b13 b14 y13 y14 hlt2 HA2 HB2
          have HVs : Hid (IsAnims w3 _ l) := HV0.out.of_below HBs.out
          refine load_anim rfl _ rfl w.heap.size rfl _ _ HAs.out ?_
          obtain ⟨E, hE⟩ : ∃ E, (⟨q0, q1, q2, q3, q4, now, q6, q7, q8, q9, q10, q11, q12, 0, 0, now⟩ : Anim).err = E := ⟨_, rfl⟩
          have HE := Lib.hid hE
          clear hE
          go_wp2_with fail
          refine (Validate_any _ _ _ _ _ _ _ _ _ _ _ _ _ _ _ _ _).mono ?_
          rw [HE.out]
          rintro e w4 ⟨rfl, hb⟩
          have HA4 : Hid (AnimBlk (w4) w.heap.size 38 [.int .i64 q0, .int .i64 q1, .int .i64 q2, .int .i64 q3, .int .i64 q4, .int .i64 now, .int .i64 q6, .int .i64 q7, .int .i64 q8, .int .i64 q9, .int .i64 q10, .int .i64 q11, .int .i64 q12, .int .i64 0, .int .i64 0, .int .i64 now]) := HAs.out.kept hb HAs.out.lt
          have HB4 : Hid (Below w.heap.size w w4) := HBs.out.trans (hb.mono HBs.out.size)
          have HV4 : Hid (IsAnims w4 _ l) := HVs.out.of_below hb
          clear hb HAs HBs HVs
          by_cases he : E = 0
          · have e2 : (E != 0) = false := by simpa using he
            have e2b : (E == 0) = true := by simpa using he
            by_cases h64 : pl = 64
            · have HR : Hid (setErr l (⟨q0, q1, q2, q3, q4, q5, q6, q7, q8, q9, q10, q11, q12, q13, q14, q15⟩ : Anim) now = 11) := by show _ = _; rw [setErr, if_neg (by rw [HN.out]; omega), if_neg (by rw [hbt]; decide), if_neg (by rw [HFE.out]; omega), HSt.out, HE.out, if_neg (by omega), if_pos (by rw [HPL.out]; exact h64)]
              have e3 : ((pl : Int) == 64) = true := by simp; omega
              have e3b : (pl : Int) = 64 := by omega
              as_aux_lemma =>
              go_wp2
              go_ret2
              exact Setted.no HR.out (by omega) HB4.out
            · have HR : Hid (setErr l (⟨q0, q1, q2, q3, q4, q5, q6, q7, q8, q9, q10, q11, q12, q13, q14, q15⟩ : Anim) now = 0) := by show _ = _; rw [setErr, if_neg (by rw [HN.out]; omega), if_neg (by rw [hbt]; decide), if_neg (by rw [HFE.out]; omega), HSt.out, HE.out, if_neg (by omega), if_neg (by rw [HPL.out]; exact h64)]
              have e3 : ((pl : Int) == 64) = false := by simp; omega
              have e3b : ¬ (pl : Int) = 64 := by omega
              as_aux_lemma =>
              go_wp2_with (first | (refine copy_list (base := w.heap.size) HV4.out (by omega) HB4.out.size hi0 hz0 hz1 hz2 ?_; intro v5 w5 hown5 hb5; have HO5 := Lib.hid hown5; have HBB5 := Lib.hid hb5; clear hown5 hb5) | (refine halt_dst 98 ?_; intro G HGo))
              have HA5 : Hid (AnimBlk (w5) w.heap.size 38 [.int .i64 q0, .int .i64 q1, .int .i64 q2, .int .i64 q3, .int .i64 q4, .int .i64 now, .int .i64 q6, .int .i64 q7, .int .i64 q8, .int .i64 q9, .int .i64 q10, .int .i64 q11, .int .i64 q12, .int .i64 0, .int .i64 0, .int .i64 now]) := HA4.out.kept (HBB5.out _ (Nat.le_refl _)) HA4.out.lt
              have HB5 : Hid (Below w.heap.size w w5) := HB4.out.trans (HBB5.out _ HB4.out.size)
              refine HGo.out ?_
              clear HGo
              refine grow_list (base := w.heap.size) (N := pl) (by omega) HB5.out.size (recCells (l.map recA)) hi0 hz0 hz1 hz2 HO5.out HA5.out ?_
              intro v6 w6 hown6 hb6
              have HAn : Hid (IsAnims w6 v6 (setOn l (⟨q0, q1, q2, q3, q4, q5, q6, q7, q8, q9, q10, q11, q12, q13, q14, q15⟩ : Anim) now)) := by
                show IsAnims _ _ _
                rw [setOn, if_pos HR.out, if_neg (by rw [HPL.out, HN.out]; omega), HSt.out]
                refine ownsRow_isRecs (base := w.heap.size) (e := 38) (n := pl + 1) (l := (l ++ [(⟨q0, q1, q2, q3, q4, now, q6, q7, q8, q9, q10, q11, q12, 0, 0, now⟩ : Anim)]).map recA) ?_ (by simp; exact HN.out.symm) (recA_wide _)
                rw [List.map_append, recCells_append]; exact hown6
              have HB6 : Hid (Below w.heap.size w w6) := HB5.out.trans (hb6 _ (Nat.le_refl _))
              clear hown6 hb6
              go_wp2
              go_ret2
              exact ⟨_, by rw [HR.out]; rfl, HAn.out, HB6.out⟩
          · have e2 : (E != 0) = true := by simpa using he
            have e2b : (E == 0) = false := by simpa using he
            have HR : Hid (setErr l (⟨q0, q1, q2, q3, q4, q5, q6, q7, q8, q9, q10, q11, q12, q13, q14, q15⟩ : Anim) now = E) := by show _ = _; rw [setErr, if_neg (by rw [HN.out]; omega), if_neg (by rw [hbt]; decide), if_neg (by rw [HFE.out]; omega), HSt.out, HE.out, if_pos he]
            have HEn := Lib.hid he
            clear he
            as_aux_lemma =>
            go_wp2
            go_ret2
            exact Setted.no HR.out HEn.out HB4.out
        · have e1 : (q2 == 1) = false := by simpa using hk1
          have HSt : Hid (settled l (⟨q0, q1, q2, q3, q4, q5, q6, q7, q8, q9, q10, q11, q12, q13, q14, q15⟩ : Anim) now = (⟨q0, q1, q2, q3, q4, now, q6, q7, q8, q9, q10, q11, q12, (wrap64 (65536 * q3)), q14, now⟩ : Anim)) := by show _ = _; rw [HSE.out]; simp [Anim.still, hk1]
          clear hk1
          as_aux_lemma =>
          go_wp2_with (refine halt_dst 78 ?_; intro G HGo)
          refine HGo.out ?_
          clear HGo b2 b13 b14 y13 y14 hlt2
          have HAs := HA2
          have HBs := HB2
          have HVs : Hid (IsAnims w2 _ l) := HV0.out.of_below HBs.out
          clear HA2 HB2
          refine load_anim rfl _ rfl w.heap.size rfl _ _ HAs.out ?_
          obtain ⟨E, hE⟩ : ∃ E, (⟨q0, q1, q2, q3, q4, now, q6, q7, q8, q9, q10, q11, q12, (wrap64 (65536 * q3)), q14, now⟩ : Anim).err = E := ⟨_, rfl⟩
          have HE := Lib.hid hE
          clear hE
          go_wp2_with fail
          refine (Validate_any _ _ _ _ _ _ _ _ _ _ _ _ _ _ _ _ _).mono ?_
          rw [HE.out]
          rintro e w4 ⟨rfl, hb⟩
          have HA4 : Hid (AnimBlk (w4) w.heap.size 38 [.int .i64 q0, .int .i64 q1, .int .i64 q2, .int .i64 q3, .int .i64 q4, .int .i64 now, .int .i64 q6, .int .i64 q7, .int .i64 q8, .int .i64 q9, .int .i64 q10, .int .i64 q11, .int .i64 q12, .int .i64 (wrap64 (65536 * q3)), .int .i64 q14, .int .i64 now]) := HAs.out.kept hb HAs.out.lt
          have HB4 : Hid (Below w.heap.size w w4) := HBs.out.trans (hb.mono HBs.out.size)
          have HV4 : Hid (IsAnims w4 _ l) := HVs.out.of_below hb
          clear hb HAs HBs HVs
          by_cases he : E = 0
          · have e2 : (E != 0) = false := by simpa using he
            have e2b : (E == 0) = true := by simpa using he
            by_cases h64 : pl = 64
            · have HR : Hid (setErr l (⟨q0, q1, q2, q3, q4, q5, q6, q7, q8, q9, q10, q11, q12, q13, q14, q15⟩ : Anim) now = 11) := by show _ = _; rw [setErr, if_neg (by rw [HN.out]; omega), if_neg (by rw [hbt]; decide), if_neg (by rw [HFE.out]; omega), HSt.out, HE.out, if_neg (by omega), if_pos (by rw [HPL.out]; exact h64)]
              have e3 : ((pl : Int) == 64) = true := by simp; omega
              have e3b : (pl : Int) = 64 := by omega
              as_aux_lemma =>
              go_wp2
              go_ret2
              exact Setted.no HR.out (by omega) HB4.out
            · have HR : Hid (setErr l (⟨q0, q1, q2, q3, q4, q5, q6, q7, q8, q9, q10, q11, q12, q13, q14, q15⟩ : Anim) now = 0) := by show _ = _; rw [setErr, if_neg (by rw [HN.out]; omega), if_neg (by rw [hbt]; decide), if_neg (by rw [HFE.out]; omega), HSt.out, HE.out, if_neg (by omega), if_neg (by rw [HPL.out]; exact h64)]
              have e3 : ((pl : Int) == 64) = false := by simp; omega
              have e3b : ¬ (pl : Int) = 64 := by omega
              as_aux_lemma =>
              go_wp2_with (first | (refine copy_list (base := w.heap.size) HV4.out (by omega) HB4.out.size hi0 hz0 hz1 hz2 ?_; intro v5 w5 hown5 hb5; have HO5 := Lib.hid hown5; have HBB5 := Lib.hid hb5; clear hown5 hb5) | (refine halt_dst 98 ?_; intro G HGo))
              have HA5 : Hid (AnimBlk (w5) w.heap.size 38 [.int .i64 q0, .int .i64 q1, .int .i64 q2, .int .i64 q3, .int .i64 q4, .int .i64 now, .int .i64 q6, .int .i64 q7, .int .i64 q8, .int .i64 q9, .int .i64 q10, .int .i64 q11, .int .i64 q12, .int .i64 (wrap64 (65536 * q3)), .int .i64 q14, .int .i64 now]) := HA4.out.kept (HBB5.out _ (Nat.le_refl _)) HA4.out.lt
              have HB5 : Hid (Below w.heap.size w w5) := HB4.out.trans (HBB5.out _ HB4.out.size)
              refine HGo.out ?_
              clear HGo
              refine grow_list (base := w.heap.size) (N := pl) (by omega) HB5.out.size (recCells (l.map recA)) hi0 hz0 hz1 hz2 HO5.out HA5.out ?_
              intro v6 w6 hown6 hb6
              have HAn : Hid (IsAnims w6 v6 (setOn l (⟨q0, q1, q2, q3, q4, q5, q6, q7, q8, q9, q10, q11, q12, q13, q14, q15⟩ : Anim) now)) := by
                show IsAnims _ _ _
                rw [setOn, if_pos HR.out, if_neg (by rw [HPL.out, HN.out]; omega), HSt.out]
                refine ownsRow_isRecs (base := w.heap.size) (e := 38) (n := pl + 1) (l := (l ++ [(⟨q0, q1, q2, q3, q4, now, q6, q7, q8, q9, q10, q11, q12, (wrap64 (65536 * q3)), q14, now⟩ : Anim)]).map recA) ?_ (by simp; exact HN.out.symm) (recA_wide _)
                rw [List.map_append, recCells_append]; exact hown6
              have HB6 : Hid (Below w.heap.size w w6) := HB5.out.trans (hb6 _ (Nat.le_refl _))
              clear hown6 hb6
              go_wp2
              go_ret2
              exact ⟨_, by rw [HR.out]; rfl, HAn.out, HB6.out⟩
          · have e2 : (E != 0) = true := by simpa using he
            have e2b : (E == 0) = false := by simpa using he
            have HR : Hid (setErr l (⟨q0, q1, q2, q3, q4, q5, q6, q7, q8, q9, q10, q11, q12, q13, q14, q15⟩ : Anim) now = E) := by show _ = _; rw [setErr, if_neg (by rw [HN.out]; omega), if_neg (by rw [hbt]; decide), if_neg (by rw [HFE.out]; omega), HSt.out, HE.out, if_pos he]
            have HEn := Lib.hid he
            clear he
            as_aux_lemma =>
            go_wp2
            go_ret2
            exact Setted.no HR.out HEn.out HB4.out
end Go.Proofs.Ytfcffmjmohkpoaa
