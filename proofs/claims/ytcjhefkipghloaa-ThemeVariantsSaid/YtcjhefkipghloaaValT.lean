/- Validate of package theme (printed by wip/gen_valt.py). -/
import Derived.Test.YtcjhefkipghloaaThemeVal
import Derived.Test.YtcjhefkipghloaaThemeF
import Derived.Test.YtcjhefkipghloaaSizes
import Derived.Test.YtcjhefkipghloaaSrc
import Derived.Maps.OwnOps
import Derived.StringKeys
namespace Go.Proofs.Ytcjhefkipghloaa
open Go.RowKit Go.Maps
set_option linter.unusedVariables false
set_option linter.unusedSimpArgs false

def tv (t : Tok) : Nat → Int
  | 0 => t.light
  | 1 => t.dark
  | 2 => t.hlight
  | _ => t.hdark
def tvTo (t : Tok) (k : Nat) : Prop := ∀ i, i < k → valB (tv t i) = true
theorem tvTo_succ {t : Tok} {k : Nat} (h : tvTo t k) (hk : valB (tv t k) = true) : tvTo t (k + 1) := fun i hi => by
  by_cases e : i = k
  · subst e; exact hk
  · exact h i (by omega)
theorem vals_ok {t : Tok} (h : tvTo t 4) : t.vals = true := by
  have a := h 0 (by omega); have b := h 1 (by omega); have c := h 2 (by omega); have d := h 3 (by omega)
  simp only [tv] at a b c d
  simp [Tok.vals, a, b, c, d]
theorem vals_no {t : Tok} {k : Nat} (hk : k < 4) (h : valB (tv t k) = false) : t.vals = false := by
  match k, hk with
  | 0, _ => simp only [tv] at h; simp [Tok.vals, h]
  | 1, _ => simp only [tv] at h; simp [Tok.vals, h]
  | 2, _ => simp only [tv] at h; simp [Tok.vals, h]
  | 3, _ => simp only [tv] at h; simp [Tok.vals, h]
theorem valB_color (n : Int) : valB n = (decide (n = -1) || colorZ n) := by
  rw [Bool.eq_iff_iff]; simp [valB, colorZ]; omega
theorem ix4 (a b c d : Int) (w : World) : (Instr.index 52 (.agg #[.int .i64 a, .int .i64 b, .int .i64 c, .int .i64 d]) (.int .i64 0)).run Try.prog w = .ok (.int .i64 a) w ∧
    (Instr.index 52 (.agg #[.int .i64 a, .int .i64 b, .int .i64 c, .int .i64 d]) (.int .i64 1)).run Try.prog w = .ok (.int .i64 b) w ∧
    (Instr.index 52 (.agg #[.int .i64 a, .int .i64 b, .int .i64 c, .int .i64 d]) (.int .i64 2)).run Try.prog w = .ok (.int .i64 c) w ∧
    (Instr.index 52 (.agg #[.int .i64 a, .int .i64 b, .int .i64 c, .int .i64 d]) (.int .i64 3)).run Try.prog w = .ok (.int .i64 d) w := ⟨by kernel_rfl, by kernel_rfl, by kernel_rfl, by kernel_rfl⟩
theorem look_seen {w : World} {b n : Nat} {D : DataW Unit} {d : Bool} (h : w.ownsMap Try.prog 9 (plainElem Try.prog 4) b n D) {s : ByteArray} (hs : s.size ≤ maxLen) (hd : D.atKey (.string s.data.toList) (.lit (.bool false)) = .lit (.bool d)) :
    (Instr.lookup 50 (.map (some b)) (.string s) false).run Try.prog w = .ok (.bool d) w := by
  obtain ⟨v, ps, hrun, hv⟩ := h.lookup (string_keyed Try.underlying9) Try.underlying50 (show (zeroValue 4).run Try.prog w = .ok (.bool false) w by kernel_rfl) (plainElem_bool Try.underlying4 false) (WideMaps.keyOf_string_mk Try.underlying9 hs)
  rw [hd] at hv
  cases v <;> simp [plainElem, Try.underlying4] at hv
  obtain ⟨rfl, rfl⟩ := hv
  exact hrun

set_option maxHeartbeats 2000000 in
theorem valid_long (a : Option Addr) (cap : Nat) (l : List Tok) (w : World) (n : Nat) (HN : Hid (l.length = n)) (hn : 100 < n) (hc : n ≤ maxLen) : Calls Try.prog 19 #[.agg #[.slice a n cap]] w (Gives (valE l) w) := by
  have hr : Hid (valE l = 2) := by show _ = _; unfold valE; rw [HN.out, if_pos hn]
  unfold maxLen at hc
  have hn' : (100 : Int) < (n : Int) := by omega
  clear hn
  go_enter Try.func19, Try.ntmps19
  go_wp2
  go_ret
  exact ⟨ret_int hr.out.symm, (Below.refl _ _).alloc (Nat.le_refl _) _⟩

set_option maxHeartbeats 4000000 in
set_option maxRecDepth 100000 in
theorem valid_short (a : Option Addr) (cap : Nat) (l : List Tok) (w : World) (n : Nat) (HN : Hid (l.length = n)) (hn : n ≤ 100) (NO : Hid (namesOk l))
    (H3 : Hid (0 < n → ∃ b off, a = some ⟨b, off, none⟩ ∧ b < w.heap.size ∧ ∀ i, i < n → TokAt w b (off + i * 5) (gt l i))) : Calls Try.prog 19 #[.agg #[.slice a n cap]] w (Gives (valE l) w) := by
  have hn' : (n : Int) ≤ 100 := by omega
  have hmm := @run_makeMap Try.prog
  go_enter Try.func19, Try.ntmps19
  go_wp2_with fail
  have hown0 : ((w.alloc (.cells #[.slice a n cap] 32)).alloc (.map #[] 0)).ownsMap Try.prog 9 (plainElem Try.prog 4) (w.heap.size + 1) 0 (seenD l 0) := by
    have := World.ownsMap_made (H := Unit) (w.alloc (.cells #[.slice a n cap] 32)) Try.prog 9 (plainElem Try.prog 4)
    rwa [World.size_alloc] at this
  have HO := Lib.hid hown0
  clear hown0
  go_loopw [16] (fun i wr => ∃ k : Nat, k ≤ n ∧ i = .int .i64 k ∧ Hid (firstE l k = 0) ∧ Below w.heap.size w wr ∧ wr.ownsMap Try.prog 9 (plainElem Try.prog 4) (w.heap.size + 1) k (seenD l k)) (fun i _ => n - (intOf i).toNat)
  case atStart => exact ⟨0, Nat.zero_le _, rfl, by show _ = _; rfl, below_2 _ _, HO.out⟩
  case round =>
    obtain ⟨k, hk, rfl, HF, hbl, hown⟩ := hrel
    have HOWN := Lib.hid hown
    have HB := Lib.hid hbl
    by_cases hkn : k < n
    · obtain ⟨b, off, rfl, hlt, hcell⟩ := H3.out (by omega)
      have hoff := (hcell k hkn).kept hbl hlt
      obtain ⟨t, ht⟩ : ∃ t, gt l k = t := ⟨_, rfl⟩
      have HT := Lib.hid ht
      have hkn' : (k : Int) < (n : Int) := by omega
      have hnm := NO.out k
      rw [ht] at hoff hnm
      obtain ⟨nm, t1, t2, t3, t4⟩ := t
      obtain ⟨c0, c1, c2, c3, c4⟩ := hoff
      simp only at c0 c1 c2 c3 c4 hnm
      have HNM := Lib.hid hnm
      have hlt2 : w.heap.size + 1 < wr.heap.size := hown.lt
      have HLT2 := Lib.hid hlt2
      have HBn := Lib.hid (HB.out.alloc HB.out.size (.cells #[.string nm, .int .i64 t1, .int .i64 t2, .int .i64 t3, .int .i64 t4] 35))
      clear hcell hbl ht hnm hown hlt2
      have HRET : Hid (∀ c, tokE l k = c → c ≠ 0 → valE l = c) := fun c h1 h2 => valE_hit (by rw [HN.out]; exact hn) HF.out h1 h2 (by rw [HN.out]; exact hkn)
      cases hb : nameB nm with
      | false =>
        have HNB := Lib.hid hb
        clear hb
        have HR := Lib.hid (HRET.out 4 (tokE_name (by rw [HT.out]; exact HNB.out)) (by omega))
        go_wp2_with (go_at_call 31; refine (name_any _ _ HNM.out).mono ?_; rw [HNB.out]; rintro e w' ⟨rfl, rfl⟩)
        go_ret
        exact ⟨ret_int HR.out.symm, HBn.out⟩
      | true =>
        have HNB := Lib.hid hb
        clear hb
        have hlk : (Instr.lookup 50 (.map (some (w.heap.size + 1))) (.string nm) false).run Try.prog (wr.alloc (.cells #[.string nm, .int .i64 t1, .int .i64 t2, .int .i64 t3, .int .i64 t4] 35)) = .ok (.bool (dupTo l nm k)) (wr.alloc (.cells #[.string nm, .int .i64 t1, .int .i64 t2, .int .i64 t3, .int .i64 t4] 35)) :=
          look_seen (HOWN.out.alloc _) HNM.out (seenD_at l nm k)
        cases hd : dupTo l nm k with
        | true =>
          have HD := Lib.hid hd
          rw [hd] at hlk
          clear hd
          have HR := Lib.hid (HRET.out 6 (tokE_dup (by rw [HT.out]; exact HNB.out) (by rw [HT.out]; exact HD.out)) (by omega))
          go_wp2_with (go_at_call 31; refine (name_any _ _ HNM.out).mono ?_; rw [HNB.out]; rintro e w' ⟨rfl, rfl⟩)
          go_ret
          exact ⟨ret_int HR.out.symm, HBn.out⟩
        | false =>
          have HD := Lib.hid hd
          rw [hd] at hlk
          clear hd
          go_wp2_with (first | (go_at_call 31; refine (name_any _ _ HNM.out).mono ?_; rw [HNB.out]; rintro e w' ⟨rfl, rfl⟩) | (at_mapUpdate; refine wpList_mapUpdate_own _ rfl _ _ _ 50 rfl 9 4 (string_keyed Try.underlying9) Try.underlying50 (plainElem Try.prog 4) (w.heap.size + 1) k (seenD l k) rfl (HOWN.out.alloc _) (by unfold maxLen; omega) _ _ (.string nm.data.toList) rfl rfl (WideMaps.keyOf_string_mk Try.underlying9 HNM.out) (.lit (.bool true)) [] (plainElem_bool Try.underlying4 true) ?_; intro w1 hown1 hgrow1; clear hlk c0 c1 c2 c3 c4; have d1 := hgrow1.cell (a := ⟨wr.heap.size, 1, none⟩) (v := .int .i64 t1) (by go_simp) (by have := HLT2.out; simp; omega); have d2 := hgrow1.cell (a := ⟨wr.heap.size, 2, none⟩) (v := .int .i64 t2) (by go_simp) (by have := HLT2.out; simp; omega); have d3 := hgrow1.cell (a := ⟨wr.heap.size, 3, none⟩) (v := .int .i64 t3) (by go_simp) (by have := HLT2.out; simp; omega); have d4 := hgrow1.cell (a := ⟨wr.heap.size, 4, none⟩) (v := .int .i64 t4) (by go_simp) (by have := HLT2.out; simp; omega); have HO1 := Lib.hid hown1; have HG1 := Lib.hid hgrow1; clear hown1 hgrow1))
          have HB1 : Hid (Below w.heap.size w w1) := HBn.out.trans (grownBy_below HG1.out (Nat.le_succ _) (by have := HLT2.out; simp; omega))
          have HRV : Hid (∀ j, j < 4 → valB (tv ⟨nm, t1, t2, t3, t4⟩ j) = false → valE l = 1) := fun j hj h => HRET.out 1 (tokE_val (by rw [HT.out]; exact HNB.out) (by rw [HT.out]; exact HD.out) (by rw [HT.out]; exact vals_no hj h)) (by omega)
          have HNX : Hid (tvTo ⟨nm, t1, t2, t3, t4⟩ 4 → firstE l (k + 1) = 0) := fun h => firstE_next HF.out (tokE_ok (by rw [HT.out]; exact HNB.out) (by rw [HT.out]; exact HD.out) (by rw [HT.out]; exact vals_ok h))
          have HON : Hid (w1.ownsMap Try.prog 9 (plainElem Try.prog 4) (w.heap.size + 1) (k + 1) (seenD l (k + 1))) := by
            have := HO1.out
            simp only [seenD, HT.out]
            exact this
          clear d1 d2 d3 d4
          go_loop [42] (fun i => ∃ j : Nat, j ≤ 4 ∧ i = .int .i64 j ∧ Hid (tvTo ⟨nm, t1, t2, t3, t4⟩ j)) (fun i => 4 - (intOf i).toNat)
          case atStart => exact ⟨0, Nat.zero_le _, rfl, fun i hi => absurd hi (Nat.not_lt_zero _)⟩
          case round =>
            obtain ⟨j, hj, rfl, HV⟩ := hrel
            by_cases hj4 : j < 4
            · obtain ⟨x, hx⟩ : ∃ x, tv ⟨nm, t1, t2, t3, t4⟩ j = x := ⟨_, rfl⟩
              have HX := Lib.hid hx
              have hix : (Instr.index 52 (.agg #[.int .i64 t1, .int .i64 t2, .int .i64 t3, .int .i64 t4]) (.int .i64 (j : Int))).run Try.prog w1 = .ok (.int .i64 x) w1 := by
                obtain ⟨i0, i1, i2, i3⟩ := ix4 t1 t2 t3 t4 w1
                match j, hj4, hx with
                | 0, _, hx => simp only [tv] at hx; subst hx; exact i0
                | 1, _, hx => simp only [tv] at hx; subst hx; exact i1
                | 2, _, hx => simp only [tv] at hx; subst hx; exact i2
                | 3, _, hx => simp only [tv] at hx; subst hx; exact i3
              have hj4' : (j : Int) < 4 := by omega
              clear hx
              by_cases hm : x = -1
              · have e1 : (x != -1) = false := by rw [hm]; rfl
                have HVN : Hid (tvTo ⟨nm, t1, t2, t3, t4⟩ (j + 1)) := tvTo_succ HV.out (by rw [HX.out, valB_color, hm]; rfl)
                clear hm
                go_wp2
                go_round
                case rel => exact ⟨j + 1, by omega, by go_num, HVN⟩
                case measure => simp [intOf]; omega
              · have e1 : (x != -1) = true := by simpa using hm
                cases hc : colorZ x with
                | true =>
                  have HC := Lib.hid hc
                  have HVN : Hid (tvTo ⟨nm, t1, t2, t3, t4⟩ (j + 1)) := tvTo_succ HV.out (by rw [HX.out, valB_color, hc]; simp)
                  clear hm hc
                  go_wp2_with (go_at_call 27; refine (color_any _ _).mono ?_; rw [HC.out]; rintro e w' ⟨rfl, rfl⟩)
                  go_round
                  case rel => exact ⟨j + 1, by omega, by go_num, HVN⟩
                  case measure => simp [intOf]; omega
                | false =>
                  have HC := Lib.hid hc
                  have HR := Lib.hid (HRV.out j hj4 (by rw [HX.out, valB_color, hc]; simpa using hm))
                  clear hm hc
                  go_wp2_with (go_at_call 27; refine (color_any _ _).mono ?_; rw [HC.out]; rintro e w' ⟨rfl, rfl⟩)
                  go_ret
                  exact ⟨ret_int HR.out.symm, HB1.out⟩
            · obtain rfl : j = 4 := by omega
              go_wp2
              go_roundw
              case rel => exact ⟨k + 1, by omega, by go_num, HNX.out HV.out, HB1.out, HON.out⟩
              case measure => simp [intOf]; omega
    · obtain rfl : k = n := by omega
      have HR : Hid (valE l = 0) := valE_ok (by rw [HN.out]; exact hn) (by rw [HN.out]; exact HF.out)
      clear hbl hown
      go_wp2
      go_ret
      exact ⟨ret_int HR.out.symm, HB.out⟩

theorem valid_any (v : Value) (l : List Tok) (w : World) (hv : IsToks w v l) (hn : namesOk l) : Calls Try.prog 19 #[.agg #[v]] w (Gives (valE l) w) := by
  obtain ⟨a, cap, rfl, h1, h2, h3⟩ := hv
  by_cases c : 100 < l.length
  · exact valid_long a cap l w _ (Lib.hid rfl) c (Nat.le_trans h1 h2)
  · exact valid_short a cap l w _ (Lib.hid rfl) (by omega) (Lib.hid hn) (Lib.hid h3)
end Go.Proofs.Ytcjhefkipghloaa
