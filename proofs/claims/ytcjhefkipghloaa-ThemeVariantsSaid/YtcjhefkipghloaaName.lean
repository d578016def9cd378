/- Name of package expr and of the reference: what a name is. -/
import Derived.Test.YtcjhefkipghloaaQuiet
import Derived.WalkSmall
import Derived.Laws.Strings
namespace Go.Proofs.Ytcjhefkipghloaa
open Go.RowKit
set_option linter.unusedVariables false
set_option linter.unusedSimpArgs false

def letterC (c : Int) : Bool := (decide (97 ≤ c) && decide (c ≤ 122)) || (decide (65 ≤ c) && decide (c ≤ 90))
def innerC (c : Int) : Bool := letterC c || (decide (48 ≤ c) && decide (c ≤ 57)) || decide (c = 45) || decide (c = 95)
def byteC (s : ByteArray) (i : Nat) : Int := ((s.data.getD i 0).toNat : Int)
def okC (s : ByteArray) (i : Nat) : Bool := if i = 0 then letterC (byteC s i) else innerC (byteC s i)
def okTo (s : ByteArray) (k : Nat) : Prop := ∀ i, i < k → okC s i = true
def nameB (s : ByteArray) : Bool := decide (1 ≤ s.size) && decide (s.size ≤ 24) && (List.range s.size).all (okC s)
theorem nameB_no {s : ByteArray} {k : Nat} (hk : k < s.size) (h : okC s k = false) : nameB s = false := by
  unfold nameB
  rw [Bool.and_eq_false_iff]
  right
  rw [List.all_eq_false]
  exact ⟨k, by simpa using hk, by simp [h]⟩
theorem nameB_yes {s : ByteArray} (h0 : 1 ≤ s.size) (h1 : s.size ≤ 24) (h : okTo s s.size) : nameB s = true := by
  unfold nameB
  simp only [Bool.and_eq_true, decide_eq_true_iff, List.all_eq_true, List.mem_range]
  exact ⟨⟨h0, h1⟩, h⟩
theorem nameB_size {s : ByteArray} (h : ¬ (1 ≤ s.size ∧ s.size ≤ 24)) : nameB s = false := by
  unfold nameB
  rw [Bool.and_eq_false_iff]
  left
  rw [Bool.and_eq_false_iff]
  by_cases c : 1 ≤ s.size
  · right; simpa using fun d => h ⟨c, d⟩
  · left; simpa using c

theorem classes0 (c : Int) : (letterC c = true ∧ ((97 ≤ c ∧ c ≤ 122) ∨ (c < 97 ∧ 65 ≤ c ∧ c ≤ 90))) ∨ (letterC c = false ∧ (c < 65 ∨ (90 < c ∧ c < 97 ∧ 65 ≤ c) ∨ (122 < c ∧ 97 ≤ c ∧ 90 < c ∧ 65 ≤ c))) := by
  cases h : letterC c with
  | true => simp [letterC] at h; left; exact ⟨rfl, by omega⟩
  | false => simp [letterC] at h; right; exact ⟨rfl, by omega⟩
theorem classes1 (c : Int) : (innerC c = true ∧ ((97 ≤ c ∧ c ≤ 122) ∨ (c < 97 ∧ 65 ≤ c ∧ c ≤ 90) ∨ (c < 65 ∧ 48 ≤ c ∧ c ≤ 57) ∨ c = 45 ∨ c = 95)) ∨
    (innerC c = false ∧ c ≠ 45 ∧ c ≠ 95 ∧ (c < 48 ∨ (57 < c ∧ 48 ≤ c ∧ c < 65) ∨ (90 < c ∧ 65 ≤ c ∧ 57 < c ∧ 48 ≤ c ∧ c < 97) ∨ (122 < c ∧ 97 ≤ c ∧ 90 < c ∧ 65 ≤ c ∧ 57 < c ∧ 48 ≤ c))) := by
  cases h : innerC c with
  | true => simp [innerC, letterC] at h; left; exact ⟨rfl, by omega⟩
  | false => simp [innerC, letterC] at h; right; exact ⟨rfl, by omega, by omega, by omega⟩

set_option maxHeartbeats 4000000 in
theorem name_any (s : ByteArray) (w : World) (hs : s.size ≤ maxLen) : Calls Try.prog 31 #[.string s] w fun e w' => e = .returned (.bool (nameB s)) ∧ w = w' := by
  unfold maxLen at hs
  by_cases hz : 1 ≤ s.size ∧ s.size ≤ 24
  · obtain ⟨h0, h1⟩ := hz
    have h0' : (1 : Int) ≤ (s.size : Int) := by omega
    have h1' : (s.size : Int) ≤ 24 := by omega
    have e0 : ((s.size : Int) == 0) = false := by rw [beq_eq_false_iff_ne]; omega
    go_enter Try.func31, Try.ntmps31
    go_wp2_with fail
    go_loop [16] (fun i => ∃ k : Nat, k ≤ s.size ∧ i = .int .i64 k ∧ Hid (okTo s k)) (fun i => s.size - (intOf i).toNat)
    case atStart => exact ⟨0, Nat.zero_le _, rfl, fun i hi => absurd hi (Nat.not_lt_zero _)⟩
    case round =>
      obtain ⟨k, hk, rfl, HO⟩ := hrel
      by_cases hlt : k < s.size
      · have hbc : byteC s k = ((s[k].toNat : Nat) : Int) := by unfold byteC; congr 2; simp [ByteArray.getElem_eq_getElem_data, hlt]
        have HBC := Lib.hid hbc
        clear hbc
        obtain ⟨c, hc⟩ : ∃ c, ((s[k].toNat : Nat) : Int) = c := ⟨_, rfl⟩
        have HC : Hid (okC s k = if k = 0 then letterC c else innerC c) := by show _ = _; unfold okC; rw [HBC.out, hc]
        have HN : Hid (okC s k = false → nameB s = false) := fun h => nameB_no hlt h
        have HS : Hid (okC s k = true → okTo s (k + 1)) := fun h i hi => by
          by_cases ci : i = k
          · subst ci; exact h
          · exact HO.out i (by omega)
        by_cases hk0 : k = 0
        · rw [if_pos hk0] at HC
          have ek : ((k : Int) == 0) = true := by simpa using hk0
          clear hk0
          rcases classes0 c with ⟨hl, p⟩ | ⟨hl, p⟩
          · have HL := Lib.hid hl
            clear hl
            rcases p with ⟨p1, p2⟩ | ⟨p0, p1, p2⟩
            all_goals
              go_wp2
              go_round
              case rel => exact ⟨k + 1, by omega, by go_num, HS.out (by rw [HC.out]; exact HL.out)⟩
              case measure => simp [intOf]; omega
          · have HL := Lib.hid hl
            clear hl
            rcases p with p1 | ⟨p1, p2, p3⟩ | ⟨p1, p2, p3, p4⟩
            · skip
              go_wp2
              go_ret
              exact ⟨ret_bool (HN.out (by rw [HC.out]; exact HL.out)).symm, rfl⟩
            · have d90 : decide (c ≤ 90) = false := by simpa using p1
              go_wp2
              go_ret
              exact ⟨ret_bool (HN.out (by rw [HC.out]; exact HL.out)).symm, rfl⟩
            · have d90 : decide (c ≤ 90) = false := by simpa using p3
              have d122 : decide (c ≤ 122) = false := by simpa using p1
              go_wp2
              go_ret
              exact ⟨ret_bool (HN.out (by rw [HC.out]; exact HL.out)).symm, rfl⟩
        · rw [if_neg hk0] at HC
          have ek : ((k : Int) == 0) = false := by simpa using hk0
          clear hk0
          rcases classes1 c with ⟨hl, p⟩ | ⟨hl, q1, q2, p⟩
          · have HL := Lib.hid hl
            clear hl
            rcases p with ⟨p1, p2⟩ | ⟨p0, p1, p2⟩ | ⟨p0, p1, p2⟩ | p0 | p0
            · skip
              go_wp2
              go_round
              case rel => exact ⟨k + 1, by omega, by go_num, HS.out (by rw [HC.out]; exact HL.out)⟩
              case measure => simp [intOf]; omega
            · skip
              go_wp2
              go_round
              case rel => exact ⟨k + 1, by omega, by go_num, HS.out (by rw [HC.out]; exact HL.out)⟩
              case measure => simp [intOf]; omega
            · skip
              go_wp2
              go_round
              case rel => exact ⟨k + 1, by omega, by go_num, HS.out (by rw [HC.out]; exact HL.out)⟩
              case measure => simp [intOf]; omega
            · subst p0
              go_wp2
              go_round
              case rel => exact ⟨k + 1, by omega, by go_num, HS.out (by rw [HC.out]; exact HL.out)⟩
              case measure => simp [intOf]; omega
            · subst p0
              go_wp2
              go_round
              case rel => exact ⟨k + 1, by omega, by go_num, HS.out (by rw [HC.out]; exact HL.out)⟩
              case measure => simp [intOf]; omega
          · have HL := Lib.hid hl
            clear hl
            have e1 : (c != 45) = true := by simpa using q1
            have e2 : (c != 95) = true := by simpa using q2
            clear q1 q2
            rcases p with p1 | ⟨p1, p2, p3⟩ | ⟨p1, p2, p3, p4, p5⟩ | ⟨p1, p2, p3, p4, p5, p6⟩
            · skip
              go_wp2
              go_ret
              exact ⟨ret_bool (HN.out (by rw [HC.out]; exact HL.out)).symm, rfl⟩
            · skip
              go_wp2
              go_ret
              exact ⟨ret_bool (HN.out (by rw [HC.out]; exact HL.out)).symm, rfl⟩
            · have d90 : decide (c ≤ 90) = false := by simpa using p1
              go_wp2
              go_ret
              exact ⟨ret_bool (HN.out (by rw [HC.out]; exact HL.out)).symm, rfl⟩
            · have d90 : decide (c ≤ 90) = false := by simpa using p3
              have d122 : decide (c ≤ 122) = false := by simpa using p1
              go_wp2
              go_ret
              exact ⟨ret_bool (HN.out (by rw [HC.out]; exact HL.out)).symm, rfl⟩
      · obtain rfl : k = s.size := by omega
        go_wp2
        go_ret
        exact ⟨ret_bool (nameB_yes h0 h1 HO.out).symm, rfl⟩
  · have HR := Lib.hid (nameB_size hz)
    by_cases g : s.size = 0
    · have e0 : ((s.size : Int) == 0) = true := by simp [g]
      clear hz g
      go_enter Try.func31, Try.ntmps31
      go_wp2
      go_ret
      exact ⟨ret_bool HR.out.symm, rfl⟩
    · have e0 : ((s.size : Int) == 0) = false := by rw [beq_eq_false_iff_ne]; omega
      have g2 : (24 : Int) < (s.size : Int) := by omega
      clear hz g
      go_enter Try.func31, Try.ntmps31
      go_wp2
      go_ret
      exact ⟨ret_bool HR.out.symm, rfl⟩

set_option maxHeartbeats 400000 in
theorem letter_any (c : Int) (w : World) (h0 : 0 ≤ c) (h1 : c ≤ 255) : Calls Try.prog 39 #[.int .u8 c] w fun e w' => e = .returned (.bool (letterC c)) ∧ w = w' := by
  rcases classes0 c with ⟨hl, p⟩ | ⟨hl, p⟩
  · have HL := Lib.hid hl
    clear hl
    rcases p with ⟨p1, p2⟩ | ⟨p0, p1, p2⟩
    all_goals
      go_enter Try.func39, Try.ntmps39
      go_wp2
      go_ret
      exact ⟨ret_bool HL.out.symm, rfl⟩
  · have HL := Lib.hid hl
    clear hl
    rcases p with p1 | ⟨p1, p2, p3⟩ | ⟨p1, p2, p3, p4⟩
    · go_enter Try.func39, Try.ntmps39
      go_wp2
      go_ret
      exact ⟨ret_bool HL.out.symm, rfl⟩
    · have d90 : decide (c ≤ 90) = false := by simpa using p1
      go_enter Try.func39, Try.ntmps39
      go_wp2
      go_ret
      exact ⟨ret_bool HL.out.symm, rfl⟩
    · have d90 : decide (c ≤ 90) = false := by simpa using p3
      have d122 : decide (c ≤ 122) = false := by simpa using p1
      go_enter Try.func39, Try.ntmps39
      go_wp2
      go_ret
      exact ⟨ret_bool HL.out.symm, rfl⟩

set_option maxHeartbeats 4000000 in
theorem rname_any (s : ByteArray) (w : World) (hs : s.size ≤ maxLen) : Calls Try.prog 32 #[.string s] w fun e w' => e = .returned (.bool (nameB s)) ∧ w = w' := by
  unfold maxLen at hs
  by_cases hz : 1 ≤ s.size ∧ s.size ≤ 24
  · obtain ⟨h0, h1⟩ := hz
    have h0' : (1 : Int) ≤ (s.size : Int) := by omega
    have h1' : (s.size : Int) ≤ 24 := by omega
    have hz0 : 0 < s.size := by omega
    obtain ⟨c0, hc0⟩ : ∃ c, ((s[0].toNat : Nat) : Int) = c := ⟨_, rfl⟩
    have hb0 : byteC s 0 = c0 := by rw [← hc0]; unfold byteC; congr 2; simp [ByteArray.getElem_eq_getElem_data, hz0]
    have hr0 : 0 ≤ c0 ∧ c0 ≤ 255 := by rw [← hc0]; have := s[0].toNat_lt; omega
    cases hl0 : letterC c0 with
    | false =>
      have HL0 := Lib.hid hl0
      have HN : Hid (nameB s = false) := nameB_no hz0 (by unfold okC; rw [if_pos rfl, hb0]; exact hl0)
      clear hb0 hl0
      go_enter Try.func32, Try.ntmps32
      go_wp2_with (go_at_call 39; refine (letter_any _ _ (by omega) (by omega)).mono ?_; rw [HL0.out]; rintro e w' ⟨rfl, rfl⟩)
      go_ret
      exact ⟨ret_bool HN.out.symm, rfl⟩
    | true =>
      have HL0 := Lib.hid hl0
      have HO1 : Hid (okTo s 1) := fun i hi => by
        have : i = 0 := by omega
        subst this
        unfold okC; rw [if_pos rfl, hb0]; exact hl0
      clear hb0 hl0
      go_enter Try.func32, Try.ntmps32
      go_wp2_with (go_at_call 39; refine (letter_any _ _ (by omega) (by omega)).mono ?_; rw [HL0.out]; rintro e w' ⟨rfl, rfl⟩)
      clear hc0 hr0
      go_loop [3] (fun i => ∃ k : Nat, 1 ≤ k ∧ k ≤ s.size ∧ i = .int .i64 k ∧ Hid (okTo s k)) (fun i => s.size - (intOf i).toNat)
      case atStart => exact ⟨1, Nat.le_refl _, h0, rfl, HO1.out⟩
      case round =>
        obtain ⟨k, hk1, hk, rfl, HO⟩ := hrel
        by_cases hlt : k < s.size
        · have hbc : byteC s k = ((s[k].toNat : Nat) : Int) := by unfold byteC; congr 2; simp [ByteArray.getElem_eq_getElem_data, hlt]
          have HBC := Lib.hid hbc
          clear hbc
          obtain ⟨c, hc⟩ : ∃ c, ((s[k].toNat : Nat) : Int) = c := ⟨_, rfl⟩
          have HC : Hid (okC s k = if k = 0 then letterC c else innerC c) := by show _ = _; unfold okC; rw [HBC.out, hc]
          have HN : Hid (okC s k = false → nameB s = false) := fun h => nameB_no hlt h
          have HS : Hid (okC s k = true → okTo s (k + 1)) := fun h i hi => by
            by_cases ci : i = k
            · subst ci; exact h
            · exact HO.out i (by omega)
          have hr : 0 ≤ c ∧ c ≤ 255 := by rw [← hc]; have := s[k].toNat_lt; omega
          rw [if_neg (by omega)] at HC
          rcases classes1 c with ⟨hl, p⟩ | ⟨hl, q1, q2, p⟩
          · have HL := Lib.hid hl
            clear hl
            rcases p with ⟨p1, p2⟩ | ⟨p0, p1, p2⟩ | ⟨p0, p1, p2⟩ | p0 | p0
            · skip
              have HLt : Hid (letterC c = true) := by show _ = _; simp [letterC]; omega
              go_wp2_with (go_at_call 39; refine (letter_any _ _ (by omega) (by omega)).mono ?_; rw [HLt.out]; rintro e w' ⟨rfl, rfl⟩)
              go_round
              case rel => exact ⟨k + 1, by omega, by omega, by go_num, HS.out (by rw [HC.out]; exact HL.out)⟩
              case measure => simp [intOf]; omega
            · skip
              have HLt : Hid (letterC c = true) := by show _ = _; simp [letterC]; omega
              go_wp2_with (go_at_call 39; refine (letter_any _ _ (by omega) (by omega)).mono ?_; rw [HLt.out]; rintro e w' ⟨rfl, rfl⟩)
              go_round
              case rel => exact ⟨k + 1, by omega, by omega, by go_num, HS.out (by rw [HC.out]; exact HL.out)⟩
              case measure => simp [intOf]; omega
            · skip
              have HLt : Hid (letterC c = false) := by show _ = _; simp [letterC]; omega
              go_wp2_with (go_at_call 39; refine (letter_any _ _ (by omega) (by omega)).mono ?_; rw [HLt.out]; rintro e w' ⟨rfl, rfl⟩)
              go_round
              case rel => exact ⟨k + 1, by omega, by omega, by go_num, HS.out (by rw [HC.out]; exact HL.out)⟩
              case measure => simp [intOf]; omega
            · subst p0
              have HLt : Hid (letterC 45 = false) := by show _ = _; decide
              go_wp2_with (go_at_call 39; refine (letter_any _ _ (by omega) (by omega)).mono ?_; rw [HLt.out]; rintro e w' ⟨rfl, rfl⟩)
              go_round
              case rel => exact ⟨k + 1, by omega, by omega, by go_num, HS.out (by rw [HC.out]; exact HL.out)⟩
              case measure => simp [intOf]; omega
            · subst p0
              have HLt : Hid (letterC 95 = false) := by show _ = _; decide
              go_wp2_with (go_at_call 39; refine (letter_any _ _ (by omega) (by omega)).mono ?_; rw [HLt.out]; rintro e w' ⟨rfl, rfl⟩)
              go_round
              case rel => exact ⟨k + 1, by omega, by omega, by go_num, HS.out (by rw [HC.out]; exact HL.out)⟩
              case measure => simp [intOf]; omega
          · have HL := Lib.hid hl
            clear hl
            have e1 : (c != 45) = true := by simpa using q1
            have e2 : (c != 95) = true := by simpa using q2
            clear q1 q2
            rcases p with p1 | ⟨p1, p2, p3⟩ | ⟨p1, p2, p3, p4, p5⟩ | ⟨p1, p2, p3, p4, p5, p6⟩
            all_goals
              have HLt : Hid (letterC c = false) := by show _ = _; simp [letterC]; omega
              go_wp2_with (go_at_call 39; refine (letter_any _ _ (by omega) (by omega)).mono ?_; rw [HLt.out]; rintro e w' ⟨rfl, rfl⟩)
              go_ret
              exact ⟨ret_bool (HN.out (by rw [HC.out]; exact HL.out)).symm, rfl⟩
        · obtain rfl : k = s.size := by omega
          go_wp2
          go_ret
          exact ⟨ret_bool (nameB_yes h0 h1 HO.out).symm, rfl⟩
  · have HR := Lib.hid (nameB_size hz)
    by_cases g : s.size = 0
    · have g2 : (s.size : Int) < 1 := by omega
      clear hz g
      go_enter Try.func32, Try.ntmps32
      go_wp2
      go_ret
      exact ⟨ret_bool HR.out.symm, rfl⟩
    · have g1 : (1 : Int) ≤ (s.size : Int) := by omega
      have g2 : (24 : Int) < (s.size : Int) := by omega
      clear hz g
      go_enter Try.func32, Try.ntmps32
      go_wp2
      go_ret
      exact ⟨ret_bool HR.out.symm, rfl⟩
end Go.Proofs.Ytcjhefkipghloaa
