/- Visible of package scroll. -/
import Derived.Test.YtchlnelpgjjmgaaVisPlain
namespace Go.Proofs.Ytchlnelpgjjmgaa
open Go.RowKit

/-- The call returns the two numbers; of what was there nothing has turned. -/
def Gives2 (a b : Nat) (w : World) (e : Ending) (w' : World) : Prop := e = .returned (.tuple #[.int .i64 a, .int .i64 b]) ∧ Below w.heap.size w w'

set_option maxHeartbeats 400000 in
theorem visible_no1 (v : Value) (l : List Strip) (o h : Int) (w : World) (hv : IsStrips w v l) (hl : (decide (l.length ≤ 10000) && rowsOk l) = false) :
    Calls Try.prog 14 #[v, .int .i64 o, .int .i64 h] w (Gives2 0 0 w) := by
  have HL := Lib.hid hl
  clear hl
  go_enter Try.func14, Try.ntmps14
  go_wp2_with fail
  refine (strips_any _ l _ hv).mono ?_
  rw [HL.out]
  rintro e w' ⟨rfl, hb⟩
  go_wp2
  go_ret2
  exact ⟨rfl, hb⟩

set_option maxHeartbeats 400000 in
theorem visible_no2 (v : Value) (l : List Strip) (o h : Int) (w : World) (hv : IsStrips w v l) (hl : (decide (l.length ≤ 10000) && rowsOk l) = true) (ho : ¬ inZ o) :
    Calls Try.prog 14 #[v, .int .i64 o, .int .i64 h] w (Gives2 0 0 w) := by
  have HL := Lib.hid hl
  have HW : [o].any farZ = !false := by simp [far_true ho]
  clear hl ho
  go_enter Try.func14, Try.ntmps14
  go_wp2_with fail
  refine (strips_any _ l _ hv).mono ?_
  rw [HL.out]
  rintro e w' ⟨rfl, hb⟩
  go_wp2_with (go_at_call 22; refine (within_lit [o] false HW _ rfl (one_len _) _ rfl _ (by simp)).mono ?_; rintro e w' ⟨rfl, rfl⟩)
  go_ret2
  exact ⟨rfl, hb.trans ((below_one _ _).mono hb.size)⟩

set_option maxHeartbeats 400000 in
theorem visible_no3 (v : Value) (l : List Strip) (o h : Int) (w : World) (hv : IsStrips w v l) (hl : (decide (l.length ≤ 10000) && rowsOk l) = true) (ho : inZ o) (hh : ¬ heightZ h) :
    Calls Try.prog 14 #[v, .int .i64 o, .int .i64 h] w (Gives2 0 0 w) := by
  have HL := Lib.hid hl
  have HW : [o].any farZ = !true := by simp [(far_iff o).2 ho]
  have HH : [h].any noHeight = !false := by simp [noHeight_true hh]
  clear hl ho hh
  go_enter Try.func14, Try.ntmps14
  go_wp2_with fail
  refine (strips_any _ l _ hv).mono ?_
  rw [HL.out]
  rintro e w' ⟨rfl, hb⟩
  go_wp2_with (first | (go_at_call 22; refine (within_lit [o] true HW _ rfl (one_len _) _ rfl _ (by simp)).mono ?_; rintro e w' ⟨rfl, rfl⟩) | (go_at_call 23; refine (heights_lit [h] false HH _ rfl (one_len _) _ rfl _ (by simp)).mono ?_; rintro e w' ⟨rfl, rfl⟩))
  go_ret2
  exact ⟨rfl, hb.trans ((below_two _ _ _).mono hb.size)⟩

theorem above_true {l : List Strip} {o : Int} {k : Nat} (h : topTo l k + gh l k ≤ o) : above l o k = true := decide_eq_true h
theorem above_false {l : List Strip} {o : Int} {k : Nat} (h : ¬ topTo l k + gh l k ≤ o) : above l o k = false := decide_eq_false h
theorem upon_true {l : List Strip} {o h : Int} {k : Nat} (c : topTo l k < o + h) : upon l o h k = true := decide_eq_true c
theorem upon_false {l : List Strip} {o h : Int} {k : Nat} (c : ¬ topTo l k < o + h) : upon l o h k = false := decide_eq_false c

set_option maxHeartbeats 1000000 in
set_option maxRecDepth 100000 in
theorem visible_yes (v : Value) (l : List Strip) (o h : Int) (w : World) (hv : IsStrips w v l) (hn : l.length ≤ 10000) (hg : goodRows l l.length) (ho : inZ o) (hh : heightZ h) :
    Calls Try.prog 14 #[v, .int .i64 o, .int .i64 h] w (Gives2 (visF l o) (visL l o h) w) := by
  have HL : Hid ((decide (l.length ≤ 10000) && rowsOk l) = true) := by
    have := (rowsOk_iff l).2 hg
    show _ = _
    rw [this]; simp; exact hn
  have HW : [o].any farZ = !true := by simp [(far_iff o).2 ho]
  have HH : [h].any noHeight = !true := by simp [(noHeight_iff h).2 hh]
  have HV := Lib.hid hv
  have HG := Lib.hid hg
  obtain ⟨o0, o1⟩ := ho
  obtain ⟨k0, k1⟩ := hh
  obtain ⟨a, cap, rfl, h1, h2, h3⟩ := hv
  obtain ⟨n, hn'⟩ : ∃ n, l.length = n := ⟨_, rfl⟩
  rw [hn'] at h1 h3 hn HG ⊢
  have H3 := Lib.hid h3
  have HN := Lib.hid hn'
  clear h3 hn' hg h2
  go_enter Try.func14, Try.ntmps14
  go_wp2_with fail
  refine (strips_any _ l _ (by have := HV.out; rwa [HN.out] at this)).mono ?_
  rw [HL.out]
  rintro e w1 ⟨rfl, hb⟩
  have HB := Lib.hid hb
  go_wp2_with (first | (go_at_call 22; refine (within_lit [o] true HW _ rfl (one_len _) _ rfl _ (by simp)).mono ?_; rintro e w' ⟨rfl, rfl⟩) | (go_at_call 23; refine (heights_lit [h] true HH _ rfl (one_len _) _ rfl _ (by simp)).mono ?_; rintro e w' ⟨rfl, rfl⟩))
  have hbW : Below w.heap.size w ((w1.alloc (.cells #[.int .i64 o] 3)).alloc (.cells #[.int .i64 h] 3)) := hb.trans ((below_two _ _ _).mono hb.size)
  clear hb HB
  generalize ((w1.alloc (.cells #[.int .i64 o] 3)).alloc (.cells #[.int .i64 h] 3)) = W at hbW ⊢
  have HC : Hid (∀ k, k < n → ∃ b off, a = some ⟨b, off, none⟩ ∧ W.cell? ⟨b, off + k * 2 + 1, none⟩ = some (.int .i64 (gh l k))) := fun k hk => by
    obtain ⟨b, off, ha, hlt, hc⟩ := H3.out (by omega)
    exact ⟨b, off, ha, (hbW.cell (p := ⟨b, off + k * 2 + 1, none⟩) hlt).trans (hc k hk).2⟩
  have HBW := Lib.hid hbW
  clear hbW H3 HW HH HV
  have HT : Hid (∀ k, k ≤ n → 0 ≤ topTo l k ∧ topTo l k ≤ k * 1099511627776) := fun k hk => topTo_bd HG.out k hk
  go_loop [6, 8] (fun f t => ∃ k : Nat, k ≤ n ∧ f = .int .i64 k ∧ t = .int .i64 (topTo l k) ∧ Hid (visF l o = scan (above l o) (n - k) k)) (fun f _ => n - (intOf f).toNat)
  case atStart => exact ⟨0, Nat.zero_le _, rfl, rfl, by show _ = _; rw [visF, HN.out]; rfl⟩
  case round =>
    obtain ⟨k, hk, rfl, rfl, HS⟩ := hrel
    have ht := HT.out k hk
    by_cases hgo : k < n ∧ topTo l k + gh l k ≤ o
    · obtain ⟨hkn, hle⟩ := hgo
      obtain ⟨b, off, rfl, hc⟩ := HC.out k hkn
      have hgk := HG.out k hkn
      obtain ⟨g0, g1⟩ := hgk
      have hkn' : (k : Int) < (n : Int) := by omega
      go_wp2
      go_round
      case rel =>
        refine ⟨k + 1, by omega, by go_num, rfl, ?_⟩
        show _ = _
        rw [HS.out, scan_go (above_true hle) (by omega)]
        congr 1
      case measure => simp [intOf]; omega
    · have HF : Hid (visF l o = k) := by
        show _ = _
        rw [HS.out]
        by_cases hkn : k < n
        · exact scan_stop (above_false (fun c => hgo ⟨hkn, c⟩))
        · have : n - k = 0 := by omega
          rw [this]; rfl
      by_cases hkn : k < n
      all_goals
        first
          | (obtain ⟨b, off, ha, hc⟩ := HC.out k hkn
             have hlt : o < topTo l k + gh l k := by omega
             obtain ⟨g0, g1⟩ := HG.out k hkn
             clear hgo
             subst ha
             go_wp2)
          | (clear hgo
             go_wp2)
      all_goals
        go_loop [7, 8] (fun f t => ∃ j : Nat, k ≤ j ∧ j ≤ n ∧ f = .int .i64 j ∧ t = .int .i64 (topTo l j) ∧ Hid (visL l o h = scan (upon l o h) (n - j) j)) (fun f _ => n - (intOf f).toNat)
        case atStart => exact ⟨k, Nat.le_refl _, hk, rfl, rfl, by show _ = _; rw [visL, HN.out, HF.out]⟩
        case round =>
          obtain ⟨j, hkj, hj, rfl, rfl, HS2⟩ := hrel
          have htj := HT.out j hj
          by_cases hgo : j < n ∧ topTo l j < o + h
          · obtain ⟨hjn, hle⟩ := hgo
            obtain ⟨b', off', ha, hcj⟩ := HC.out j hjn
            obtain ⟨q0, q1⟩ := HG.out j hjn
            have hjn' : (j : Int) < (n : Int) := by omega
            first
              | (exfalso; omega)
              | (simp only [Option.some.injEq, Addr.mk.injEq, and_true] at ha
                 obtain ⟨rfl, rfl⟩ := ha
                 go_wp2
                 go_round
                 case rel =>
                   refine ⟨j + 1, by omega, by omega, by go_num, rfl, ?_⟩
                   show _ = _
                   rw [HS2.out, scan_go (upon_true hle) (by omega)]
                   congr 1
                 case measure => simp [intOf]; omega)
          · have HR : Hid (visL l o h = j) := by
              show _ = _
              rw [HS2.out]
              by_cases hjn : j < n
              · exact scan_stop (upon_false (fun c => hgo ⟨hjn, c⟩))
              · have : n - j = 0 := by omega
                rw [this]; rfl
            by_cases hjn : j < n
            · have hlt2 : o + h ≤ topTo l j := by omega
              clear hgo
              go_wp2
              all_goals (go_ret2; exact ⟨by rw [HF.out, HR.out]; rfl, HBW.out⟩)
            · clear hgo
              go_wp2
              all_goals (go_ret2; exact ⟨by rw [HF.out, HR.out]; rfl, HBW.out⟩)

/-- VISIBLE OF PACKAGE scroll. -/
theorem visible_any (v : Value) (l : List Strip) (o h : Int) (w : World) (hv : IsStrips w v l) :
    (visOk l o h → Calls Try.prog 14 #[v, .int .i64 o, .int .i64 h] w (Gives2 (visF l o) (visL l o h) w)) ∧
    (¬ visOk l o h → Calls Try.prog 14 #[v, .int .i64 o, .int .i64 h] w (Gives2 0 0 w)) := by
  refine ⟨fun ⟨h1, h2, h3, h4⟩ => visible_yes v l o h w hv h1 h2 h3 h4, fun hno => ?_⟩
  by_cases h1 : l.length ≤ 10000 ∧ goodRows l l.length
  · have hl : (decide (l.length ≤ 10000) && rowsOk l) = true := by rw [(rowsOk_iff l).2 h1.2]; simp; exact h1.1
    by_cases h3 : inZ o
    · exact visible_no3 v l o h w hv hl h3 (fun h4 => hno ⟨h1.1, h1.2, h3, h4⟩)
    · exact visible_no2 v l o h w hv hl h3
  · refine visible_no1 v l o h w hv ?_
    rw [Bool.and_eq_false_iff]
    by_cases h5 : l.length ≤ 10000
    · right
      cases c : rowsOk l with
      | false => rfl
      | true => exact absurd ⟨h5, (rowsOk_iff l).1 c⟩ h1
    · left; simpa using h5
end Go.Proofs.Ytchlnelpgjjmgaa
