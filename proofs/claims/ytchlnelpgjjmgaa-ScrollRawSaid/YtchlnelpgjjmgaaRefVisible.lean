/- Visible of the reference. -/
import Derived.Test.YtchlnelpgjjmgaaRefVis
import Derived.Test.YtchlnelpgjjmgaaVisible
namespace Go.Proofs.Ytchlnelpgjjmgaa
open Go.RowKit

set_option maxHeartbeats 400000 in
theorem rvisible_no1 (v : Value) (o h : Int) (w : World) (ho : ¬ inZ o) :
    Calls Try.prog 16 #[v, .int .i64 o, .int .i64 h] w (Gives2 0 0 w) := by
  have HD : Hid (false = decide (inZ o)) := by show _ = _; simp [ho]
  clear ho
  go_enter Try.func16, Try.ntmps16
  go_wp2_with (go_at_call 26; refine (rwithin_any _ false HD.out _).mono ?_; rintro e w' ⟨rfl, rfl⟩)
  go_ret2
  exact ⟨rfl, Below.refl _ _⟩
set_option maxHeartbeats 400000 in
theorem rvisible_no2 (v : Value) (o h : Int) (w : World) (ho : inZ o) (hh : ¬ heightZ h) :
    Calls Try.prog 16 #[v, .int .i64 o, .int .i64 h] w (Gives2 0 0 w) := by
  have HD : Hid (true = decide (inZ o)) := by show _ = _; simp [ho]
  have HE : Hid (false = decide (heightZ h)) := by show _ = _; simp [hh]
  clear ho hh
  go_enter Try.func16, Try.ntmps16
  go_wp2_with (first | (go_at_call 26; refine (rwithin_any _ true HD.out _).mono ?_; rintro e w' ⟨rfl, rfl⟩) | (go_at_call 27; refine (rsize_any _ false HE.out _).mono ?_; rintro e w' ⟨rfl, rfl⟩))
  go_ret2
  exact ⟨rfl, Below.refl _ _⟩
set_option maxHeartbeats 400000 in
theorem rvisible_no3 (v : Value) (l : List Strip) (o h : Int) (w : World) (hv : IsStrips w v l) (ho : inZ o) (hh : heightZ h) (hl : (decide (l.length ≤ 10000) && rowsOk l) = false) :
    Calls Try.prog 16 #[v, .int .i64 o, .int .i64 h] w (Gives2 0 0 w) := by
  have HD : Hid (true = decide (inZ o)) := by show _ = _; simp [ho]
  have HE : Hid (true = decide (heightZ h)) := by show _ = _; simp [hh]
  have HL := Lib.hid hl
  clear ho hh hl
  go_enter Try.func16, Try.ntmps16
  go_wp2_with (first | (go_at_call 26; refine (rwithin_any _ true HD.out _).mono ?_; rintro e w' ⟨rfl, rfl⟩) | (go_at_call 27; refine (rsize_any _ true HE.out _).mono ?_; rintro e w' ⟨rfl, rfl⟩) | (go_at_call 28; refine (rrows_any _ l _ hv).mono ?_; rw [HL.out]; rintro e w' ⟨rfl, rfl⟩))
  go_ret2
  exact ⟨rfl, Below.refl _ _⟩

set_option maxHeartbeats 1000000 in
set_option maxRecDepth 100000 in
theorem rvisible_yes (v : Value) (l : List Strip) (o h : Int) (w : World) (hv : IsStrips w v l) (hn : l.length ≤ 10000) (hg : goodRows l l.length) (ho : inZ o) (hh : heightZ h) :
    Calls Try.prog 16 #[v, .int .i64 o, .int .i64 h] w (Gives2 (visF l o) (visL l o h) w) := by
  have HL : Hid ((decide (l.length ≤ 10000) && rowsOk l) = true) := by
    have := (rowsOk_iff l).2 hg
    show _ = _
    rw [this]; simp; exact hn
  have HD : Hid (true = decide (inZ o)) := by show _ = _; simp [ho]
  have HE : Hid (true = decide (heightZ h)) := by show _ = _; simp [hh]
  have HTp := Lib.hid (fun w0 (q : IsStrips w0 v l) => tops_any v l w0 q hn hg)
  have HG := Lib.hid hg
  have HV := Lib.hid hv
  obtain ⟨o0, o1⟩ := ho
  obtain ⟨k0, k1⟩ := hh
  obtain ⟨a, cap, rfl, h1, h2, h3⟩ := hv
  obtain ⟨n, hn'⟩ : ∃ n, l.length = n := ⟨_, rfl⟩
  have hHV := HV.out
  rw [hn'] at h1 h3 hn HG hHV HTp ⊢
  have HN := Lib.hid hn'
  have HVV := Lib.hid hHV
  clear h3 hn' hg h2 hHV
  go_enter Try.func16, Try.ntmps16
  go_wp2_with (first | (go_at_call 26; refine (rwithin_any _ true HD.out _).mono ?_; rintro e w' ⟨rfl, rfl⟩) | (go_at_call 27; refine (rsize_any _ true HE.out _).mono ?_; rintro e w' ⟨rfl, rfl⟩) | (go_at_call 28; refine (rrows_any _ l _ HVV.out).mono ?_; rw [HL.out]; rintro e w' ⟨rfl, rfl⟩) | fail)
  refine (HTp.out _ HVV.out).mono ?_
  rintro e w1 ⟨tv, rfl, htv, hb1⟩
  rw [HN.out] at htv
  obtain ⟨ta, tc, rfl, t1, t2, t3⟩ := htv
  rw [topsTo_len] at t1 t3 ⊢
  obtain ⟨tb, toff, rfl, _, tcell⟩ := t3 (by omega)
  have HTc : Hid (∀ j, j ≤ n → w1.cell? ⟨tb, toff + j, none⟩ = some (.int .i64 (topTo l j))) := fun j hj => by
    have := tcell j (by omega)
    rwa [topsTo_at l n j hj] at this
  have HB := Lib.hid hb1
  have HT : Hid (∀ k, k ≤ n → 0 ≤ topTo l k ∧ topTo l k ≤ k * 1099511627776) := fun k hk => topTo_bd HG.out k hk
  clear t1 t2 t3 tcell hb1
  go_wp2_with fail
  go_loop [9] (fun f => ∃ k : Nat, k ≤ n ∧ f = .int .i64 k ∧ Hid (visF l o = scan (above l o) (n - k) k)) (fun f => n - (intOf f).toNat)
  case atStart => exact ⟨0, Nat.zero_le _, rfl, by show _ = _; rw [visF, HN.out]; rfl⟩
  case round =>
    obtain ⟨k, hk, rfl, HS⟩ := hrel
    by_cases hgo : k < n ∧ topTo l (k + 1) ≤ o
    · obtain ⟨hkn, hle⟩ := hgo
      have hc := HTc.out (k + 1) (by omega)
      have hkn' : (k : Int) < (n : Int) := by omega
      go_wp2
      go_round
      case rel =>
        refine ⟨k + 1, by omega, by go_num, ?_⟩
        show _ = _
        rw [HS.out, scan_go (above_true hle) (by omega)]
        congr 1
      case measure => simp [intOf]; omega
    · have HF : Hid (visF l o = k) := by
        show _ = _
        rw [HS.out]
        by_cases hkn : k < n
        · exact scan_stop (above_false (fun c => hgo ⟨hkn, c⟩))
        · have : n - k = 0 := by omega
          rw [this]; rfl
      by_cases hkn : k < n
      all_goals
        first
          | (have hlt : o < topTo l (k + 1) := by omega
             have hc := HTc.out (k + 1) (by omega)
             clear hgo
             go_wp2)
          | (clear hgo
             go_wp2)
      all_goals
        go_loop [10] (fun f => ∃ j : Nat, k ≤ j ∧ j ≤ n ∧ f = .int .i64 j ∧ Hid (visL l o h = scan (upon l o h) (n - j) j)) (fun f => n - (intOf f).toNat)
        case atStart => exact ⟨k, Nat.le_refl _, hk, rfl, by show _ = _; rw [visL, HN.out, HF.out]⟩
        case round =>
          obtain ⟨j, hkj, hj, rfl, HS2⟩ := hrel
          have htj := HT.out j hj
          by_cases hgo : j < n ∧ topTo l j < o + h
          · obtain ⟨hjn, hle⟩ := hgo
            have hcj := HTc.out j hj
            have hjn' : (j : Int) < (n : Int) := by omega
            first
              | (exfalso; omega)
              | (go_wp2
                 go_round
                 case rel =>
                   refine ⟨j + 1, by omega, by omega, by go_num, ?_⟩
                   show _ = _
                   rw [HS2.out, scan_go (upon_true hle) (by omega)]
                   congr 1
                 case measure => simp [intOf]; omega)
          · have HR : Hid (visL l o h = j) := by
              show _ = _
              rw [HS2.out]
              by_cases hjn : j < n
              · exact scan_stop (upon_false (fun c => hgo ⟨hjn, c⟩))
              · have : n - j = 0 := by omega
                rw [this]; rfl
            have hcj := HTc.out j hj
            by_cases hjn : j < n
            · have hlt2 : o + h ≤ topTo l j := by omega
              clear hgo
              go_wp2
              all_goals (go_ret2; exact ⟨by rw [HF.out, HR.out]; rfl, HB.out⟩)
            · clear hgo
              go_wp2
              all_goals (go_ret2; exact ⟨by rw [HF.out, HR.out]; rfl, HB.out⟩)

/-- VISIBLE OF THE REFERENCE. -/
theorem rvisible_any (v : Value) (l : List Strip) (o h : Int) (w : World) (hv : IsStrips w v l) :
    (visOk l o h → Calls Try.prog 16 #[v, .int .i64 o, .int .i64 h] w (Gives2 (visF l o) (visL l o h) w)) ∧
    (¬ visOk l o h → Calls Try.prog 16 #[v, .int .i64 o, .int .i64 h] w (Gives2 0 0 w)) := by
  refine ⟨fun ⟨h1, h2, h3, h4⟩ => rvisible_yes v l o h w hv h1 h2 h3 h4, fun hno => ?_⟩
  by_cases h3 : inZ o
  · by_cases h4 : heightZ h
    · refine rvisible_no3 v l o h w hv h3 h4 ?_
      rw [Bool.and_eq_false_iff]
      by_cases h5 : l.length ≤ 10000
      · right
        cases c : rowsOk l with
        | false => rfl
        | true => exact absurd ⟨h5, (rowsOk_iff l).1 c, h3, h4⟩ hno
      · left; simpa using h5
    · exact rvisible_no2 v o h w h3 h4
  · exact rvisible_no1 v o h w h3
end Go.Proofs.Ytchlnelpgjjmgaa
