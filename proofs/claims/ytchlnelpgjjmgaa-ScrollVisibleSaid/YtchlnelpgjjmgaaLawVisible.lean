/- The walk of the law ScrollVisible. -/
import Derived.Test.YtchlnelpgjjmgaaShort
import Derived.Test.YtchlnelpgjjmgaaOpenStrips
namespace Go.Proofs.Ytchlnelpgjjmgaa
open Go.RowKit

/-- What Visible's two numbers say of the rows. -/
theorem vis_facts {R : List Strip} {o h : Int} (hg : goodRows R R.length) : visF R o ≤ visL R o h ∧ visL R o h ≤ R.length ∧
    ∀ i, i < R.length → (gh R i > 0 → topTo R i < o + h → o < topTo R i + gh R i → visF R o ≤ i ∧ i < visL R o h) ∧
      (visF R o ≤ i → i < visL R o h → topTo R i < o + h ∧ o < topTo R i + gh R i) := by
  obtain ⟨f1, f2, f3, f4⟩ := scan_spec (above R o) R.length 0
  rw [← visF] at f1 f2 f3 f4
  obtain ⟨l1, l2, l3, l4⟩ := scan_spec (upon R o h) (R.length - visF R o) (visF R o)
  rw [← visL] at l1 l2 l3 l4
  refine ⟨l1, by omega, fun i hi => ⟨fun h0 h1 h2 => ⟨?_, ?_⟩, fun h1 h2 => ⟨?_, ?_⟩⟩⟩
  · by_cases c : visF R o ≤ i
    · exact c
    · have := of_decide_eq_true (f3 i (by omega) (by omega))
      have e : topTo R (i + 1) = topTo R i + gh R i := rfl
      omega
  · by_cases c : i < visL R o h
    · exact c
    · have hl := of_decide_eq_false (l4 (by omega))
      have := topTo_mono hg (visL R o h) i (by omega) (by omega)
      omega
  · exact of_decide_eq_true (l3 i h1 h2)
  · have hf := of_decide_eq_false (f4 (by omega))
    have hm := topTo_mono hg (visF R o + 1) (i + 1) (by omega) (by omega)
    have e : topTo R (i + 1) = topTo R i + gh R i := rfl
    omega

set_option maxHeartbeats 2000000 in
set_option maxRecDepth 100000 in
theorem visible_core (v : Value) (l : List Strip) (v1 v2 o h : Int) (w : World) (hv : IsStrips w v l) (e1 : v1.tmod 3000 = o) (e2 : bits .and .i64 v2 255 = h) (ho : -3000 < o ∧ o < 3000) (hh : 0 ≤ h ∧ h < 256) :
    Calls Try.prog 5 #[v, .int .i64 v1, .int .i64 v2] w (True_ w) := by
  obtain ⟨R, hR⟩ : ∃ R, shortL l = R := ⟨_, rfl⟩
  have HR := Lib.hid hR
  have hlen : R.length ≤ 60 := by rw [← hR]; exact shortL_len l
  have hgh : ∀ j, 0 ≤ gh R j ∧ gh R j < 64 := fun j => by rw [← hR]; exact gh_short l j
  have hgood : goodRows R R.length := fun j _ => by have := hgh j; exact ⟨by omega, by omega⟩
  have hvo : visOk R o (1 + h) := ⟨by omega, hgood, ⟨by omega, by omega⟩, ⟨by omega, by omega⟩⟩
  obtain ⟨f1, f2, f3⟩ := vis_facts (o := o) (h := 1 + h) hgood
  have HG := Lib.hid hgh
  have HF := Lib.hid f3
  have HO := Lib.hid hvo
  have HT : Hid (∀ k, k ≤ R.length → 0 ≤ topTo R k ∧ topTo R k ≤ k * 1099511627776) := fun k hk => topTo_bd hgood k hk
  have HT2 : Hid (∀ k, k ≤ R.length → topTo R k ≤ k * 64) := by
    intro k
    induction k with
    | zero => intro _; simp [topTo]
    | succ k ih => intro hk; have := ih (by omega); have := hgh k; simp only [topTo]; omega
  have HV := Lib.hid hv
  obtain ⟨F, hF⟩ : ∃ F, visF R o = F := ⟨_, rfl⟩
  obtain ⟨L, hL⟩ : ∃ L, visL R o (1 + h) = L := ⟨_, rfl⟩
  have HFe := Lib.hid hF
  have HLe := Lib.hid hL
  rw [hF, hL] at HF
  rw [hF, hL] at f1
  rw [hL] at f2
  clear hR hgh hgood hvo f3 hF hL hv
  go_enter Try.func5, Try.ntmps5
  go_wp2_with fail
  refine (short_any _ l _ HV.out).mono ?_
  rintro e w1 ⟨r, rfl, hr, hb1⟩
  rw [HR.out] at hr
  have HRr := Lib.hid hr
  clear hr
  go_wp2_with fail
  refine ((visible_any _ R _ _ _ HRr.out).1 HO.out).mono ?_
  rw [HFe.out, HLe.out]
  rintro e w2 ⟨rfl, hb2⟩
  have hr2 := HRr.out.of_below hb2
  clear HRr HFe HLe
  obtain ⟨a, cap, rfl, q1, q2, q3⟩ := hr2
  obtain ⟨n, hn⟩ : ∃ n, R.length = n := ⟨_, rfl⟩
  rw [hn] at q1 q3 hlen f2 HF HT HT2 ⊢
  have Q3 := Lib.hid q3
  have HB1 := Lib.hid hb1
  have HB2 := Lib.hid hb2
  clear q1 q2 q3 hn hb1 hb2
  go_wp2
  go_loop [10, 11] (fun t i => ∃ k : Nat, k ≤ n ∧ i = .int .i64 k ∧ t = .int .i64 (topTo R k)) (fun _ i => n - (intOf i).toNat)
  case atStart => exact ⟨0, Nat.zero_le _, rfl, rfl⟩
  case round =>
    obtain ⟨k, hk, rfl, rfl⟩ := hrel
    have ht := HT.out k hk
    have ht2 := HT2.out k hk
    by_cases hkn : k < n
    · obtain ⟨b, off, rfl, _, hcell⟩ := Q3.out (by omega)
      have hc := (hcell k hkn).2
      obtain ⟨g0, g1⟩ := HG.out k
      obtain ⟨m1, m2⟩ := HF.out k hkn
      clear hcell
      by_cases c0 : 0 < gh R k
      · by_cases c1 : topTo R k < o + (1 + h)
        · by_cases c2 : o < topTo R k + gh R k
          · obtain ⟨p1, p2⟩ := m1 c0 c1 c2
            clear m1 m2
            go_wp2
            go_round
            case rel => first | exact ⟨k + 1, by omega, by go_num, rfl⟩ | ((repeat apply Exists.intro); exact ⟨⟨k + 1, by omega, by go_num, rfl⟩, rfl, rfl, rfl⟩)
            case measure => simp [intOf]; omega
          · clear m1
            by_cases p1 : F ≤ k
            · have p2 : ¬ k < L := fun z => c2 (m2 p1 z).2
              clear m2
              go_wp2
              go_round
              case rel => exact ⟨k + 1, by omega, by go_num, rfl⟩
              case measure => simp [intOf]; omega
            · clear m2
              go_wp2
              go_round
              case rel => exact ⟨k + 1, by omega, by go_num, rfl⟩
              case measure => simp [intOf]; omega
        · clear m1
          by_cases p1 : F ≤ k
          · have p2 : ¬ k < L := fun z => c1 (m2 p1 z).1
            clear m2
            go_wp2
            go_round
            case rel => exact ⟨k + 1, by omega, by go_num, rfl⟩
            case measure => simp [intOf]; omega
          · clear m2
            go_wp2
            go_round
            case rel => exact ⟨k + 1, by omega, by go_num, rfl⟩
            case measure => simp [intOf]; omega
      · clear m1 m2
        go_wp2
        go_round
        case rel => exact ⟨k + 1, by omega, by go_num, rfl⟩
        case measure => simp [intOf]; omega
    · obtain rfl : k = n := by omega
      go_wp2_with (go_at_call 11; refine (awake_any _).mono ?_; rintro e w3 ⟨rfl, hb3⟩)
      go_ret
      exact ⟨rfl, (HB1.out.trans (HB2.out.mono HB1.out.size)).trans (hb3.mono (Nat.le_trans HB1.out.size HB2.out.size))⟩

theorem walk_ScrollVisible (v : Value) (l : List Strip) (u1 : Value) (v1 : Int) (u2 : Value) (v2 : Int) (w : World) (hv : InStrips w v l)
    (h1 : u1 = .int .i64 v1 ∧ (Lit.int .i64 v1).wf = true) (h2 : u2 = .int .i64 v2 ∧ (Lit.int .i64 v2).wf = true) :
    Calls Try.prog 5 #[v, u1, u2] w (True_ w) := by
  obtain ⟨rfl, -⟩ := h1
  obtain ⟨rfl, -⟩ := h2
  have ho := tmod_range v1 3000 (by omega)
  have hh : 0 ≤ v2 % 256 ∧ v2 % 256 < 256 := by omega
  exact visible_core v l v1 v2 _ _ w hv.1 rfl (and_255 v2) ho hh
end Go.Proofs.Ytchlnelpgjjmgaa
