/- Keep of the reference. -/
import Derived.Test.YtchlnelpgjjmgaaKeepAny
import Derived.Test.YtchlnelpgjjmgaaRefVis
import Derived.Deep.RegionWith
import Derived.Deep.DrawnRows
import Derived.Laws.Strings
import Derived.WalkSmall
import Derived.IntWalk
namespace Go.Proofs.Ytchlnelpgjjmgaa
open Go.RowKit
attribute [local go_sem ↓] Go.wp_at_zero Go.wp_at_succ

theorem bytes_ne {x y : ByteArray} (h : x ≠ y) : (x.toList == y.toList) = false := by
  rw [beq_eq_false_iff_ne, Ne, ByteArray.toList_eq, ByteArray.toList_eq]
  exact fun e => h (ByteArray.ext (Array.toList_inj.mp e))

/-- The place of a key, or one below zero. -/
def ixZ (l : List Strip) (s : ByteArray) : Int := match firstIx l s with
  | none => -1
  | some j => j
theorem firstTo_hit {l : List Strip} {s : ByteArray} {k : Nat} (h0 : firstTo l s k = none) (hk : gk l k = s) : ∀ m, k < m → firstTo l s m = some k
  | 0, h => by omega
  | m + 1, h => by
    by_cases c : k = m
    · subst c; simp only [firstTo]; rw [h0]; simp [hk]
    · have := firstTo_hit h0 hk m (by omega)
      simp only [firstTo]; rw [this]; simp
theorem firstTo_next {l : List Strip} {s : ByteArray} {k : Nat} (h0 : firstTo l s k = none) (hk : gk l k ≠ s) : firstTo l s (k + 1) = none := by
  simp only [firstTo]; rw [h0]; simp [hk]

set_option maxHeartbeats 400000 in
theorem index_any (u : Value) (l : List Strip) (s : ByteArray) (w : World) (hu : IsStrips w u l) :
    Calls Try.prog 30 #[u, .string s] w fun e w' => e = .returned (.int .i64 (ixZ l s)) ∧ w = w' := by
  obtain ⟨a, cap, rfl, h1, h2, h3⟩ := hu
  obtain ⟨n, hn⟩ : ∃ n, l.length = n := ⟨_, rfl⟩
  rw [hn] at h1 h3
  have H3 := Lib.hid h3
  have HN := Lib.hid hn
  rw [hn]
  clear h3 hn
  unfold maxLen at h2
  go_enter Try.func30, Try.ntmps30
  go_wp2_with fail
  go_loop [5] (fun i => ∃ k : Nat, k ≤ n ∧ i = .int .i64 k ∧ Hid (firstTo l s k = none)) (fun i => n - (intOf i).toNat)
  case atStart => exact ⟨0, Nat.zero_le _, rfl, by show _ = _; rfl⟩
  case round =>
    obtain ⟨k, hk, rfl, HF⟩ := hrel
    by_cases hkn : k < n
    · obtain ⟨b, off, rfl, _, hcell⟩ := H3.out (by omega)
      have hc := (hcell k hkn).1
      clear hcell
      have hkn' : (k : Int) < (n : Int) := by omega
      obtain ⟨r, hr⟩ : ∃ r, gk l k = r := ⟨_, rfl⟩
      rw [hr] at hc
      have HR := Lib.hid hr
      clear hr
      by_cases hh : r = s
      · subst hh
        go_wp2
        go_ret
        refine ⟨?_, rfl⟩
        have e : ixZ l r = k := by rw [ixZ, firstIx, HN.out, firstTo_hit HF.out HR.out n hkn]
        rw [e]; rfl
      · have hne := bytes_ne hh
        go_wp2
        go_round
        case rel => exact ⟨k + 1, by omega, by go_num, by show _ = _; exact firstTo_next HF.out (by rw [HR.out]; exact hh)⟩
        case measure => simp [intOf]; omega
    · obtain rfl : k = n := by omega
      go_wp2
      go_ret
      refine ⟨?_, rfl⟩
      have e : ixZ l s = -1 := by rw [ixZ, firstIx, HN.out, HF.out]
      rw [e]; rfl

set_option maxHeartbeats 400000 in
theorem rkeep_no (v u : Value) (old l : List Strip) (o : Int) (w : World) (hv : IsStrips w v old) (hu : IsStrips w u l)
    (h : decide (inZ o) = false ∨ (decide (inZ o) = true ∧ ((decide (old.length ≤ 10000) && rowsOk old) = false ∨ ((decide (old.length ≤ 10000) && rowsOk old) = true ∧ (decide (l.length ≤ 10000) && rowsOk l) = false)))) :
    Calls Try.prog 18 #[v, u, .int .i64 o] w (Gives 0 w) := by
  rcases h with h1 | ⟨h1, h2 | ⟨h2, h3⟩⟩
  · have HD := Lib.hid h1.symm
    clear h1
    go_enter Try.func18, Try.ntmps18
    go_wp2_with (go_at_call 26; refine (rwithin_any _ false HD.out _).mono ?_; rintro e w' ⟨rfl, rfl⟩)
    go_ret
    exact ⟨rfl, Below.refl _ _⟩
  · have HD := Lib.hid h1.symm
    have HA := Lib.hid h2
    clear h1 h2
    go_enter Try.func18, Try.ntmps18
    go_wp2_with (first | (go_at_call 26; refine (rwithin_any _ true HD.out _).mono ?_; rintro e w' ⟨rfl, rfl⟩) | (go_at_call 28; refine (rrows_any _ old _ hv).mono ?_; rw [HA.out]; rintro e w' ⟨rfl, rfl⟩))
    go_ret
    exact ⟨rfl, Below.refl _ _⟩
  · have HD := Lib.hid h1.symm
    have HA := Lib.hid h2
    have HB := Lib.hid h3
    clear h1 h2 h3
    go_enter Try.func18, Try.ntmps18
    go_wp2_with (go_at_call 26; refine (rwithin_any _ true HD.out _).mono ?_; rintro e w' ⟨rfl, rfl⟩)
    go_wp2_with fail
    refine (rrows_any _ old _ hv).mono ?_
    rw [HA.out]; rintro e w' ⟨rfl, rfl⟩
    go_wp2_with fail
    refine (rrows_any _ l _ hu).mono ?_
    rw [HB.out]; rintro e w' ⟨rfl, rfl⟩
    go_wp2
    go_ret
    exact ⟨rfl, Below.refl _ _⟩

/-- The anchor in the slot. -/
def atZ : Option Nat → Int
  | none => -1
  | some j => j

set_option maxHeartbeats 2000000 in
set_option maxRecDepth 100000 in
theorem rkeep_yes (v u : Value) (old l : List Strip) (o : Int) (w : World) (hv : IsStrips w v old) (hu : IsStrips w u l)
    (ho1 : old.length ≤ 10000) (ho2 : goodRows old old.length) (hl1 : l.length ≤ 10000) (hl2 : goodRows l l.length) (hi : inZ o) :
    Calls Try.prog 18 #[v, u, .int .i64 o] w (Gives (keepZ l old o) w) := by
  have HL1 : Hid ((decide (old.length ≤ 10000) && rowsOk old) = true) := by
    have := (rowsOk_iff old).2 ho2
    show _ = _
    rw [this]; simp; exact ho1
  have HL2 : Hid ((decide (l.length ≤ 10000) && rowsOk l) = true) := by
    have := (rowsOk_iff l).2 hl2
    show _ = _
    rw [this]; simp; exact hl1
  have HD : Hid (true = decide (inZ o)) := by show _ = _; simp [hi]
  obtain ⟨o0, o1⟩ := hi
  have HV := Lib.hid hv
  have HU := Lib.hid hu
  have HTo := Lib.hid (fun w0 (q : IsStrips w0 v old) => tops_any v old w0 q ho1 ho2)
  have HTl := Lib.hid (fun w0 (q : IsStrips w0 u l) => tops_any u l w0 q hl1 hl2)
  have HG1 := Lib.hid ho2
  have HG2 := Lib.hid hl2
  obtain ⟨a, cap, rfl, a1, a2, a3⟩ := hv
  obtain ⟨b, cap', rfl, b1, b2, b3⟩ := hu
  obtain ⟨n, hn⟩ : ∃ n, old.length = n := ⟨_, rfl⟩
  obtain ⟨m, hm⟩ : ∃ m, l.length = m := ⟨_, rfl⟩
  have hHV := HV.out
  have hHU := HU.out
  rw [hn] at a1 a3 ho1 HG1 hHV HTo ⊢
  rw [hm] at b1 b3 hl1 HG2 hHU HTl ⊢
  have A3 := Lib.hid a3
  have HN := Lib.hid hn
  have HM := Lib.hid hm
  have HV2 := Lib.hid hHV
  have HU2 := Lib.hid hHU
  have HT2 : Hid (∀ k, k ≤ m → 0 ≤ topTo l k ∧ topTo l k ≤ k * 1099511627776) := fun k hk => topTo_bd HG2.out k hk
  have HT1 : Hid (∀ k, k ≤ n → 0 ≤ topTo old k ∧ topTo old k ≤ k * 1099511627776) := fun k hk => topTo_bd HG1.out k hk
  clear a2 b2 a3 b3 hn hm ho2 hl2 HV HU hHV hHU
  go_enter Try.func18, Try.ntmps18
  go_wp2_with (go_at_call 26; refine (rwithin_any _ true HD.out _).mono ?_; rintro e w' ⟨rfl, rfl⟩)
  go_wp2_with fail
  refine (rrows_any _ old _ HV2.out).mono ?_
  rw [HL1.out]; rintro e w' ⟨rfl, rfl⟩
  go_wp2_with fail
  refine (rrows_any _ l _ HU2.out).mono ?_
  rw [HL2.out]; rintro e w' ⟨rfl, rfl⟩
  go_wp2_with fail
  refine (HTo.out _ HV2.out).mono ?_
  rintro e w1 ⟨tv, rfl, htv, hb1⟩
  rw [HN.out] at htv
  obtain ⟨ta, tc, rfl, t1, t2, t3⟩ := htv
  rw [topsTo_len] at t1 t3 ⊢
  obtain ⟨tb, toff, rfl, tlt, tcell⟩ := t3 (by omega)
  have HTc : Hid (∀ j, j ≤ n → w1.cell? ⟨tb, toff + j, none⟩ = some (.int .i64 (topTo old j))) := fun j hj => by
    have := tcell j (by omega)
    rwa [topsTo_at old n j hj] at this
  have HB := Lib.hid hb1
  have HU3 := Lib.hid (HU2.out.of_below hb1)
  clear t2 t3 tcell hb1
  go_wp2_with fail
  go_loop [8, 9] (fun f i => ∃ (j : Nat) (acc : Option Nat), j ≤ n ∧ i = .int .i64 j ∧ f = .int .i64 (atZ acc) ∧ Hid ((∀ q, acc = some q → q < n ∧ (firstIx l (gk old q)).isSome = true)) ∧
    Hid (anchorGo l old o n 0 none = anchorGo l old o (n - j) j acc)) (fun _ i => n - (intOf i).toNat)
  case atStart => exact ⟨0, none, Nat.zero_le _, rfl, rfl, fun q hq => (by simp at hq), rfl⟩
  case round =>
    obtain ⟨j, acc, hj, rfl, rfl, HQ, HS⟩ := hrel
    by_cases hjn : j < n
    · obtain ⟨x, off, rfl, hlt, hcell⟩ := A3.out (by omega)
      have hc1 := (HB.out.cell (p := ⟨x, off + j * 2, none⟩) hlt).trans (hcell j hjn).1
      have hc2 := HTc.out (j + 1) (by omega)
      have hjn' : (j : Int) < (n : Int) := by omega
      clear hcell
      cases hf : firstIx l (gk old j) with
      | none =>
        have HX : Hid (ixZ l (gk old j) = -1) := by show _ = _; rw [ixZ, hf]
        have HF : Hid ((firstIx l (gk old j)).isSome = false) := by show _ = _; rw [hf]; rfl
        clear hf
        go_wp2_with (go_at_call 30; refine (index_any _ l _ _ HU3.out).mono ?_; rw [HX.out]; rintro e w' ⟨rfl, rfl⟩)
        go_round
        case rel => exact ⟨j + 1, acc, by omega, by go_num, rfl, HQ, by show _ = _; rw [HS.out, anchor_miss HF.out (by omega)]; congr 1⟩
        case measure => simp [intOf]; omega
      | some p =>
        have HX : Hid (ixZ l (gk old j) = (p : Nat)) := by show _ = _; rw [ixZ, hf]
        have HF : Hid ((firstIx l (gk old j)).isSome = true) := by show _ = _; rw [hf]; rfl
        have HP0 := Lib.hid hf
        have hp0 : (0 : Int) ≤ (p : Int) := by omega
        clear hf
        by_cases hbr : o < topTo old (j + 1)
        · have HE : Hid (keepZ l old o = valAt l old o (some j)) := by show _ = _; rw [keepZ, HN.out, HS.out, anchor_stop HF.out (by omega) hbr]
          have hqn : j < n := hjn
          go_wp2_with (go_at_call 30; refine (index_any _ l _ _ HU3.out).mono ?_; rw [HX.out]; rintro e w' ⟨rfl, rfl⟩)
          have HP : Hid (ixZ l (gk old j) = (p : Nat)) := by show _ = _; rw [ixZ, HP0.out]
          have HPm : p < m := by have := (firstTo_lt HP0.out).1; rwa [HM.out] at this
          have HVv : Hid (keepZ l old o = topTo l p + o - topTo old j) := by show _ = _; rw [HE.out, valAt, HP0.out]; rfl
          have htq := HT1.out j (by omega)
          have htp := HT2.out p (by omega)
          have hk1 := hc1
          have alt := hlt
          have ht1 := HTc.out j (by omega)
          have hx1 : IntKind.i64.wrap (topTo l p + o) = topTo l p + o := IntWalk.i64_in _ (by omega)
          have hx2 : IntKind.i64.wrap (topTo l p + o - topTo old j) = topTo l p + o - topTo old j := IntWalk.i64_in _ (by omega)
          have hqn' : (j : Int) < (n : Int) := by omega
          have hp0' : (0 : Int) ≤ (p : Int) := by omega
          have hpm' : (p : Int) < ((m + 1 : Nat) : Int) := by omega
          have hpm2 : (p : Int) < (m : Int) + 1 := by omega
          have hqn'' : (j : Int) < ((n + 1 : Nat) : Int) := by omega
          have hqn3 : (j : Int) < (n : Int) + 1 := by omega
          have hw1 : w.heap.size ≤ w1.heap.size := HB.out.size
          have htlt := Nat.lt_of_lt_of_le alt hw1
          clear hw1
          have HU4 : Hid (IsStrips w1.drew (.slice b m cap') l) := HU3.out
          have hk1d : w1.drew.cell? ⟨x, off + j * 2, none⟩ = some (.string (gk old j)) := by simpa using hk1
          have ht1d : w1.drew.cell? ⟨tb, toff + j, none⟩ = some (.int .i64 (topTo old j)) := by simpa using ht1
          have HK1 := Lib.hid hk1d
          have HT1d := Lib.hid ht1d
          clear hk1d ht1d
          ((go_region_with (first | (go_at_call 30; refine (index_any _ l _ _ (by first | exact HU4.out | assumption)).mono ?_; rw [HP.out]; rintro e w' ⟨rfl, rfl⟩) | (go_at_call 29; refine (HTl.out _ (by first | exact HU4.out | assumption)).mono ?_; rintro e w' ⟨tv', rfl, htv', hb'⟩; rw [HM.out] at htv'; obtain ⟨ta', tc', rfl, y1, _, y3⟩ := htv'; rw [topsTo_len] at y1 y3 ⊢; obtain ⟨xb, xoff, rfl, _, xcell⟩ := y3 (by omega); have hxc := xcell p (by omega); rw [topsTo_at l m p (by omega)] at hxc; clear xcell y3; have hu4 := HU4.out.of_below hb'; have hb0 : Below w1.heap.size w1 w' := ((Below.refl _ _).drew).trans hb'; have hk2 := (hb'.cell (p := ⟨x, off + j * 2, none⟩) (by show x < _; simp; omega)).trans HK1.out; have ht2 := (hb'.cell (p := ⟨tb, toff + j, none⟩) (by show tb < _; simp; omega)).trans HT1d.out))))
          all_goals (go_wp2; go_ret; exact ⟨by rw [HVv.out]; rfl, HB.out.trans (Below.mono (by assumption) HB.out.size)⟩)
        · go_wp2_with (go_at_call 30; refine (index_any _ l _ _ HU3.out).mono ?_; rw [HX.out]; rintro e w' ⟨rfl, rfl⟩)
          go_round
          case rel => exact ⟨j + 1, some j, by omega, by go_num, rfl, fun q hq => by
            obtain rfl : j = q := by simpa using hq
            exact ⟨hjn, HF.out⟩, by show _ = _; rw [HS.out, anchor_hit HF.out (by omega) (by omega)]; congr 1⟩
          case measure => simp [intOf]; omega
    · obtain rfl : j = n := by omega
      have HE : Hid (keepZ l old o = valAt l old o acc) := by
        show _ = _
        rw [keepZ, HN.out, HS.out, Nat.sub_self]; rfl
      cases acc with
      | none =>
        go_wp2
        go_ret
        exact ⟨by rw [HE.out]; rfl, HB.out⟩
      | some q =>
        obtain ⟨hqn, hqs⟩ := HQ.out q rfl
        obtain ⟨p, hp⟩ := Option.isSome_iff_exists.1 hqs
        have HP0 := Lib.hid hp
        clear hp hqs
        have hat : atZ (some q) = (q : Int) := rfl
        rw [hat]
        go_wp2_with fail
        have HP : Hid (ixZ l (gk old q) = (p : Nat)) := by show _ = _; rw [ixZ, HP0.out]
        have HPm : p < m := by have := (firstTo_lt HP0.out).1; rwa [HM.out] at this
        have HVv : Hid (keepZ l old o = topTo l p + o - topTo old q) := by show _ = _; rw [HE.out, valAt, HP0.out]; rfl
        have htq := HT1.out q (by omega)
        have htp := HT2.out p (by omega)
        obtain ⟨ab, aoff, rfl, alt, acell⟩ := A3.out (by omega)
        have hk1 := (HB.out.cell (p := ⟨ab, aoff + q * 2, none⟩) alt).trans (acell q hqn).1
        clear acell
        have ht1 := HTc.out q (by omega)
        have hx1 : IntKind.i64.wrap (topTo l p + o) = topTo l p + o := IntWalk.i64_in _ (by omega)
        have hx2 : IntKind.i64.wrap (topTo l p + o - topTo old q) = topTo l p + o - topTo old q := IntWalk.i64_in _ (by omega)
        have hqn' : (q : Int) < (j : Int) := by omega
        have hp0' : (0 : Int) ≤ (p : Int) := by omega
        have hpm' : (p : Int) < ((m + 1 : Nat) : Int) := by omega
        have hpm2 : (p : Int) < (m : Int) + 1 := by omega
        have hqn'' : (q : Int) < ((j + 1 : Nat) : Int) := by omega
        have hqn3 : (q : Int) < (j : Int) + 1 := by omega
        have hw1 : w.heap.size ≤ w1.heap.size := HB.out.size
        have htlt := Nat.lt_of_lt_of_le alt hw1
        clear hw1
        have HU4 : Hid (IsStrips w1.drew (.slice b m cap') l) := HU3.out
        have hk1d : w1.drew.cell? ⟨ab, aoff + q * 2, none⟩ = some (.string (gk old q)) := by simpa using hk1
        have ht1d : w1.drew.cell? ⟨tb, toff + q, none⟩ = some (.int .i64 (topTo old q)) := by simpa using ht1
        have HK1 := Lib.hid hk1d
        have HT1d := Lib.hid ht1d
        clear hk1d ht1d
        ((go_region_with (first | (go_at_call 30; refine (index_any _ l _ _ (by first | exact HU4.out | assumption)).mono ?_; rw [HP.out]; rintro e w' ⟨rfl, rfl⟩) | (go_at_call 29; refine (HTl.out _ (by first | exact HU4.out | assumption)).mono ?_; rintro e w' ⟨tv', rfl, htv', hb'⟩; rw [HM.out] at htv'; obtain ⟨ta', tc', rfl, y1, _, y3⟩ := htv'; rw [topsTo_len] at y1 y3 ⊢; obtain ⟨xb, xoff, rfl, _, xcell⟩ := y3 (by omega); have hxc := xcell p (by omega); rw [topsTo_at l m p (by omega)] at hxc; clear xcell y3; have hu4 := HU4.out.of_below hb'; have hb0 : Below w1.heap.size w1 w' := ((Below.refl _ _).drew).trans hb'; have hk2 := (hb'.cell (p := ⟨ab, aoff + q * 2, none⟩) (by show ab < _; simp; omega)).trans HK1.out; have ht2 := (hb'.cell (p := ⟨tb, toff + q, none⟩) (by show tb < _; simp; omega)).trans HT1d.out))))
        all_goals (go_wp2; go_ret; exact ⟨by rw [HVv.out]; rfl, HB.out.trans (Below.mono (by assumption) HB.out.size)⟩)

theorem rkeep_any (v u : Value) (old l : List Strip) (o : Int) (w : World) (hv : IsStrips w v old) (hu : IsStrips w u l) :
    (keepOk old l o → Calls Try.prog 18 #[v, u, .int .i64 o] w (Gives (keepZ l old o) w)) ∧
    (¬ keepOk old l o → Calls Try.prog 18 #[v, u, .int .i64 o] w (Gives 0 w)) := by
  refine ⟨fun ⟨h1, h2, h3, h4, h5⟩ => rkeep_yes v u old l o w hv hu h1 h2 h3 h4 h5, fun hno => ?_⟩
  refine rkeep_no v u old l o w hv hu ?_
  by_cases h5 : inZ o
  · refine .inr ⟨by simpa using h5, ?_⟩
    cases h1 : (decide (old.length ≤ 10000) && rowsOk old) with
    | false => exact .inl rfl
    | true =>
      cases h2 : (decide (l.length ≤ 10000) && rowsOk l) with
      | false => exact .inr ⟨rfl, rfl⟩
      | true =>
        exfalso
        apply hno
        rw [Bool.and_eq_true, decide_eq_true_iff, rowsOk_iff] at h1 h2
        exact ⟨h1.1, h1.2, h2.1, h2.2, h5⟩
  · exact .inl (by simpa using h5)
end Go.Proofs.Ytchlnelpgjjmgaa
