/- Keep of package scroll. -/
import Derived.Test.YtchlnelpgjjmgaaKeepPlain
import Derived.Maps.OwnOps
import Derived.StringKeys
import Derived.WalkSmall
namespace Go.Proofs.Ytchlnelpgjjmgaa
open Go.RowKit Go.Maps

theorem keyLaw : Keyed Try.prog 9 := string_keyed Try.underlying9
theorem zeroInt (w : World) : (zeroValue 3).run Try.prog w = .ok (.int .i64 0) w := by kernel_rfl
theorem keyRead (s : ByteArray) (h : s.size ≤ maxLen) : keyOf Try.prog 9 (.string s) = some (keyL s) := Go.WideMaps.keyOf_string_mk Try.underlying9 h

/-- The rows to which Keep answers. -/
def keepOk (old l : List Strip) (o : Int) : Prop := old.length ≤ 10000 ∧ goodRows old old.length ∧ l.length ≤ 10000 ∧ goodRows l l.length ∧ inZ o

theorem below_two' {w wr : World} (h : Below w.heap.size w wr) (a b : Obj) : Below w.heap.size w ((wr.alloc a).alloc b) := by
  have := h.size
  exact (h.alloc this a).alloc (by simp; omega) b

set_option maxHeartbeats 2000000 in
set_option maxRecDepth 100000 in
theorem keep_yes (v u : Value) (old l : List Strip) (o : Int) (w : World) (hv : IsStrips w v old) (hu : IsStrips w u l) (hko : keysOk old) (hkl : keysOk l) (h : keepOk old l o) :
    Calls Try.prog 17 #[v, u, .int .i64 o] w (Gives (keepZ l old o) w) := by
  obtain ⟨ho1, ho2, hl1, hl2, hi⟩ := h
  have HL1 : Hid ((decide (old.length ≤ 10000) && rowsOk old) = true) := by
    have := (rowsOk_iff old).2 ho2
    show _ = _
    rw [this]; simp; exact ho1
  have HL2 : Hid ((decide (l.length ≤ 10000) && rowsOk l) = true) := by
    have := (rowsOk_iff l).2 hl2
    show _ = _
    rw [this]; simp; exact hl1
  have HW : [o].any farZ = !true := by simp [(far_iff o).2 hi]
  have HV := Lib.hid hv
  have HU := Lib.hid hu
  have HKO := Lib.hid hko
  have HKL := Lib.hid hkl
  have HG1 := Lib.hid ho2
  have HG2 := Lib.hid hl2
  obtain ⟨o0, o1⟩ := hi
  obtain ⟨a, cap, rfl, a1, a2, a3⟩ := hv
  obtain ⟨b, cap', rfl, b1, b2, b3⟩ := hu
  obtain ⟨n, hn⟩ : ∃ n, old.length = n := ⟨_, rfl⟩
  obtain ⟨m, hm⟩ : ∃ m, l.length = m := ⟨_, rfl⟩
  rw [hn] at a1 a3 ho1 HG1 ⊢
  rw [hm] at b1 b3 hl1 HG2 ⊢
  have A3 := Lib.hid a3
  have B3 := Lib.hid b3
  have HN := Lib.hid hn
  have HM := Lib.hid hm
  have HV2 : Hid (IsStrips w (.slice a n cap) old) := by have := HV.out; rwa [HN.out] at this
  have HU2 : Hid (IsStrips w (.slice b m cap') l) := by have := HU.out; rwa [HM.out] at this
  clear a2 b2 a3 b3 hn hm hko hkl ho2 hl2 HV HU
  have hmm := @run_makeMap Try.prog
  go_enter Try.func17, Try.ntmps17
  go_wp2_with fail
  refine (strips_any _ old _ HV2.out).mono ?_
  rw [HL1.out]
  rintro e w1 ⟨rfl, hb1⟩
  have HB1 := Lib.hid hb1
  have HU3 := Lib.hid (HU2.out.of_below hb1)
  clear hb1
  go_wp2_with fail
  refine (strips_any _ l _ HU3.out).mono ?_
  rw [HL2.out]
  rintro e w2 ⟨rfl, hb2⟩
  have hb12 := HB1.out.trans (hb2.mono HB1.out.size)
  have HB2 := Lib.hid hb12
  clear hb2 hb12
  go_wp2_with (go_at_call 22; refine (within_lit [o] true HW _ rfl (one_len _) _ rfl _ (by simp)).mono ?_; rintro e w' ⟨rfl, rfl⟩)
  generalize hB : w2.heap.size + 1 = B
  have hM0 : ((w2.alloc (.cells #[.int .i64 o] 3)).alloc (.map #[] 0)).ownsMap Try.prog 9 (plainElem (H := Unit) Try.prog 3) B 0 (mapTo l 0) := by
    have := World.ownsMap_made (H := Unit) (w2.alloc (.cells #[.int .i64 o] 3)) Try.prog 9 (plainElem (H := Unit) Try.prog 3)
    rw [World.size_alloc, hB] at this
    exact this
  have hBw : Below w.heap.size w ((w2.alloc (.cells #[.int .i64 o] 3)).alloc (.map #[] 0)) := below_two' HB2.out _ _
  have hBlt : w.heap.size ≤ B := by have := HB2.out.size; omega
  have HM0 := Lib.hid hM0
  have HBw := Lib.hid hBw
  clear hM0 hBw hB
  generalize ((w2.alloc (.cells #[.int .i64 o] 3)).alloc (.map #[] 0)) = W at HM0 HBw ⊢
  have HT2 : Hid (∀ k, k ≤ m → 0 ≤ topTo l k ∧ topTo l k ≤ k * 1099511627776) := fun k hk => topTo_bd HG2.out k hk
  have HT1 : Hid (∀ k, k ≤ n → 0 ≤ topTo old k ∧ topTo old k ≤ k * 1099511627776) := fun k hk => topTo_bd HG1.out k hk
  go_loopw [8, 36] (fun t i wr => ∃ k : Nat, k ≤ m ∧ i = .int .i64 k ∧ t = .int .i64 (topTo l k) ∧ (∃ q, q ≤ k ∧ wr.ownsMap Try.prog 9 (plainElem (H := Unit) Try.prog 3) B q (mapTo l k)) ∧ Below w.heap.size w wr) (fun _ i _ => m - (intOf i).toNat)
  case atStart => exact ⟨0, Nat.zero_le _, rfl, rfl, ⟨0, Nat.le_refl _, HM0.out⟩, HBw.out⟩
  case round =>
    obtain ⟨k, hk, rfl, rfl, ⟨q, hq, hmap⟩, hbl⟩ := hrel
    have ht := HT2.out k hk
    have HA := Lib.hid hmap
    have HB := Lib.hid hbl
    by_cases hkm : k < m
    · obtain ⟨x, off, rfl, hlt, hcell⟩ := B3.out (by omega)
      have hc1 := (hbl.cell (p := ⟨x, off + k * 2, none⟩) hlt).trans (hcell k hkm).1
      have hc2 := (hbl.cell (p := ⟨x, off + k * 2 + 1, none⟩) hlt).trans (hcell k hkm).2
      obtain ⟨s, hs⟩ : ∃ s, gk l k = s := ⟨_, rfl⟩
      rw [hs] at hc1
      have hsz : s.size ≤ maxLen := by rw [← hs]; exact HKL.out k
      have HS := Lib.hid hs
      have HSZ := Lib.hid hsz
      obtain ⟨g0, g1⟩ := HG2.out k hkm
      have HH := Lib.hid (mapTo_has l s k)
      clear hcell hmap hbl hs hsz
      by_cases hf : (firstTo l s k).isSome = true
      · have HF := Lib.hid hf
        have HE : Hid (mapTo l (k + 1) = mapTo l k) := by show _ = _; simp only [mapTo]; rw [HS.out, if_pos HF.out]
        clear hf
        go_wp2_with (at_lookup; refine wpList_lookup_own_ok_int _ rfl _ _ 49 rfl 9 3 .i64 keyLaw Try.underlying49 Try.underlying3 (zeroInt _) B q (mapTo l k) rfl (ownsMap_block HA.out (Below.heap_alloc _ _ _ (ownsMap_lt HA.out))) _ (keyL s) rfl (keyRead s HSZ.out) ?_)
        intro c _ _
        rw [HH.out.1, HF.out]
        go_wp2
        go_roundw
        case rel => exact ⟨k + 1, by omega, by go_num, rfl, ⟨q, by omega, by rw [HE.out]; exact ownsMap_block HA.out (Below.heap_alloc _ _ _ (ownsMap_lt HA.out))⟩, HB.out.alloc HB.out.size _⟩
        case measure => simp [intOf]; omega
      · have hf' : (firstTo l s k).isSome = false := by simpa using hf
        have HF := Lib.hid hf'
        have HE : Hid (mapTo l (k + 1) = (mapTo l k).put (keyL s) (.lit (.int .i64 (topTo l k)))) := by show _ = _; simp only [mapTo]; rw [HS.out, if_neg hf]
        clear hf hf'
        go_wp2_with (at_lookup; refine wpList_lookup_own_ok_int _ rfl _ _ 49 rfl 9 3 .i64 keyLaw Try.underlying49 Try.underlying3 (zeroInt _) B q (mapTo l k) rfl (ownsMap_block HA.out (Below.heap_alloc _ _ _ (ownsMap_lt HA.out))) _ (keyL s) rfl (keyRead s HSZ.out) ?_)
        intro c _ _
        rw [HH.out.1, HF.out]
        go_wp2_with (at_mapUpdate; refine wpList_mapUpdate_own _ rfl _ _ _ 49 rfl 9 3 keyLaw Try.underlying49 _ B q (mapTo l k) rfl (ownsMap_block HA.out (Below.heap_alloc _ _ _ (ownsMap_lt HA.out))) (by unfold maxLen; omega) _ _ (keyL s) rfl rfl (keyRead s HSZ.out) (.lit (.int .i64 (topTo l k))) [] (plainElem_int Try.underlying3 (WalkArith.wf_i64 (by omega))) ?_)
        intro w3 hown1 hgrow1
        have HA1 : Hid (w3.ownsMap Try.prog 9 (plainElem (H := Unit) Try.prog 3) B (q + 1) (mapTo l (k + 1))) := by
          show World.ownsMap _ _ _ _ _ _ _
          rw [HE.out]; exact hown1
        have HB1 := Lib.hid ((HB.out.alloc HB.out.size _).grown hgrow1 (by have := HB.out.size; simp; omega) (fun j hj => by cases hj; exact hBlt))
        have hcn : w3.cell? ⟨wr.heap.size, 1, none⟩ = some (.int .i64 (gh l k)) := by
          have hne : wr.heap.size ≠ B := by have := ownsMap_lt HA.out; omega
          rw [World.cell?_of_block (w := wr.alloc (.cells #[.string s, .int .i64 (gh l k)] 32)) (hgrow1.block wr.heap.size (by simp) (by simpa using hne))]
          simp
        clear hown1 hgrow1
        go_wp2
        go_roundw
        case rel => exact ⟨k + 1, by omega, by go_num, rfl, ⟨q + 1, by omega, HA1.out⟩, HB1.out⟩
        case measure => simp [intOf]; omega
    · obtain rfl : k = m := by omega
      have HMP : Hid (∀ s, Maps.has (mapTo l k) (keyL s) = (firstIx l s).isSome ∧ (∀ j, firstIx l s = some j → (mapTo l k).atKey (keyL s) (.lit (.int .i64 0)) = .lit (.int .i64 (topTo l j)) ∧ j < k)) := fun s => by
        have := mapTo_has l s k
        rw [firstIx, HM.out]
        exact ⟨this.1, fun j hj => ⟨this.2 j hj, (firstTo_lt hj).1⟩⟩
      clear hmap hbl
      go_wp2
      go_loopw [8, 13, 14, 60] (fun t f v i wr2 => ∃ (j : Nat) (acc : Option Nat), j ≤ n ∧ i = .int .i64 j ∧ t = .int .i64 (topTo old j) ∧ f = .bool acc.isSome ∧ v = .int .i64 (valAt l old o acc) ∧
        Hid (anchorGo l old o n 0 none = anchorGo l old o (n - j) j acc) ∧ wr2.ownsMap Try.prog 9 (plainElem (H := Unit) Try.prog 3) B q (mapTo l k) ∧ Below w.heap.size w wr2) (fun _ _ _ i _ => n - (intOf i).toNat)
      case atStart => exact ⟨0, none, Nat.zero_le _, rfl, rfl, rfl, rfl, rfl, HA.out, HB.out⟩
      case round =>
        rename_i wr2
        obtain ⟨j, acc, hj, rfl, rfl, rfl, rfl, HS2, hmap2, hbl2⟩ := hrel
        have htj := HT1.out j hj
        have HA2 := Lib.hid hmap2
        have HB2' := Lib.hid hbl2
        by_cases hjn : j < n
        · obtain ⟨x, off, rfl, hlt, hcell⟩ := A3.out (by omega)
          have hc1 := (hbl2.cell (p := ⟨x, off + j * 2, none⟩) hlt).trans (hcell j hjn).1
          have hc2 := (hbl2.cell (p := ⟨x, off + j * 2 + 1, none⟩) hlt).trans (hcell j hjn).2
          obtain ⟨s, hs⟩ : ∃ s, gk old j = s := ⟨_, rfl⟩
          rw [hs] at hc1
          have hsz : s.size ≤ maxLen := by rw [← hs]; exact HKO.out j
          have HS := Lib.hid hs
          have HSZ := Lib.hid hsz
          obtain ⟨g0, g1⟩ := HG1.out j hjn
          have hjn' : (j : Int) < (n : Int) := by omega
          clear hcell hmap2 hbl2 hs hsz
          obtain ⟨M1, M2⟩ := HMP.out s
          cases hf : firstIx l s with
          | none =>
            rw [hf] at M1
            have HH : Hid (Maps.has (mapTo l k) (keyL s) = false) := M1
            have HF : Hid ((firstIx l (gk old j)).isSome = false) := by show _ = _; rw [HS.out, hf]; rfl
            clear M1 M2 hf
            go_wp2_with (at_lookup; refine wpList_lookup_own_ok_int _ rfl _ _ 49 rfl 9 3 .i64 keyLaw Try.underlying49 Try.underlying3 (zeroInt _) B q (mapTo l k) rfl (ownsMap_block HA2.out (Below.heap_alloc _ _ _ (ownsMap_lt HA2.out))) _ (keyL s) rfl (keyRead s HSZ.out) ?_)
            intro c _ _
            rw [HH.out]
            go_wp2
            go_roundw
            case rel => exact ⟨j + 1, acc, by omega, by go_num, rfl, rfl, rfl, by show _ = _; rw [HS2.out, anchor_miss HF.out (by omega)]; congr 1, ownsMap_block HA2.out (Below.heap_alloc _ _ _ (ownsMap_lt HA2.out)), HB2'.out.alloc HB2'.out.size _⟩
            case measure => simp [intOf]; omega
          | some p =>
            rw [hf] at M1
            obtain ⟨M3, M4⟩ := M2 p hf
            have HH : Hid (Maps.has (mapTo l k) (keyL s) = true) := M1
            have HC := Lib.hid M3
            have HF : Hid ((firstIx l (gk old j)).isSome = true) := by show _ = _; rw [HS.out, hf]; rfl
            have HVv : Hid (valAt l old o (some j) = topTo l p + o - topTo old j) := by show _ = _; rw [valAt, HS.out, hf]; rfl
            have htp := HT2.out p (by omega)
            have hpk : (p : Int) ≤ 10000 := by omega
            clear M1 M2 M3 hf
            by_cases hbr : o < topTo old j + gh old j
            · go_wp2_with (at_lookup; refine wpList_lookup_own_ok_int _ rfl _ _ 49 rfl 9 3 .i64 keyLaw Try.underlying49 Try.underlying3 (zeroInt _) B q (mapTo l k) rfl (ownsMap_block HA2.out (Below.heap_alloc _ _ _ (ownsMap_lt HA2.out))) _ (keyL s) rfl (keyRead s HSZ.out) ?_)
              intro c hat _
              rw [HC.out] at hat
              obtain rfl : topTo l p = c := by simpa using hat
              rw [HH.out]
              clear hat
              go_wp2
              go_ret
              exact ⟨by rw [keepZ, HN.out, HS2.out, anchor_stop HF.out (by omega) hbr, HVv.out]; rfl, HB2'.out.alloc HB2'.out.size _⟩
            · go_wp2_with (at_lookup; refine wpList_lookup_own_ok_int _ rfl _ _ 49 rfl 9 3 .i64 keyLaw Try.underlying49 Try.underlying3 (zeroInt _) B q (mapTo l k) rfl (ownsMap_block HA2.out (Below.heap_alloc _ _ _ (ownsMap_lt HA2.out))) _ (keyL s) rfl (keyRead s HSZ.out) ?_)
              intro c hat _
              rw [HC.out] at hat
              obtain rfl : topTo l p = c := by simpa using hat
              rw [HH.out]
              clear hat
              go_wp2
              go_roundw
              case rel => exact ⟨j + 1, some j, by omega, by go_num, rfl, rfl, by rw [HVv.out], by show _ = _; rw [HS2.out, anchor_hit HF.out (by omega) (by show ¬ o < topTo old j + gh old j; omega)]; congr 1, ownsMap_block HA2.out (Below.heap_alloc _ _ _ (ownsMap_lt HA2.out)), HB2'.out.alloc HB2'.out.size _⟩
              case measure => simp [intOf]; omega
        · have HE : Hid (keepZ l old o = valAt l old o acc) := by
            have : n - j = 0 := by omega
            show _ = _
            rw [keepZ, HN.out, HS2.out, this]; rfl
          clear hmap2 hbl2
          cases acc with
          | none =>
            go_wp2
            go_ret
            exact ⟨by rw [HE.out]; rfl, HB2'.out⟩
          | some i =>
            go_wp2
            go_ret
            exact ⟨by rw [HE.out]; rfl, HB2'.out⟩
end Go.Proofs.Ytchlnelpgjjmgaa
