/- The walk of the law ThemeRaw (printed by wip/gen_lawraw16.py). -/
import Derived.Test.YtcjhefkipghloaaValR
import Derived.Test.YtcjhefkipghloaaOpenTheme
import Derived.Test.YtcjhefkipghloaaAwake16
import Derived.Deep.RegionHeld3
import Derived.Deep.AppendLies
namespace Go.Proofs.Ytcjhefkipghloaa
open Go.RowKit
set_option linter.unusedVariables false
set_option linter.unusedSimpArgs false

def nmTo (l : List Tok) (s : ByteArray) (k : Nat) : List ByteArray := s :: (List.range k).map fun i => (gt l i).name
theorem nmTo_len (l : List Tok) (s : ByteArray) (k : Nat) : (nmTo l s k).length = k + 1 := by simp [nmTo]
theorem nmTo_succ (l : List Tok) (s : ByteArray) (k : Nat) : nmTo l s (k + 1) = nmTo l s k ++ [(gt l k).name] := by simp [nmTo, List.range_succ]
def gs (l : List ByteArray) (i : Nat) : ByteArray := l.getD i ByteArray.empty
def IsTexts (w : World) (v : Value) (l : List ByteArray) : Prop :=
  ∃ a cap, v = .slice a l.length cap ∧ l.length ≤ cap ∧ cap ≤ maxLen ∧ (0 < l.length → ∃ b off, a = some ⟨b, off, none⟩ ∧ b < w.heap.size ∧ ∀ i, i < l.length → w.cell? ⟨b, off + i, none⟩ = some (.string (gs l i)))
theorem IsTexts.of_below {w w' : World} {v : Value} {l : List ByteArray} (h : IsTexts w v l) (hb : Below w.heap.size w w') : IsTexts w' v l := by
  obtain ⟨a, cap, hv, h1, h2, h3⟩ := h
  refine ⟨a, cap, hv, h1, h2, fun hp => ?_⟩
  obtain ⟨b, off, ha, hlt, hc⟩ := h3 hp
  exact ⟨b, off, ha, Nat.lt_of_lt_of_le hlt hb.size, fun i hi => (hb.cell (p := ⟨b, off + i, none⟩) hlt).trans (hc i hi)⟩
theorem ownsRow_isTexts {w : World} {base e : Nat} {v : Value} {n : Nat} {xs : List ByteArray} (h : w.ownsRow base e 1 v n (xs.map Value.string)) : IsTexts w v xs := by
  obtain ⟨h1, h2⟩ := h
  have hn : n = xs.length := by simpa using h1.symm
  subst hn
  rcases h2 with ⟨rfl, h0⟩ | ⟨g, cap, cur, rfl, _, hg, hc, hm, hsz, htake⟩
  · have : xs = [] := List.eq_nil_of_length_eq_zero h0
    subst this
    exact ⟨none, 0, rfl, Nat.le_refl _, Nat.zero_le _, fun h => absurd h (Nat.lt_irrefl _)⟩
  · refine ⟨_, cap, rfl, hc, hm, fun _ => ⟨g, 0, rfl, lt_of_block hg, fun i hi => ?_⟩⟩
    rw [Nat.zero_add, cell_of_row w g i cur e (0, 0) hg]
    have e : (cur.toList.take (xs.length * 1))[i]? = (xs.map Value.string)[i]? := by rw [htake]
    rw [List.getElem?_take, if_pos (by omega)] at e
    simp only [Array.getElem?_toList] at e
    rw [e]
    simp [gs, hi]
theorem info_str : (Try.prog.info? 9).map (fun i => (i.zero, i.size, i.bytes)) = some (some (.string ⟨#[]⟩), 1, 16) := by kernel_rfl

set_option maxHeartbeats 400000 in
theorem raw16_long (u : Value) (l : List Tok) (m : ModeZ) (s : ByteArray) (w : World) (hu : IsToks w u l) (hl : 120 < l.length) :
    Calls Try.prog 6 #[.agg #[u], .agg #[.bool m.dark, .bool m.high, .int .i64 m.scale], .string s] w (True_ w) := by
  obtain ⟨a, cap, rfl, h1, h2, h3⟩ := hu
  unfold maxLen at h2
  have hl' : (120 : Int) < (l.length : Int) := by omega
  clear h3 hl
  go_enter Try.func6, Try.ntmps6
  go_wp2
  go_ret
  exact ⟨rfl, below_2 _ _⟩

set_option maxHeartbeats 4000000 in
set_option maxRecDepth 100000 in
theorem raw16_in (u : Value) (l : List Tok) (dk hi : Bool) (sc : Int) (s : ByteArray) (w : World) (hu : IsToks w u l) (hn : namesOk l) (hl : l.length ≤ 120) :
    Calls Try.prog 6 #[.agg #[u], .agg #[.bool dk, .bool hi, .int .i64 sc], .string s] w (True_ w) := by
  obtain ⟨i0, hi0, hz0, hz1, hz2⟩ := info_parts info_str
  have HU := Lib.hid hu
  have NO := Lib.hid hn
  obtain ⟨a, cap, rfl, h1, h2, h3⟩ := hu
  obtain ⟨n, hn'⟩ : ∃ n, l.length = n := ⟨_, rfl⟩
  rw [hn'] at h1 h3 hl HU ⊢
  have H3 := Lib.hid h3
  have HN := Lib.hid hn'
  unfold maxLen at h2
  have hl' : (n : Int) ≤ 120 := by omega
  clear h3 hn' hn
  have HB0 := Lib.hid (below_2 (w := w) (.cells #[.slice a n cap] 32) (.cells #[.bool dk, .bool hi, .int .i64 sc] 23))
  have HM : Hid (((w.alloc (.cells #[.slice a n cap] 32)).alloc (.cells #[.bool dk, .bool hi, .int .i64 sc] 23)).cell? ⟨w.heap.size, 0, none⟩ = some (.slice a n cap) ∧ ((w.alloc (.cells #[.slice a n cap] 32)).alloc (.cells #[.bool dk, .bool hi, .int .i64 sc] 23)).cell? ⟨w.heap.size + 1, 0, none⟩ = some (.bool dk) ∧ ((w.alloc (.cells #[.slice a n cap] 32)).alloc (.cells #[.bool dk, .bool hi, .int .i64 sc] 23)).cell? ⟨w.heap.size + 1, 1, none⟩ = some (.bool hi) ∧ ((w.alloc (.cells #[.slice a n cap] 32)).alloc (.cells #[.bool dk, .bool hi, .int .i64 sc] 23)).cell? ⟨w.heap.size + 1, 2, none⟩ = some (.int .i64 sc) ∧ ((w.alloc (.cells #[.slice a n cap] 32)).alloc (.cells #[.bool dk, .bool hi, .int .i64 sc] 23)).heap.size = w.heap.size + 2) := ⟨by go_simp, by go_simp, by go_simp, by go_simp, by simp⟩
  go_enter Try.func6, Try.ntmps6
  go_wp2_with fail
  obtain ⟨W, hW⟩ : ∃ W, ((w.alloc (.cells #[.slice a n cap] 32)).alloc (.cells #[.bool dk, .bool hi, .int .i64 sc] 23)) = W := ⟨_, rfl⟩
  rw [hW] at HB0 HM ⊢
  clear hW
  have hO : (W.alloc (.cells #[.string s] 9)).ownsRow W.heap.size 9 1 (.slice (some ⟨w.heap.size + 2, 0, none⟩) 1 1) 1 ((nmTo l s 0).map Value.string) := by
    rw [← HM.out.2.2.2.2]
    exact ⟨rfl, .inr ⟨_, 1, #[.string s], rfl, Nat.le_refl _, heap_alloc_new W _, Nat.le_refl _, by unfold maxLen; omega, rfl, rfl⟩⟩
  have HO := Lib.hid hO
  clear hO
  go_loopw [7, 8] (fun v i wr => ∃ k : Nat, k ≤ n ∧ k ≤ 10 ∧ i = .int .i64 k ∧ wr.ownsRow W.heap.size 9 1 v (k + 1) ((nmTo l s k).map Value.string) ∧ Below W.heap.size W wr) (fun _ i _ => n - (intOf i).toNat)
  case atStart => exact ⟨0, Nat.zero_le _, Nat.zero_le _, rfl, HO.out, (Below.refl _ _).alloc (Nat.le_refl _) _⟩
  case round =>
    obtain ⟨k, hk, hk10, rfl, hown, hbl⟩ := hrel
    have HA := Lib.hid hown
    have HB := Lib.hid hbl
    have hs1 : w.heap.size < W.heap.size := by have := HM.out.2.2.2.2; omega
    have HS1 := Lib.hid hs1
    have m0 := (hbl.cell (p := ⟨w.heap.size, 0, none⟩) hs1).trans HM.out.1
    clear hs1 hown hbl
    by_cases hgo : k < n ∧ k < 10
    · obtain ⟨hkn, hk10'⟩ := hgo
      obtain ⟨b, off, rfl, hlt, hcell⟩ := H3.out (by omega)
      have hoff := (((hcell k hkn).kept HB0.out hlt).kept HB.out (Nat.lt_of_lt_of_le hlt HB0.out.size)).1
      obtain ⟨nm, hnm⟩ : ∃ nm, (gt l k).name = nm := ⟨_, rfl⟩
      rw [hnm] at hoff
      have HNM := Lib.hid hnm
      have x1 : (k : Int) < (n : Int) := by omega
      have x2 : (k : Int) < 10 := by omega
      have HBW : Hid (W.heap.size ≤ wr.heap.size) := HB.out.size
      clear hcell hnm hlt
      go_wp2_with (at_builtin; refine wpList_append_lies _ rfl _ _ 33 rfl W.heap.size 9 i0 _ 1 16 Try.underlying33 hi0 hz0 hz1 hz2 rfl (by omega) _ (k + 1) ((nmTo l s k).map Value.string) rfl (HA.out.alloc _) ⟨wr.heap.size, 0, none⟩ 1 1 [.string nm] rfl rfl (World.news_of_block (cs := #[.string nm]) (t := 9) (fr := (0, 0)) (heap_alloc_new wr _)) (by simp [Value.oneCell']) (by omega) (by unfold maxLen; omega) (by omega) (by have := HBW.out; simp; omega) (wr.heap.size + 1) (by simp) ?_; intro gg cap' w1 hown1 hgrow hat hlt1; have HO1 := Lib.hid hown1; have HG1 := Lib.hid hgrow; clear hown1 hgrow hat hlt1)
      have HO2 : Hid (w1.ownsRow W.heap.size 9 1 (.slice (some ⟨gg, 0, none⟩) (k + 1 + 1) cap') (k + 1 + 1) ((nmTo l s (k + 1)).map Value.string)) := by
        show World.ownsRow _ _ _ _ _ _ _
        rw [nmTo_succ, List.map_append, HNM.out]; exact HO1.out
      have HB1 : Hid (Below W.heap.size W w1) := (HB.out.alloc HB.out.size _).grown HG1.out (by have := HB.out.size; simp; omega) (fun q hq => (HA.out.lt q hq).1)
      go_roundw
      case rel => exact ⟨k + 1, by omega, by omega, by go_num, HO2.out, HB1.out⟩
      case measure => simp [intOf]; omega
    · have hT := ownsRow_isTexts HA.out
      obtain ⟨L, hL⟩ : ∃ L, nmTo l s k = L := ⟨_, rfl⟩
      have hLl : L.length = k + 1 := by rw [← hL]; exact nmTo_len l s k
      rw [hL] at hT
      have HT := Lib.hid hT
      have HLL := Lib.hid hLl
      obtain ⟨ta, tc, rfl, t1, t2, t3⟩ := hT
      rw [hLl] at t1 t3
      have T3 := Lib.hid t3
      rw [hLl] at HT
      rw [hLl]
      unfold maxLen at t2
      clear t3 hLl hL HA
      have HX : Hid (w.heap.size < wr.heap.size ∧ w.heap.size + 1 < wr.heap.size ∧ w.heap.size + 1 < W.heap.size) := by have := HB.out.size; have := HM.out.2.2.2.2; exact ⟨by omega, by omega, by omega⟩
      have HWR : Hid (w.heap.size + 2 ≤ wr.heap.size) := by have := HB.out.size; have := HM.out.2.2.2.2; show _ ≤ _; omega
      obtain (⟨x1, x2⟩ | x1) : ((k : Int) < (n : Int) ∧ (10 : Int) ≤ (k : Int)) ∨ ((n : Int) ≤ (k : Int)) := by omega
      all_goals
        clear hgo
        go_wp2_with fail
        clear m0
        obtain ⟨wo, rfl⟩ : ∃ x : World, x = wr := ⟨_, rfl⟩
        go_loopw [9] (fun i wr => ∃ j : Nat, j ≤ k + 1 ∧ i = .int .i64 j ∧ Below wo.heap.size wo wr) (fun i _ => k + 1 - (intOf i).toNat)
        case atStart => exact ⟨0, Nat.zero_le _, rfl, Below.refl _ _⟩
        case round =>
          obtain ⟨j, hj, rfl, hbi⟩ := hrel
          have HBI := Lib.hid hbi
          have HBA : Hid (Below w.heap.size w wr) := (HB0.out.trans (HB.out.mono HB0.out.size)).trans (Below.mono hbi (by have := HWR.out; omega))
          have m0 := ((hbi.cell (p := ⟨w.heap.size, 0, none⟩) HX.out.1).trans (HB.out.cell (p := ⟨w.heap.size, 0, none⟩) HS1.out)).trans HM.out.1
          have m1 := ((hbi.cell (p := ⟨w.heap.size + 1, 0, none⟩) HX.out.2.1).trans (HB.out.cell (p := ⟨w.heap.size + 1, 0, none⟩) HX.out.2.2)).trans HM.out.2.1
          have m2 := ((hbi.cell (p := ⟨w.heap.size + 1, 1, none⟩) HX.out.2.1).trans (HB.out.cell (p := ⟨w.heap.size + 1, 1, none⟩) HX.out.2.2)).trans HM.out.2.2.1
          have m3 := ((hbi.cell (p := ⟨w.heap.size + 1, 2, none⟩) HX.out.2.1).trans (HB.out.cell (p := ⟨w.heap.size + 1, 2, none⟩) HX.out.2.2)).trans HM.out.2.2.2.1
          by_cases hjk : j < k + 1
          · obtain ⟨b, off, rfl, tlt, tcell⟩ := T3.out (by omega)
            have mn := (hbi.cell (p := ⟨b, off + j, none⟩) tlt).trans (tcell j hjk)
            obtain ⟨sj, hsj⟩ : ∃ x, gs L j = x := ⟨_, rfl⟩
            rw [hsj] at mn
            have y0 : (0 : Int) ≤ (j : Int) := by omega
            have y1 : (j : Int) < (k : Int) + 1 := by omega
            have y2 : (j : Int) < ((k + 1 : Nat) : Int) := by omega
            have HTL : Hid (b < wr.heap.size) := Nat.lt_of_lt_of_le tlt hbi.size
            obtain ⟨z, hz⟩ : ∃ z, lookZ l dk hi sj = z := ⟨_, rfl⟩
            have HZ := Lib.hid hz
            clear tcell hsj hz hbi tlt
            have HY : Hid (w.heap.size < wr.heap.size ∧ w.heap.size + 1 < wr.heap.size ∧ b < wr.heap.size) := by have := HX.out; have := HBI.out.size; exact ⟨by omega, by omega, HTL.out⟩
            go_wp2_with fail
            go_region_held3 (fun w' => w'.cell? ⟨w.heap.size, 0, none⟩ = some (.slice a n cap) ∧ w'.cell? ⟨w.heap.size + 1, 0, none⟩ = some (.bool dk) ∧ w'.cell? ⟨w.heap.size + 1, 1, none⟩ = some (.bool hi) ∧ w'.cell? ⟨w.heap.size + 1, 2, none⟩ = some (.int .i64 sc) ∧ w'.cell? ⟨b, off + j, none⟩ = some (.string sj)) (first | go_keep | exact ⟨(hb'.cell (p := ⟨w.heap.size, 0, none⟩) HY.out.1).trans m0, (hb'.cell (p := ⟨w.heap.size + 1, 0, none⟩) HY.out.2.1).trans m1, (hb'.cell (p := ⟨w.heap.size + 1, 1, none⟩) HY.out.2.1).trans m2, (hb'.cell (p := ⟨w.heap.size + 1, 2, none⟩) HY.out.2.1).trans m3, (hb'.cell (p := ⟨b, off + j, none⟩) HY.out.2.2).trans mn⟩) (first | (go_at_call 17; refine (look_any _ l _ _ _ _ _ (by exact HU.out.of_below HBA.out.drew)).mono ?_; rw [HZ.out]; rintro e w' ⟨rfl, hb'⟩))
            rename_i hHeld
            clear m0 m1 m2 m3 mn
            obtain ⟨m0, m1, m2, m3, mn⟩ := hHeld
            obtain ⟨w1, rfl⟩ : ∃ x : World, x = w' := ⟨_, rfl⟩
            have HBA1 := Lib.hid (HBA.out.drew.trans (hb'.mono HBA.out.size))
            have HBI1 := Lib.hid (HBI.out.drew.trans (hb'.mono HBI.out.size))
            have HY1 : Hid (w.heap.size < w1.heap.size ∧ w.heap.size + 1 < w1.heap.size ∧ b < w1.heap.size) := by have := hb'.size; have := HY.out; simp at *; exact ⟨by omega, by omega, by omega⟩
            clear hb'
            go_wp2_with fail
            go_region_held3 (fun w' => w'.cell? ⟨w.heap.size, 0, none⟩ = some (.slice a n cap) ∧ w'.cell? ⟨w.heap.size + 1, 0, none⟩ = some (.bool dk) ∧ w'.cell? ⟨w.heap.size + 1, 1, none⟩ = some (.bool hi) ∧ w'.cell? ⟨w.heap.size + 1, 2, none⟩ = some (.int .i64 sc) ∧ w'.cell? ⟨b, off + j, none⟩ = some (.string sj)) (first | go_keep | exact ⟨(hb'.cell (p := ⟨w.heap.size, 0, none⟩) HY1.out.1).trans m0, (hb'.cell (p := ⟨w.heap.size + 1, 0, none⟩) HY1.out.2.1).trans m1, (hb'.cell (p := ⟨w.heap.size + 1, 1, none⟩) HY1.out.2.1).trans m2, (hb'.cell (p := ⟨w.heap.size + 1, 2, none⟩) HY1.out.2.1).trans m3, (hb'.cell (p := ⟨b, off + j, none⟩) HY1.out.2.2).trans mn⟩) (first | (go_at_call 18; refine (rlook_any _ l _ _ _ _ _ (by exact HU.out.of_below HBA1.out.drew)).mono ?_; rw [HZ.out]; rintro e w' ⟨rfl, hb'⟩))
            have HBI2 := Lib.hid (HBI1.out.drew.trans (hb'.mono HBI1.out.size))
            clear m0 m1 m2 m3 mn hb'
            obtain ⟨z1, z2⟩ := z
            go_wp2
            go_roundw
            case rel => exact ⟨j + 1, by omega, by go_num, HBI2.out⟩
            case measure => simp [intOf]; omega
          · have HLT : Hid (w.heap.size < wr.heap.size) := by have := HX.out; have := HBI.out.size; show _ < _; omega
            clear m1 m2 m3 hbi
            have hjk' : (k : Int) + 1 ≤ (j : Int) := by omega
            go_wp2_with fail
            go_region_held3 (fun w' => w'.cell? ⟨w.heap.size, 0, none⟩ = some (.slice a n cap) ∧ Below w.heap.size w w' ∧ w.heap.size < w'.heap.size) (first | exact ⟨m0, HBA.out, HLT.out⟩ | exact ⟨m0, HBA.out.drew, HLT.out⟩ | (go_split_ands; exact ⟨(hb'.cell (p := ⟨w.heap.size, 0, none⟩) (by assumption)).trans (by assumption), Below.trans (by assumption) (hb'.mono (by omega)), by have := hb'.size; omega⟩) | go_keep) (first | (go_at_call 19; refine (valid_any _ l _ (by go_split_ands; first | exact HU.out.of_below HBA.out.drew | exact HU.out.of_below (by assumption)) NO.out).mono ?_; rintro e w' ⟨rfl, hb'⟩) | (go_at_call 20; refine (rvalid_any _ l _ (by go_split_ands; first | exact HU.out.of_below HBA.out.drew | exact HU.out.of_below (by assumption)) NO.out).mono ?_; rintro e w' ⟨rfl, hb'⟩) | (go_at_call 10; refine (awake_any _).mono ?_; rintro e w' ⟨rfl, hb'⟩))
            all_goals
              go_split_ands
              go_wp2
              go_ret
              exact ⟨rfl, by assumption⟩

theorem walk_ThemeRaw (u0 : Value) (l : List Tok) (u1 : Value) (m : ModeZ) (u2 : Value) (s : ByteArray) (w : World) (h0 : InTheme w u0 l) (h1 : InMode u1 m) (h2 : InText u2 s) :
    Calls Try.prog 6 #[u0, u1, u2] w (True_ w) := by
  obtain ⟨u, rfl, hu, hn⟩ := h0
  obtain rfl := h1
  obtain ⟨rfl, -⟩ := h2
  by_cases c : l.length ≤ 120
  · exact raw16_in u l _ _ _ s w hu hn c
  · exact raw16_long u l m s w hu (by omega)
end Go.Proofs.Ytcjhefkipghloaa
