/- The walk of the law ScrollKeeps. -/
import Derived.Test.YtchlnelpgjjmgaaKeepsPlain
import Derived.Test.YtchlnelpgjjmgaaShort
import Derived.Test.YtchlnelpgjjmgaaOpen
import Derived.Test.YtchlnelpgjjmgaaBits
import Derived.Deep.RegionHeld3
import Derived.Deep.AppendLies
import Derived.Laws.IdiomStrings
namespace Go.Proofs.Ytchlnelpgjjmgaa
set_option linter.unusedVariables false
set_option linter.unusedSimpArgs false
open Go.RowKit

theorem bool_or_cases {a b : Bool} (h : (a || b) = true) : a = true ∨ b = true := by cases a <;> simp_all

set_option maxHeartbeats 400000 in
set_option maxRecDepth 100000 in
theorem keeps_out (v0 v1 : Value) (hs bs : List Int) (c o : Int) (w : World) (h0 : IsInts w v0 hs) (h1 : IsInts w v1 bs) (hl : hs.length < 1 ∨ 40 < hs.length ∨ 20 < bs.length) :
    Calls Try.prog 8 #[v0, v1, .int .i64 c, .int .i64 o] w (True_ w) := by
  obtain ⟨a0, c0, rfl, p0, q0, -⟩ := h0
  obtain ⟨a1, c1, rfl, p1, q1, -⟩ := h1
  unfold maxLen at q0 q1
  by_cases g0 : hs.length < 1
  · have g0' : (hs.length : Int) < 1 := by omega
    clear hl
    go_enter Try.func8, Try.ntmps8
    go_wp2
    go_ret
    exact ⟨rfl, Below.refl _ _⟩
  · have g0' : (1 : Int) ≤ (hs.length : Int) := by omega
    by_cases g1 : 40 < hs.length
    · have g1' : (40 : Int) < (hs.length : Int) := by omega
      clear hl
      go_enter Try.func8, Try.ntmps8
      go_wp2
      go_ret
      exact ⟨rfl, Below.refl _ _⟩
    · have g1' : (hs.length : Int) ≤ 40 := by omega
      have g2' : (20 : Int) < (bs.length : Int) := by omega
      clear hl
      go_enter Try.func8, Try.ntmps8
      go_wp2
      go_ret
      exact ⟨rfl, Below.refl _ _⟩

theorem ownsRow_below {w w' : World} {base : Nat} {e : TypeId} {size : Nat} {v : Value} {n : Nat} {xs : List Value} (h : w.ownsRow base e size v n xs) (hb : Below w.heap.size w w') : w'.ownsRow base e size v n xs := by
  refine ⟨h.1, ?_⟩
  rcases h.2 with hn | ⟨g, cap, cur, rfl, hbb, hg, rest⟩
  · exact .inl hn
  · exact .inr ⟨g, cap, cur, rfl, hbb, (hb.block g (lt_of_block hg)).trans hg, rest⟩
theorem heap_alloc_at {w : World} {o : Obj} {n : Nat} (h : n = w.heap.size) : (w.alloc o).heap[n]? = some o := by subst h; exact heap_alloc_new w o
/-- A string of one byte. -/
def oneB (n : Nat) : ByteArray := ⟨#[UInt8.ofNat n]⟩
theorem keyN_eq (k : Nat) : keyN k = ⟨#[110, 101, 119]⟩ ++ oneB (97 + k) := rfl
theorem keyA_eq (k : Nat) : keyA k = oneB (65 + k) := rfl
theorem conv_byte (X : World) (g : Nat) (c : Int) (c0 k : Nat) (hc : c = (c0 : Int)) (h : c0 + k < 256) (hcell : X.cell? ⟨g, 0, none⟩ = some (.int .u8 (IntKind.u8.wrap (c + (k : Int))))) :
    (convert 42 9 (.slice (some ⟨g, 0, none⟩) 1 1)).run Try.prog X = .ok (.string (oneB (c0 + k))) X := by
  subst hc
  have hw : IntKind.u8.wrap ((c0 : Int) + (k : Int)) = ((UInt8.ofNat (c0 + k)).toNat : Int) := by
    simp [IntKind.wrap, IntKind.bits, IntKind.signed]
  refine run_convert_bytes_back (P := Try.prog) _ 42 9 5 ⟨g, 0, none⟩ 1 [UInt8.ofNat (c0 + k)] Try.underlying42 Try.underlying5 Try.underlying9 (fun j hj => ?_)
  have hj0 : j = 0 := by simpa using hj
  subst hj0
  rw [hw] at hcell
  exact hcell

theorem emod_le_self {a b : Int} (ha : 0 ≤ a) (hb : 0 < b) : a % b ≤ a := by
  have := Int.emod_add_mul_ediv a b
  have h2 : 0 ≤ b * (a / b) := Int.mul_nonneg (by omega) (Int.ediv_nonneg ha (by omega))
  omega
theorem IsStrips.out_cell {w : World} {g n cap : Nat} {l : List Strip} (h : IsStrips w (.slice (some ⟨g, 0, none⟩) n cap) l) {i : Nat} (hi : i < l.length) (hl : l.length = n) :
    w.cell? ⟨g, i * 2, none⟩ = some (.string (gk l i)) ∧ w.cell? ⟨g, i * 2 + 1, none⟩ = some (.int .i64 (gh l i)) := by
  obtain ⟨a, c, hv, _, _, h3⟩ := h
  obtain ⟨b, off, ha, _, hc⟩ := h3 (by omega)
  subst ha
  simp only [Value.slice.injEq, Option.some.injEq, Addr.mk.injEq] at hv
  obtain ⟨⟨rfl, rfl, -⟩, -, -⟩ := hv
  have := hc i hi
  simpa using this
theorem stripCells_len (l : List Strip) : (stripCells l).length = l.length * 2 := by
  induction l with
  | nil => rfl
  | cons s t ih =>
    have e : stripCells (s :: t) = .string s.1 :: .int .i64 s.2 :: stripCells t := rfl
    rw [e]; simp [ih]; omega
theorem stripCells_one (l : List Strip) : ∀ u ∈ stripCells l, u.oneCell' = true := by
  intro u hu
  simp only [stripCells, List.mem_flatMap] at hu
  obtain ⟨s, _, hs⟩ := hu
  simp at hs
  rcases hs with rfl | rfl <;> rfl
theorem stripCells_drop : ∀ (l : List Strip) (g : Nat), stripCells (l.drop g) = (stripCells l).drop (g * 2)
  | [], g => by simp [stripCells]
  | s :: t, 0 => rfl
  | s :: t, g + 1 => by
    have e : stripCells (s :: t) = .string s.1 :: .int .i64 s.2 :: stripCells t := rfl
    have e2 : (g + 1) * 2 = g * 2 + 1 + 1 := by omega
    rw [e, e2, List.drop_succ_cons, List.drop_succ_cons, List.drop_succ_cons]
    exact stripCells_drop t g
theorem below_alloc2 (w : World) (o p : Obj) : Hid (Below w.heap.size w (((w.alloc o).alloc p).drew)) := (below_two w o p).drew
theorem topA_pos (hs : List Int) (n : Nat) (h : 1 ≤ n) : 1 ≤ topTo (rowsA hs n) n := by
  have h0 : topTo (rowsA hs n) 1 ≤ topTo (rowsA hs n) n := topTo_mono (l := rowsA hs n) goodA 1 n h (by rw [rowsA_len]; omega)
  have h1 : topTo (rowsA hs n) 1 = 0 + gh (rowsA hs n) 0 := rfl
  rw [rowsA_gh (by omega)] at h1
  omega
theorem topA_bd (hs : List Int) (n j : Nat) : 0 ≤ topTo (rowsA hs n) j ∧ topTo (rowsA hs n) j ≤ j * 64 := by
  induction j with
  | zero => simp [topTo]
  | succ j ih =>
    simp only [topTo]
    by_cases h : j < n
    · rw [rowsA_gh h]; omega
    · have : gh (rowsA hs n) j = 0 := by simp [gh, rowsA, h]
      omega

set_option maxHeartbeats 4000000 in
set_option maxRecDepth 100000 in
theorem keeps_in (v0 v1 : Value) (hs bs : List Int) (c o : Int) (w : World) (h0 : IsInts w v0 hs) (h1 : IsInts w v1 bs) (hn0 : 1 ≤ hs.length) (hn1 : hs.length ≤ 40) (hm1 : bs.length ≤ 20) :
    Calls Try.prog 8 #[v0, v1, .int .i64 c, .int .i64 o] w (True_ w) := by
  obtain ⟨i0, hi0, hz0, hz1, hz2⟩ := info_parts info_strip
  obtain ⟨a0, c0, rfl, p0, q0, h0⟩ := h0
  obtain ⟨a1, c1, rfl, p1, q1, h1⟩ := h1
  obtain ⟨n, hn⟩ : ∃ n, hs.length = n := ⟨_, rfl⟩
  obtain ⟨m, hm⟩ : ∃ m, bs.length = m := ⟨_, rfl⟩
  rw [hn] at p0 h0 hn0 hn1 ⊢
  rw [hm] at p1 h1 hm1 ⊢
  have A0 := Lib.hid h0
  have A1 := Lib.hid h1
  have g0 : (1 : Int) ≤ (n : Int) := by omega
  have g1 : (n : Int) ≤ 40 := by omega
  have g2 : (m : Int) ≤ 20 := by omega
  have hm63 := fun x => and_63 x
  clear h0 h1 q0 q1
  go_enter Try.func8, Try.ntmps8
  go_wp2_with fail
  go_loopw [10, 11] (fun r i wr => ∃ k : Nat, k ≤ m ∧ i = .int .i64 k ∧ wr.ownsRow w.heap.size 32 2 r k (stripCells (rowsN bs k)) ∧ Below w.heap.size w wr) (fun _ i _ => m - (intOf i).toNat)
  case atStart => exact ⟨0, Nat.zero_le _, rfl, World.ownsRow_nil _ _ _ _, Below.refl _ _⟩
  case round =>
    obtain ⟨k, hk, rfl, hown, hbl⟩ := hrel
    have HA := Lib.hid hown
    have HB := Lib.hid hbl
    by_cases hkm : k < m
    · obtain ⟨b, off, rfl, hlt, hcell⟩ := A1.out (by omega)
      have hc0 := (hbl.cell (p := ⟨b, off + k, none⟩) hlt).trans (hcell k hkm)
      have hkm' : (k : Int) < (m : Int) := by omega
      clear hcell hown hbl
      go_wp2_with fail
      have hx1 : IntKind.i64.wrap (97 + (k : Int)) = 97 + (k : Int) := IntWalk.i64_in _ (by omega)
      have hne : u10.ownBlock ≠ some b := fun e => by have := (HA.out.lt b e).1; omega
      have hbw : b < wr.heap.size := Nat.lt_of_lt_of_le hlt HB.out.size
      -- DEV[
      have hcv := conv_byte ((wr.alloc (.cells #[.int .u8 (IntKind.u8.wrap (97 + (k : Int)))] 5)).drew) wr.heap.size 97 97 k rfl (by omega) (by simp)
      have hsz : (oneB (97 + k)).size = 1 := rfl
      go_region_law ((refine step_append_lies _ (by rfl) _ _ _ (by rfl) w.heap.size 32 i0 _ 2 24 Try.underlying27 hi0 hz0 hz1 hz2 rfl (by omega) _ k (stripCells (rowsN bs k)) (by rfl) (((HA.out.alloc _).alloc _).drew) ⟨wr.heap.size + 1, 0, none⟩ 1 1 [.string (⟨#[110, 101, 119]⟩ ++ oneB (97 + k)), .int .i64 (gz bs k % 64)] (by rfl) (by rfl) (World.news_of_block (cs := #[.string (⟨#[110, 101, 119]⟩ ++ oneB (97 + k)), .int .i64 (gz bs k % 64)]) (t := 32) (fr := (0, 0)) (heap_alloc_at (by simp))) (by simp [Value.oneCell']) (by omega) (by unfold maxLen; omega) (by omega) (by have := HB.out.size; simp; omega) (wr.heap.size + 2) (by simp) ?_; intro gg cap' w1 hown1 hgrow hat hlt1))
      all_goals
        have hown2 : w1.ownsRow w.heap.size 32 2 (.slice (some ⟨gg, 0, none⟩) (k + 1) cap') (k + 1) (stripCells (rowsN bs (k + 1))) := by
          rw [rowsN_succ, stripCells_append, keyN_eq]; exact hown1
        have hb1 : Below w.heap.size w w1 := (((HB.out.alloc HB.out.size _).alloc (by have := HB.out.size; simp; omega) _).drew).grown hgrow (by have := HB.out.size; simp; omega) (fun q hq => (HA.out.lt q hq).1)
        have HO1 := Lib.hid hown2
        have HB1 := Lib.hid hb1
        clear hown1 hgrow hown2 hb1 hat hlt1
        go_wp2
        go_roundw
        case rel => exact ⟨k + 1, by omega, by go_num, HO1.out, HB1.out⟩
        case measure => simp [intOf]; omega
      -- DEV]
    · obtain rfl : k = m := by omega
      clear hown hbl
      have hgt : ∀ j, 0 ≤ topTo (rowsA hs n) j ∧ topTo (rowsA hs n) j ≤ j * 64 := topA_bd hs n
      have HT := Lib.hid hgt
      clear hgt
      go_wp2_with fail
      obtain ⟨wo, rfl⟩ : ∃ wo : World, wo = wr := ⟨_, rfl⟩
      go_loopw [9, 12, 13] (fun a t i wr2 => ∃ j : Nat, j ≤ n ∧ i = .int .i64 j ∧ t = .int .i64 (topTo (rowsA hs n) j) ∧ wr2.ownsRow wo.heap.size 32 2 a j (stripCells (rowsA hs j)) ∧ Below wo.heap.size wo wr2) (fun _ _ i _ => n - (intOf i).toNat)
      case atStart => exact ⟨0, Nat.zero_le _, rfl, rfl, World.ownsRow_nil _ _ _ _, Below.refl _ _⟩
      case round =>
        obtain ⟨j, hj, rfl, rfl, hown, hbl⟩ := hrel
        have HA2 := Lib.hid hown
        have HB2 := Lib.hid hbl
        have ht := HT.out j
        by_cases hjn : j < n
        · obtain ⟨b, off, rfl, hlt, hcell⟩ := A0.out (by omega)
          have hc0 := ((HB.out.trans (hbl.mono HB.out.size)).cell (p := ⟨b, off + j, none⟩) hlt).trans (hcell j hjn)
          have hjn' : (j : Int) < (n : Int) := by omega
          have hts : topTo (rowsA hs n) (j + 1) = topTo (rowsA hs n) j + (1 + gz hs j % 64) := by simp only [topTo]; rw [rowsA_gh hjn]
          have HTS := Lib.hid hts
          clear hcell hown hbl hts
          go_upto_region 12 with fail
          have hx1 : IntKind.i64.wrap (65 + (j : Int)) = 65 + (j : Int) := IntWalk.i64_in _ (by omega)
          have hx2 : IntKind.i64.wrap (1 + gz hs j % 64) = 1 + gz hs j % 64 := IntWalk.i64_in _ (by omega)
          have hbw : b < wr.heap.size := Nat.lt_of_lt_of_le hlt (HB.out.trans (HB2.out.mono HB.out.size)).size
          go_cut [14] (fun s14 wx => ∃ g : Nat, s14 = .pointer (some ⟨g, 0, none⟩) ∧ wx.cell? ⟨g, 0, none⟩ = some (.string (oneB (65 + j))) ∧ wx.cell? ⟨g, 1, none⟩ = some (.int .i64 (1 + gz hs j % 64)) ∧ Hid (Below wr.heap.size wr wx))
          case first =>
            -- DEV[
            have hcv := conv_byte ((wr.alloc (.cells #[.int .u8 (IntKind.u8.wrap (65 + (j : Int)))] 5)).drew) wr.heap.size 65 65 j rfl (by omega) (by simp)
            have hcv2 := conv_byte (((wr.alloc (.cells #[.string { data := #[] }, .int .i64 0] 32)).alloc (.cells #[.int .u8 (IntKind.u8.wrap (65 + (j : Int)))] 5)).drew) (wr.heap.size + 1) 65 65 j rfl (by omega) (by simp)
            have hcv3 := conv_byte (((wr.alloc (.cells #[.int .u8 (IntKind.u8.wrap (65 + (j : Int)))] 5)).alloc (.cells #[.string { data := #[] }, .int .i64 0] 32)).drew) wr.heap.size 65 65 j rfl (by omega) (by simp)
            have hsz : (oneB (65 + j)).size = 1 := rfl
            go_region_law (fail)
            all_goals (go_wp2_with fail; go_meet)
            all_goals first | exact ⟨wr.heap.size, rfl, by simp, by simp, below_alloc2 wr _ _⟩ | exact ⟨wr.heap.size + 1, rfl, by simp, by simp, below_alloc2 wr _ _⟩
            -- DEV]
          case rest =>
            obtain ⟨g, rfl, hg0, hg1, hbx⟩ := hcut
            have HG0 := Lib.hid hg0
            have HG1 := Lib.hid hg1
            go_wp2_with (at_builtin; go_loud (refine wpList_append_own _ rfl _ _ 27 rfl wo.heap.size 32 i0 _ 2 24 Try.underlying27 hi0 hz0 hz1 hz2 rfl (by decide) _ j (stripCells (rowsA hs j)) rfl ((ownsRow_below HA2.out hbx.out).alloc _) _ 1 1 [.string (oneB (65 + j)), .int .i64 (1 + gz hs j % 64)] rfl rfl (cell_two_new _ _ _ _) ?c2 ?c3 ?c4 ?c5 ?_))
            case c2 => intro u hu; simp at hu; rcases hu with rfl | rfl <;> rfl
            case c3 => unfold maxLen; omega
            case c4 => omega
            case c5 => have := HB2.out.size; have := hbx.out.size; simp; omega
            intro v' w1 hown1 hgrow _
            have hown2 : w1.ownsRow wo.heap.size 32 2 v' (j + 1) (stripCells (rowsA hs (j + 1))) := by
              rw [rowsA_succ, stripCells_append, keyA_eq]; exact hown1
            have hB3 := HB2.out.trans (hbx.out.mono HB2.out.size)
            have hb1 : Below wo.heap.size wo w1 := (hB3.alloc hB3.size _).grown hgrow (by have := hB3.size; simp; omega) (fun q hq => ((ownsRow_below HA2.out hbx.out).lt q hq).1)
            have HO1 := Lib.hid hown2
            have HB1 := Lib.hid hb1
            clear hown1 hgrow hown2 hb1 hB3
            go_wp2
            go_roundw
            case rel => exact ⟨j + 1, by omega, by go_num, by rw [HTS.out], HO1.out, HB1.out⟩
            case measure => simp [intOf]; omega
        · obtain rfl : j = n := by omega
          clear hown hbl
          have HBa : Hid (Below w.heap.size w wr) := HB.out.trans (HB2.out.mono HB.out.size)
          have HAb : Hid (wr.ownsRow w.heap.size 32 2 u10 k (stripCells (rowsN bs k))) := ownsRow_below HA.out HB2.out
          have hT1 : 1 ≤ topTo (rowsA hs j) j := topA_pos hs j (by omega)
          obtain ⟨ga, capa, ha9, hg1, hg2⟩ := World.ownsRow.form HA2.out (by omega)
          have hcap : j ≤ capa := by
            obtain ⟨_, cap9, hv9, hc9, _⟩ := ownsRow_isStrips HA2.out (rowsA_len hs j).symm
            rw [ha9, rowsA_len] at hv9
            rw [rowsA_len] at hc9
            have e9 : capa = cap9 := by simp at hv9; exact hv9.2
            omega
          subst ha9
          have HCA : Hid (∀ i, i < j → wr.cell? ⟨ga, i * 2, none⟩ = some (.string (keyA i)) ∧ wr.cell? ⟨ga, i * 2 + 1, none⟩ = some (.int .i64 (gh (rowsA hs j) i))) := fun i hi => by
            have e := stripCells_at (rowsA hs j) i (by rw [rowsA_len]; exact hi)
            rw [rowsA_gk hi] at e
            exact ⟨(HA2.out.cellAt (i * 2) (by omega)).trans e.1, (HA2.out.cellAt (i * 2 + 1) (by omega)).trans e.2⟩
          obtain ⟨T, hT⟩ : ∃ T, topTo (rowsA hs j) j = T := ⟨_, rfl⟩
          rw [hT] at hT1 ht ⊢
          have HTT := Lib.hid hT
          clear hT
          have hO0 := Int.emod_nonneg (o % 65536) (show T ≠ 0 by omega)
          have hO1 := Int.emod_lt_of_pos (o % 65536) (show 0 < T by omega)
          have hO2 : o % 65536 % T ≤ o % 65536 := emod_le_self (by omega) (by omega)
          have hm65 := and_65535 o
          have hm256 := and_255 c
          have hoo : 0 ≤ o % 65536 ∧ o % 65536 < 65536 := by omega
          go_wp2_with fail
          obtain ⟨O, hO⟩ : ∃ O, o % 65536 % T = O := ⟨_, rfl⟩
          rw [hO] at hO0 hO1 hO2 ⊢
          have hO3 : O < 65536 := by omega
          clear hO2 hoo hm65 hO
          go_loop [15, 16] (fun f t => ∃ q : Nat, q < j ∧ f = .int .i64 q ∧ t = .int .i64 (topTo (rowsA hs j) q) ∧ topTo (rowsA hs j) q ≤ O) (fun f _ => j - (intOf f).toNat)
          case atStart => exact ⟨0, by omega, rfl, rfl, by simpa [topTo] using hO0⟩
          case round =>
            obtain ⟨q, hq, rfl, rfl, hle⟩ := hrel
            have hc := (HCA.out q hq).2
            have htq := HT.out q
            have hgb : 1 ≤ gh (rowsA hs j) q ∧ gh (rowsA hs j) q ≤ 64 := by rw [rowsA_gh hq]; omega
            by_cases hgo : topTo (rowsA hs j) q + gh (rowsA hs j) q ≤ O
            · have hq1 : q + 1 < j := by
                apply Nat.lt_of_le_of_ne (by omega)
                intro e
                have h1 : topTo (rowsA hs j) (q + 1) = topTo (rowsA hs j) q + gh (rowsA hs j) q := rfl
                rw [e, HTT.out] at h1
                omega
              go_wp2
              go_round
              case rel => exact ⟨q + 1, hq1, by go_num, rfl, hgo⟩
              case measure => simp [intOf]; omega
            · have hG0 := Int.emod_nonneg (c % 256) (show ((q : Int) + 1) ≠ 0 by omega)
              have hG1 := Int.emod_lt_of_pos (c % 256) (show 0 < ((q : Int) + 1) by omega)
              obtain ⟨G, hG⟩ : ∃ G : Nat, c % 256 % ((q : Int) + 1) = (G : Int) := ⟨(c % 256 % ((q : Int) + 1)).toNat, by omega⟩
              rw [hG] at hG0 hG1
              have hGq : G ≤ q := by omega
              have hcg : ¬ capa = G := by omega
              have hnl : (stripCells ((rowsA hs j).drop G)).length = (j - G) * 2 := by rw [stripCells_len, List.length_drop, rowsA_len]
              have HNC : Hid (∀ x u, (stripCells ((rowsA hs j).drop G))[x]? = some u → wr.cell? ((⟨ga, G * 2, none⟩ : Addr).add x) = some u) := fun x u hx => by
                rw [stripCells_drop, List.getElem?_drop] at hx
                have hxl : G * 2 + x < j * 2 := by
                  have := (List.getElem?_eq_some_iff.1 hx).1
                  rw [stripCells_len, rowsA_len] at this
                  omega
                have := (HA2.out.cellAt (G * 2 + x) hxl).trans hx
                have ea : (⟨ga, G * 2, none⟩ : Addr).add x = ⟨ga, G * 2 + x, none⟩ := by unfold Addr.add; split <;> simp_all
                rw [ea]
                exact this
              have HNL := Lib.hid hnl
              clear hnl
              go_wp2_with (at_builtin; go_loud (refine wpList_append_own _ rfl _ _ 27 rfl w.heap.size 32 i0 _ 2 24 Try.underlying27 hi0 hz0 hz1 hz2 rfl (by decide) _ k (stripCells (rowsN bs k)) rfl HAb.out ⟨ga, G * 2, none⟩ (j - G) (capa - G) (stripCells ((rowsA hs j).drop G)) rfl HNL.out HNC.out ?c2 ?c3 ?c4 ?c5 ?_))
              case c2 => exact stripCells_one _
              case c3 => unfold maxLen; omega
              case c4 => omega
              case c5 => have := HBa.out.size; omega
              intro v' w1 hown1 hgrow _
              have hGj : G ≤ j := by omega
              have hown2 : w1.ownsRow w.heap.size 32 2 v' (k + (j - G)) (stripCells (rowsB hs bs j k G)) := by
                rw [rowsB, stripCells_append]; exact hown1
              have hb1 : Below w.heap.size w w1 := HBa.out.grown hgrow HBa.out.size (fun x hx => (HAb.out.lt x hx).1)
              have hne : (some ga : Option Nat) ≠ u10.ownBlock := fun e => by have := (HA.out.lt ga e.symm).2; omega
              have hA1 : w1.ownsRow wo.heap.size 32 2 (.slice (some ⟨ga, 0, none⟩) j capa) j (stripCells (rowsA hs j)) := HA2.out.kept hgrow (.inr hne)
              have HSB := Lib.hid (ownsRow_isStrips hown2 (rowsB_len hGj).symm)
              have HSA := Lib.hid (ownsRow_isStrips hA1 (rowsA_len hs j).symm)
              have HB1 := Lib.hid hb1
              have hF2 : O < topTo (rowsA hs j) (q + 1) := by show O < topTo (rowsA hs j) q + gh (rowsA hs j) q; omega
              obtain ⟨kf1, kf2⟩ := keeps_facts (bs := bs) (m := k) (g := G) hn1 hm1 hq hGq ⟨hO0, hO3⟩ hle hF2
              obtain ⟨P, hP⟩ : ∃ P, k + (q - G) = P := ⟨_, rfl⟩
              have hPn : P < k + (j - G) := by omega
              have HK1 : Hid (keepA (rowsA hs j) (rowsB hs bs j k G) O = topTo (rowsB hs bs j k G) P + O - topTo (rowsA hs j) q) := by show _ = _; rw [kf1, hP]
              have HK2 := Lib.hid kf2
              have HPk : Hid (∀ i, i < P → ((gk (rowsB hs bs j k G) i).toList == (keyA q).toList) = false) := fun i hi => by
                refine bytes_ne (fun e => ?_)
                by_cases c0 : i < k
                · rw [rowsB_gk_lo c0] at e; exact keyA_ne_N _ _ e
                · rw [rowsB_gk_hi (by omega) (by omega)] at e
                  have := keyA_inj (by omega) (by omega) e
                  omega
              have HPq : Hid (gk (rowsB hs bs j k G) P = keyA q) := by
                show _ = _
                rw [rowsB_gk_hi (by omega) (by omega)]
                congr 1
                omega
              clear hown1 hgrow hown2 hA1 hb1 kf1 kf2 HNC HNL hcg
              obtain ⟨Bl, hBl⟩ : ∃ Bl, rowsB hs bs j k G = Bl := ⟨_, rfl⟩
              have hBlen : Bl.length = k + (j - G) := by rw [← hBl]; exact rowsB_len hGj
              have hBgh : ∀ i, i < k + (j - G) → 0 ≤ gh Bl i ∧ gh Bl i ≤ 64 := fun i hi => by rw [← hBl]; exact rowsB_gh hGj hi
              have HKB : Hid (keysOk Bl) := by rw [← hBl]; exact keysB hs bs hGj
              have HKA : Hid (keysOk (rowsA hs j)) := keysA hs j
              rw [hBl] at HSB HK1 HPk HPq
              have HBg := Lib.hid hBgh
              have HBT : Hid (∀ i, i ≤ P → 0 ≤ topTo Bl i ∧ topTo Bl i ≤ i * 64) := by
                intro i
                induction i with
                | zero => intro _; simp [topTo]
                | succ i ih => intro hi; have := ih (by omega); have := hBgh i (by omega); simp only [topTo]; omega
              obtain ⟨N, hN⟩ : ∃ N, k + (j - G) = N := ⟨_, rfl⟩
              rw [hN] at hBlen hPn hBgh HBg
              obtain ⟨ba, bc, rfl, b1, b2, b3⟩ := id HSB.out
              rw [hBlen] at b1 b3
              clear hN
              have B3 := Lib.hid b3
              have HL := Lib.hid hBlen
              have hcA := (HSA.out.out_cell (i := q) (by rw [rowsA_len]; exact hq) (rowsA_len hs j)).1
              rw [rowsA_gk hq] at hcA
              clear b2 b3 hBgh hBlen hBl
              go_wp2_with fail
              rw [HL.out]
              have HSBd : Hid (∀ d, IsStrips (w1.drewN d) (.slice ba N bc) Bl) := fun d => by have := HSB.out.of_below (below_drewN (Below.refl _ _) d); rwa [HL.out] at this
              have HSAd : Hid (∀ d, IsStrips (w1.drewN d) (.slice (some ⟨ga, 0, none⟩) j capa) (rowsA hs j)) := fun d => HSA.out.of_below (below_drewN (Below.refl _ _) d)
              go_loopw [18, 19] (fun t i wr3 => ∃ x d : Nat, x ≤ P ∧ i = .int .i64 x ∧ t = .int .i64 (topTo Bl x) ∧ wr3 = w1.drewN d) (fun _ i _ => P - (intOf i).toNat)
              case atStart => exact ⟨0, 0, Nat.zero_le _, rfl, rfl, rfl⟩
              case round =>
                obtain ⟨x, d, hx, rfl, rfl, rfl⟩ := hrel
                obtain ⟨xb, xo, rfl, -, xcell⟩ := B3.out (by omega)
                obtain ⟨hx0, hx1⟩ := xcell x (by omega)
                have hxt := HBT.out x hx
                have hxg := HBg.out x (by omega)
                have hxl : (x : Int) < (N : Int) := by omega
                clear xcell
                by_cases hxp : x < P
                · have hnk := HPk.out x hxp
                  go_wp2_with fail
                  go_quiet (fail)
                  go_wp2
                  go_roundw
                  case rel => exact ⟨x + 1, _, by omega, by go_num, rfl, rfl⟩
                  case measure => simp [intOf]; omega
                · obtain rfl : x = P := by omega
                  rw [HPq.out] at hx0
                  go_wp2_with fail
                  go_quiet (fail)
                  go_wp2_with fail
                  refine (keep_any _ _ (rowsA hs j) Bl _ _ (HSAd.out _) (HSBd.out _) HKA.out HKB.out).mono ?_
                  rw [HK1.out]
                  rintro e w5 ⟨rfl, hb5⟩
                  have HB5 : Hid (Below w.heap.size w w5) := (below_drewN HB1.out _).trans (Below.mono hb5 HB1.out.size)
                  have HSA5 := Lib.hid ((HSAd.out _).of_below hb5)
                  clear hb5
                  go_wp2_with fail
                  refine (keep_any _ _ (rowsA hs j) (rowsA hs j) _ _ HSA5.out HSA5.out HKA.out HKA.out).mono ?_
                  rw [HK2.out]
                  rintro e w6 ⟨rfl, hb6⟩
                  have HB6 := Lib.hid (HB5.out.trans (hb6.mono HB5.out.size))
                  clear hb6
                  go_wp2_with (go_at_call 11; refine (awake_any _).mono ?_; rintro e w7 ⟨rfl, hb7⟩)
                  go_ret
                  exact ⟨rfl, HB6.out.trans (hb7.mono HB6.out.size)⟩

theorem walk_ScrollKeeps (v0 : Value) (hs : List Int) (v1 : Value) (bs : List Int) (u2 : Value) (c : Int) (u3 : Value) (o : Int) (w : World) (h0 : InInts w v0 hs) (h1 : InInts w v1 bs)
    (h2 : u2 = .int .i64 c ∧ (Lit.int .i64 c).wf = true) (h3 : u3 = .int .i64 o ∧ (Lit.int .i64 o).wf = true) :
    Calls Try.prog 8 #[v0, v1, u2, u3] w (True_ w) := by
  obtain ⟨rfl, -⟩ := h2
  obtain ⟨rfl, -⟩ := h3
  by_cases g : 1 ≤ hs.length ∧ hs.length ≤ 40 ∧ bs.length ≤ 20
  · exact keeps_in v0 v1 hs bs c o w h0.1 h1.1 g.1 g.2.1 g.2.2
  · exact keeps_out v0 v1 hs bs c o w h0.1 h1.1 (by omega)
end Go.Proofs.Ytchlnelpgjjmgaa
