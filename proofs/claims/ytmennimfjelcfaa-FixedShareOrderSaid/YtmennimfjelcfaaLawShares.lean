/- The walk of the law FixedShares. -/
import Derived.Test.YtmennimfjelcfaaAwake01
import Derived.Test.YtmennimfjelcfaaOpen
namespace Go.Proofs.Ytmennimfjelcfaa
open Go.RowKit

theorem ownsRow_isInts {w : World} {base : Nat} {v : Value} {n : Nat} {xs : List Int} (h : w.ownsRow base 3 1 v n (xs.map (Value.int .i64))) : IsInts w v xs := by
  obtain ⟨h1, h2⟩ := h
  have hn : n = xs.length := by simpa using h1.symm
  subst hn
  rcases h2 with ⟨rfl, h0⟩ | ⟨g, cap, cur, rfl, _, hg, hc, hm, hsz, htake⟩
  · have : xs = [] := List.eq_nil_of_length_eq_zero h0
    subst this
    exact IsInts.nil w
  · refine ⟨_, cap, rfl, hc, hm, fun _ => ⟨g, 0, rfl, lt_of_block hg, fun i hi => ?_⟩⟩
    rw [Nat.zero_add, cell_of_row w g i cur 3 (0, 0) hg]
    have e : (cur.toList.take (xs.length * 1))[i]? = (xs.map (Value.int .i64))[i]? := by rw [htake]
    rw [List.getElem?_take, if_pos (by omega)] at e
    simp only [Array.getElem?_toList] at e
    rw [e]
    simp [gz, hi]

theorem eqL_self (xs : List Int) : eqL xs xs = true := by simp [eqL]

/-- The copy that the law makes of the weights. -/
theorem news_cells {w : World} {b off : Nat} {ws : List Int} (hc : ∀ i, i < ws.length → w.cell? ⟨b, off + i, none⟩ = some (.int .i64 (gz ws i))) :
    ∀ j u, (ws.map (Value.int .i64))[j]? = some u → w.cell? ((⟨b, off, none⟩ : Addr).add j) = some u := by
  intro j u hu
  have hj : j < ws.length := by
    have := (List.getElem?_eq_some_iff.1 hu).1
    simpa using this
  have e : (⟨b, off, none⟩ : Addr).add j = ⟨b, off + j, none⟩ := by unfold Addr.add; split <;> simp_all
  rw [e, hc j hj]
  rw [← hu]
  simp [gz, hj]

set_option maxHeartbeats 1000000 in
theorem shares_long (a : Option Addr) (n cap : Nat) (total : Int) (w : World) (hn : 300 < n) (hm : n ≤ maxLen) :
    Calls Try.prog 3 #[.int .i64 total, .slice a n cap] w (True_ w) := by
  unfold maxLen at hm
  have hn' : (300 : Int) < (n : Int) := by omega
  go_enter Try.func3, Try.ntmps3
  go_wp2
  go_ret
  exact ⟨rfl, Below.refl _ _⟩

set_option maxHeartbeats 1000000 in
theorem shares_some (x : Addr) (n cap : Nat) (total : Int) (ws : List Int) (w : World) (HN : Hid (ws.length = n)) (hn : n ≤ 300) (hin : IsInts w (.slice (some x) n cap) ws)
    (HC : Hid (∀ j u, (ws.map (Value.int .i64))[j]? = some u → w.cell? (x.add j) = some u)) :
    Calls Try.prog 3 #[.int .i64 total, .slice (some x) n cap] w (True_ w) := by
  obtain ⟨i0, hi0, hz0, hz1, hz2⟩ := info_parts info_int
  have HI := Lib.hid hin
  clear hin
  have hn' : (n : Int) ≤ 300 := by omega
  go_enter Try.func3, Try.ntmps3
  go_wp2_with (at_builtin; refine wpList_append_own _ rfl _ _ 22 rfl w.heap.size 3 i0 (.int .i64 0) 1 8 Try.underlying22 hi0 hz0 hz1 hz2 rfl (by decide) _ _ _ rfl (World.ownsRow_nil _ _ _ _) x n cap (ws.map (Value.int .i64)) rfl ?c1 ?c2 ?c3 ?c4 ?c5 ?c6 ?_)
  case c1 => rw [List.length_map, HN.out]; omega
  case c2 => exact HC.out
  case c3 => intro u hu; simp at hu; obtain ⟨y, _, rfl⟩ := hu; rfl
  case c4 => unfold maxLen; omega
  case c5 => omega
  case c6 => exact Nat.le_refl _
  intro v' w1 hown hgrow hnil
  clear hnil hz0 hz1 hz2 hi0 i0
  have hin := ownsRow_isInts hown
  have hb0 : Below w.heap.size w w1 := (Below.refl _ _).grown hgrow (Nat.le_refl _) (fun k hk => by simp [Value.ownBlock] at hk)
  have hor := HI.out.of_below hb0
  have H1 := Lib.hid hin
  have H2 := Lib.hid hor
  clear hown hgrow hin hor
  go_wp2_with fail
  refine (share_any _ _ ws _ H1.out).mono ?_
  rintro e w2 ⟨pv, rfl, hp, hb2⟩
  have H3 := Lib.hid (H1.out.of_below hb2)
  have H4 := Lib.hid (H2.out.of_below hb2)
  have H5 := Lib.hid hp
  clear hp H1 H2
  go_wp2_with fail
  refine (rshare_any _ _ ws _ H4.out).mono ?_
  rintro e w3 ⟨qv, rfl, hq, hb3⟩
  have H6 := Lib.hid (H3.out.of_below hb3)
  have H7 := Lib.hid (H4.out.of_below hb3)
  have H8 := Lib.hid (H5.out.of_below hb3)
  have H9 := Lib.hid hq
  clear hq H3 H4 H5
  go_wp2_with fail
  refine (equal_any _ _ _ _ _ H8.out H9.out).mono ?_
  rw [eqL_self]
  rintro e w4 ⟨rfl, n4, rfl⟩
  go_wp2_with fail
  refine (equal_any _ _ _ _ _ (H6.out.of_below (below_drewN (Below.refl _ _) n4)) (H7.out.of_below (below_drewN (Below.refl _ _) n4))).mono ?_
  rw [eqL_self]
  rintro e w5 ⟨rfl, n5, rfl⟩
  go_wp2_with fail
  refine (awake_any _).mono ?_
  rintro e w6 ⟨rfl, hb6⟩
  go_wp2_with fail
  go_ret
  have s0 := hb0.size
  have s2 := hb2.size
  have s3 := hb3.size
  exact ⟨rfl, (((hb0.trans (hb2.mono s0)).trans (hb3.mono (Nat.le_trans s0 s2))).trans (below_drewN (Below.refl _ _) (n4 + n5))).trans (hb6.mono (by show w.heap.size ≤ w3.heap.size; omega))⟩

set_option maxHeartbeats 1000000 in
theorem shares_none (cap : Nat) (total : Int) (w : World) (hm : cap ≤ maxLen) :
    Calls Try.prog 3 #[.int .i64 total, .slice none 0 cap] w (True_ w) := by
  go_enter Try.func3, Try.ntmps3
  go_wp2_with fail
  have hb0 : Below w.heap.size w w := Below.refl _ _
  have H1 := Lib.hid (IsInts.nil w)
  have H2 : Hid (IsInts w (.slice none 0 cap) []) := ⟨none, cap, rfl, Nat.zero_le _, hm, fun h => absurd h (Nat.lt_irrefl _)⟩
  refine (share_any _ _ [] _ H1.out).mono ?_
  rintro e w2 ⟨pv, rfl, hp, hb2⟩
  have H3 := Lib.hid (H1.out.of_below hb2)
  have H4 := Lib.hid (H2.out.of_below hb2)
  have H5 := Lib.hid hp
  clear hp H1 H2
  go_wp2_with fail
  refine (rshare_any _ _ [] _ H4.out).mono ?_
  rintro e w3 ⟨qv, rfl, hq, hb3⟩
  have H6 := Lib.hid (H3.out.of_below hb3)
  have H7 := Lib.hid (H4.out.of_below hb3)
  have H8 := Lib.hid (H5.out.of_below hb3)
  have H9 := Lib.hid hq
  clear hq H3 H4 H5
  go_wp2_with fail
  refine (equal_any _ _ _ _ _ H8.out H9.out).mono ?_
  rw [eqL_self]
  rintro e w4 ⟨rfl, n4, rfl⟩
  go_wp2_with fail
  refine (equal_any _ _ _ _ _ (H6.out.of_below (below_drewN (Below.refl _ _) n4)) (H7.out.of_below (below_drewN (Below.refl _ _) n4))).mono ?_
  rw [eqL_self]
  rintro e w5 ⟨rfl, n5, rfl⟩
  go_wp2_with fail
  refine (awake_any _).mono ?_
  rintro e w6 ⟨rfl, hb6⟩
  go_wp2_with fail
  go_ret
  have s2 := hb2.size
  have s3 := hb3.size
  exact ⟨rfl, (((hb0.trans (hb2.mono (Nat.le_refl _))).trans (hb3.mono s2)).trans (below_drewN (Below.refl _ _) (n4 + n5))).trans (hb6.mono (by show w.heap.size ≤ w3.heap.size; omega))⟩

theorem walk_FixedShares (v0 : Value) (total : Int) (v1 : Value) (ws : List Int) (w : World) (h0 : v0 = .int .i64 total ∧ (Lit.int .i64 total).wf = true) (h1 : InInts w v1 ws) :
    Calls Try.prog 3 #[v0, v1] w (True_ w) := by
  obtain ⟨rfl, -⟩ := h0
  obtain ⟨a, cap, rfl, k1, k2, k3⟩ := h1.1
  by_cases hn : 300 < ws.length
  · exact shares_long a _ cap total w hn (by omega)
  · by_cases hp : 0 < ws.length
    · obtain ⟨b, off, rfl, _, hc⟩ := k3 hp
      exact shares_some _ _ cap total ws w (Lib.hid rfl) (by omega) h1.1 (Lib.hid (news_cells hc))
    · obtain rfl : ws = [] := by cases ws with | nil => rfl | cons => simp at hp
      cases a with
      | none => exact shares_none cap total w k2
      | some x => exact shares_some x _ cap total [] w (Lib.hid rfl) (by simp) h1.1 (Lib.hid (by simp))
end Go.Proofs.Ytmennimfjelcfaa
