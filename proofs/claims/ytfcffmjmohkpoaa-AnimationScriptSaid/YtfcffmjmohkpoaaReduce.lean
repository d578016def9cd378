/- Reduce of package animation and of its reference; EqualMotions at equal lists (printed by wip/gen_reduce.py). -/
import Derived.Test.YtfcffmjmohkpoaaAnims
import Derived.Test.YtfcffmjmohkpoaaTail
import Derived.Deep.AppendLies
import Derived.Deep.QuietTactic
import Derived.BigQuiet
namespace Go.Proofs.Ytfcffmjmohkpoaa
open Go.RowKit
set_option linter.unusedVariables false
set_option linter.unusedSimpArgs false

theorem info_motion2 : (Try.prog.info? 53).map (fun i => (i.zero, i.size, i.bytes)) = some (some (.agg #[.int .i64 0, .int .i64 0, .int .i64 0]), 3, 24) := by kernel_rfl
def redR (a : Anim) : Rec := [a.node, a.prop, a.goal]
theorem redR_wide (l : List Anim) : wide 3 (l.map redR) := by
  intro r hr
  obtain ⟨a, _, rfl⟩ := List.mem_map.1 hr
  rfl
theorem red_take {l : List Anim} {k : Nat} (h : k < l.length) : (l.map redR).take (k + 1) = (l.map redR).take k ++ [redR (ga l k)] := by
  have h2 : k < (l.map redR).length := by simpa using h
  rw [List.take_succ_eq_append_getElem h2]
  simp [ga, h]
theorem red_cells {l : List Anim} {k : Nat} (h : k < l.length) : recCells ((l.map redR).take (k + 1)) = recCells ((l.map redR).take k) ++ (redR (ga l k)).map (Value.int .i64) := by
  rw [red_take h, recCells_append]; simp [recCells]
/-- The final values. -/
def Reduced (l : List Anim) (w : World) (e : Ending) (w' : World) : Prop := ∃ u, e = .returned u ∧ IsRecs 3 w' u (l.map redR) ∧ Below w.heap.size w w'

set_option maxHeartbeats 4000000 in
set_option maxRecDepth 100000 in
theorem reduce_any (v : Value) (l : List Anim) (w : World) (hv : IsAnims w v l) (hl : l.length ≤ 5) : Calls Try.prog 27 #[v] w (Reduced l w) := by
  obtain ⟨i0, hi0, hz0, hz1, hz2⟩ := info_parts info_motion2
  obtain ⟨a, cap, rfl, h1, h2, h3⟩ := hv.open_
  obtain ⟨n, hn⟩ : ∃ n, l.length = n := ⟨_, rfl⟩
  rw [hn] at h1 h3 hl ⊢
  have H3 := Lib.hid h3
  have HN := Lib.hid hn
  have hl' : (n : Int) ≤ 5 := by omega
  clear h3 hn h2 hv
  go_enter Try.func27, Try.ntmps27
  go_wp2_with fail
  go_loopw [3, 8] (fun out i wr => ∃ k : Nat, k ≤ n ∧ i = .int .i64 k ∧ wr.ownsRow w.heap.size 53 3 out k (recCells ((l.map redR).take k)) ∧ Below w.heap.size w wr) (fun _ i _ => n - (intOf i).toNat)
  case atStart => exact ⟨0, Nat.zero_le _, rfl, World.ownsRow_nil _ _ _ _, Below.refl _ _⟩
  case round =>
    obtain ⟨k, hk, rfl, hO, hbl⟩ := hrel
    have HO := Lib.hid hO
    have HB := Lib.hid hbl
    by_cases hkn : k < n
    ·
      obtain ⟨b, off, rfl, hlt, hcell⟩ := H3.out (by omega)
      have hoff := (hcell k hkn).kept hbl hlt
      have HOW := Lib.hid (hcell k hkn)
      have HLT := Lib.hid hlt
      have HRC := Lib.hid (red_cells (l := l) (k := k) (by rw [HN.out]; exact hkn))
      obtain ⟨g, hg⟩ : ∃ g, ga l k = g := ⟨_, rfl⟩
      rw [hg] at hoff HRC HOW
      obtain ⟨g0, g1, g2, g3, g4, g5, g6, g7, g8, g9, g10, g11, g12, g13, g14, g15⟩ := g
      obtain ⟨c0, c1, c2, c3, c4, c5, c6, c7, c8, c9, c10, c11, c12, c13, c14, c15⟩ := hoff
      simp only at c0 c1 c2 c3 c4 c5 c6 c7 c8 c9 c10 c11 c12 c13 c14 c15
      have HSZ := Lib.hid hbl.size
      have hkn' : (k : Int) < (n : Int) := by omega
      have hk0 : (0 : Int) ≤ (k : Int) := by omega
      clear hcell hg hO hbl hlt
      go_wp2_with (at_builtin; refine wpList_append_lies _ rfl _ _ 45 rfl w.heap.size 53 i0 _ 3 24 Try.underlying45 hi0 hz0 hz1 hz2 rfl (by omega) _ k (recCells ((l.map redR).take k)) rfl ((HO.out.alloc _).alloc _) ⟨wr.heap.size + 1, 0, none⟩ 1 1 [.int .i64 g0, .int .i64 g1, .int .i64 g4] rfl rfl (World.news_of_block (cs := #[.int .i64 g0, .int .i64 g1, .int .i64 g4]) (t := 53) (fr := (0, 0)) (by have h := heap_alloc_new (wr.alloc (.cells #[.int .i64 g0, .int .i64 g1, .int .i64 g2, .int .i64 g3, .int .i64 g4, .int .i64 g5, .int .i64 g6, .int .i64 g7, .int .i64 g8, .int .i64 g9, .int .i64 g10, .int .i64 g11, .int .i64 g12, .int .i64 g13, .int .i64 g14, .int .i64 g15] 38)) (.cells #[.int .i64 g0, .int .i64 g1, .int .i64 g4] 53); rwa [World.size_alloc] at h)) (by simp [Value.oneCell']) (by omega) (by unfold maxLen; omega) (by omega) (by have := HSZ.out; simp; omega) _ rfl ?_; intro gg cap' w6 hown6 hgrow6 hat6 hlt6; have HOW6 := Lib.hid hown6; have HB6 : Hid (Below w.heap.size w w6) := ((HB.out.alloc HB.out.size _).alloc (by have := HB.out.size; simp; omega) _).grown hgrow6 (by have := HB.out.size; simp; omega) (fun q hq => (HO.out.lt q hq).1); clear hown6 hgrow6 hat6 hlt6)
      go_roundw
      case rel => exact ⟨k + 1, by omega, by go_num, by rw [HRC.out]; exact HOW6.out, HB6.out⟩
      case measure => simp [intOf]; omega
    · obtain rfl : k = n := by omega
      have hte : (l.map redR).take k = l.map redR := List.take_of_length_le (by simp; have := HN.out; omega)
      have HTE := Lib.hid hte
      clear hte hO hbl
      go_wp2
      go_ret
      exact ⟨_, rfl, by have h := HO.out; rw [HTE.out] at h; exact ownsRow_isRecs h (by simp; exact HN.out.symm) (redR_wide l), HB.out⟩

set_option maxHeartbeats 4000000 in
set_option maxRecDepth 100000 in
theorem rreduce_any (v : Value) (l : List Anim) (w : World) (hv : IsAnims w v l) (hl : l.length ≤ 5) : Calls Try.prog 28 #[v] w (Reduced l w) := by
  obtain ⟨i0, hi0, hz0, hz1, hz2⟩ := info_parts info_motion2
  obtain ⟨a, cap, rfl, h1, h2, h3⟩ := hv.open_
  obtain ⟨n, hn⟩ : ∃ n, l.length = n := ⟨_, rfl⟩
  rw [hn] at h1 h3 hl ⊢
  have H3 := Lib.hid h3
  have HN := Lib.hid hn
  have hl' : (n : Int) ≤ 5 := by omega
  clear h3 hn h2 hv
  go_enter Try.func28, Try.ntmps28
  go_wp2_with fail
  go_loopw [3, 4] (fun out i wr => ∃ k : Nat, k ≤ n ∧ i = .int .i64 k ∧ wr.ownsRow w.heap.size 53 3 out k (recCells ((l.map redR).take k)) ∧ Below w.heap.size w wr) (fun _ i _ => n - (intOf i).toNat)
  case atStart => exact ⟨0, Nat.zero_le _, rfl, World.ownsRow_nil _ _ _ _, Below.refl _ _⟩
  case round =>
    obtain ⟨k, hk, rfl, hO, hbl⟩ := hrel
    have HO := Lib.hid hO
    have HB := Lib.hid hbl
    by_cases hkn : k < n
    ·
      obtain ⟨b, off, rfl, hlt, hcell⟩ := H3.out (by omega)
      have hoff := (hcell k hkn).kept hbl hlt
      have HOW := Lib.hid (hcell k hkn)
      have HLT := Lib.hid hlt
      have HRC := Lib.hid (red_cells (l := l) (k := k) (by rw [HN.out]; exact hkn))
      obtain ⟨g, hg⟩ : ∃ g, ga l k = g := ⟨_, rfl⟩
      rw [hg] at hoff HRC HOW
      obtain ⟨g0, g1, g2, g3, g4, g5, g6, g7, g8, g9, g10, g11, g12, g13, g14, g15⟩ := g
      obtain ⟨c0, c1, c2, c3, c4, c5, c6, c7, c8, c9, c10, c11, c12, c13, c14, c15⟩ := hoff
      simp only at c0 c1 c2 c3 c4 c5 c6 c7 c8 c9 c10 c11 c12 c13 c14 c15
      have HSZ := Lib.hid hbl.size
      have hkn' : (k : Int) < (n : Int) := by omega
      have hk0 : (0 : Int) ≤ (k : Int) := by omega
      clear hcell hg hO hbl hlt
      go_upto_region 5 with fail
      refine wp_region_T (S := (fun w' => w'.cell? ⟨b, off + k * 16, none⟩ = some (.int .i64 g0) ∧ w'.cell? ⟨b, off + k * 16 + 1, none⟩ = some (.int .i64 g1) ∧ w'.cell? ⟨b, off + k * 16 + 4, none⟩ = some (.int .i64 g4))) 18 (by kernel_rfl) (⟨c0, c1, c4⟩) (fun hHeld => ?_)
      refine wpAnyT_take (i := 0) (v := ?_) rfl (by decide +kernel) (by decide +kernel) (by decide +kernel) (by decide +kernel) (by decide +kernel) (fun _ _ _ h => h) (Or.inl ⟨by rfl, ?_⟩) (by assumption) ?_
      rotate_left
      · intro w hSw; (try dsimp only at hSw); first | (go_simp; done) | (go_simp; with_reducible rfl)
      try simp only [Act.put, List.getElem_toArray, List.getElem_cons_succ, List.getElem_cons_zero, List.setIfInBounds_toArray, List.set_cons_zero, List.set_cons_succ]
      refine wpAnyT_take (i := 1) (v := ?_) rfl (by decide +kernel) (by decide +kernel) (by decide +kernel) (by decide +kernel) (by decide +kernel) (fun _ _ _ h => h) (Or.inl ⟨by rfl, ?_⟩) (by assumption) ?_
      rotate_left
      · intro w hSw; (try dsimp only at hSw); first | (go_simp; done) | (go_simp; with_reducible rfl)
      try simp only [Act.put, List.getElem_toArray, List.getElem_cons_succ, List.getElem_cons_zero, List.setIfInBounds_toArray, List.set_cons_zero, List.set_cons_succ]
      refine wpAnyT_take (i := 2) (v := ?_) rfl (by decide +kernel) (by decide +kernel) (by decide +kernel) (by decide +kernel) (by decide +kernel) (fun _ _ _ h => h) (Or.inl ⟨by rfl, ?_⟩) (by assumption) ?_
      rotate_left
      · intro w hSw; (try dsimp only at hSw); first | (go_simp; done) | (go_simp; with_reducible rfl)
      try simp only [Act.put, List.getElem_toArray, List.getElem_cons_succ, List.getElem_cons_zero, List.setIfInBounds_toArray, List.set_cons_zero, List.set_cons_succ]
      refine wpAnyT_take (i := 3) (v := ?_) rfl (by decide +kernel) (by decide +kernel) (by decide +kernel) (by decide +kernel) (by decide +kernel) (fun _ _ _ h => h) (Or.inl ⟨by rfl, ?_⟩) (by assumption) ?_
      rotate_left
      · intro w hSw; (try dsimp only at hSw); first | (go_simp; done) | (go_simp; with_reducible rfl)
      try simp only [Act.put, List.getElem_toArray, List.getElem_cons_succ, List.getElem_cons_zero, List.setIfInBounds_toArray, List.set_cons_zero, List.set_cons_succ]
      refine wpAnyT_take (i := 4) (v := ?_) rfl (by decide +kernel) (by decide +kernel) (by decide +kernel) (by decide +kernel) (by decide +kernel) (fun _ _ _ h => h) (Or.inl ⟨by rfl, ?_⟩) (by assumption) ?_
      rotate_left
      · intro w hSw; (try dsimp only at hSw); first | (go_simp; done) | (go_simp; with_reducible rfl)
      try simp only [Act.put, List.getElem_toArray, List.getElem_cons_succ, List.getElem_cons_zero, List.setIfInBounds_toArray, List.set_cons_zero, List.set_cons_succ]
      refine wpAnyT_take (i := 5) (v := ?_) rfl (by decide +kernel) (by decide +kernel) (by decide +kernel) (by decide +kernel) (by decide +kernel) (fun _ _ _ h => h) (Or.inl ⟨by rfl, ?_⟩) (by assumption) ?_
      rotate_left
      · intro w hSw; (try dsimp only at hSw); first | (go_simp; done) | (go_simp; with_reducible rfl)
      try simp only [Act.put, List.getElem_toArray, List.getElem_cons_succ, List.getElem_cons_zero, List.setIfInBounds_toArray, List.set_cons_zero, List.set_cons_succ]
      refine wpAnyT_take (i := 6) (v := ?_) rfl (by decide +kernel) (by decide +kernel) (by decide +kernel) (by decide +kernel) (by decide +kernel) (fun _ _ _ h => h) (Or.inl ⟨by rfl, ?_⟩) (by assumption) ?_
      rotate_left
      · intro w hSw; (try dsimp only at hSw); first | (go_simp; done) | (go_simp; with_reducible rfl)
      try simp only [Act.put, List.getElem_toArray, List.getElem_cons_succ, List.getElem_cons_zero, List.setIfInBounds_toArray, List.set_cons_zero, List.set_cons_succ]
      refine wpAnyT_take (i := 7) (v := ?_) rfl (by decide +kernel) (by decide +kernel) (by decide +kernel) (by decide +kernel) (by decide +kernel) (fun _ _ _ h => h) (Or.inl ⟨by rfl, ?_⟩) (by assumption) ?_
      rotate_left
      · intro w hSw; (try dsimp only at hSw); first | (go_simp; done) | (go_simp; with_reducible rfl)
      try simp only [Act.put, List.getElem_toArray, List.getElem_cons_succ, List.getElem_cons_zero, List.setIfInBounds_toArray, List.set_cons_zero, List.set_cons_succ]
      refine wpAnyT_take (i := 8) (v := ?_) rfl (by decide +kernel) (by decide +kernel) (by decide +kernel) (by decide +kernel) (by decide +kernel) (fun _ _ _ h => h) (Or.inl ⟨by rfl, ?_⟩) (by assumption) ?_
      rotate_left
      · intro w hSw; (try dsimp only at hSw); first | (go_simp; done) | (go_simp; with_reducible rfl)
      try simp only [Act.put, List.getElem_toArray, List.getElem_cons_succ, List.getElem_cons_zero, List.setIfInBounds_toArray, List.set_cons_zero, List.set_cons_succ]
      refine wpAnyT_take (i := 9) (v := ?_) rfl (by decide +kernel) (by decide +kernel) (by decide +kernel) (by decide +kernel) (by decide +kernel) (fun _ _ _ h => h) (Or.inl ⟨by rfl, ?_⟩) (by assumption) ?_
      rotate_left
      · intro w hSw; (try dsimp only at hSw); first | (go_simp; done) | (go_simp; with_reducible rfl)
      try simp only [Act.put, List.getElem_toArray, List.getElem_cons_succ, List.getElem_cons_zero, List.setIfInBounds_toArray, List.set_cons_zero, List.set_cons_succ]
      refine wpAnyT_take (i := 10) (v := ?_) rfl (by decide +kernel) (by decide +kernel) (by decide +kernel) (by decide +kernel) (by decide +kernel) (fun _ _ _ h => h) (Or.inl ⟨by rfl, ?_⟩) (by assumption) ?_
      rotate_left
      · intro w hSw; (try dsimp only at hSw); first | (go_simp; done) | (go_simp; with_reducible rfl)
      try simp only [Act.put, List.getElem_toArray, List.getElem_cons_succ, List.getElem_cons_zero, List.setIfInBounds_toArray, List.set_cons_zero, List.set_cons_succ]
      refine wpAnyT_take (i := 11) (v := ?_) rfl (by decide +kernel) (by decide +kernel) (by decide +kernel) (by decide +kernel) (by decide +kernel) (fun _ _ _ h => h) (Or.inl ⟨by rfl, ?_⟩) (by assumption) ?_
      rotate_left
      · intro w hSw; (try dsimp only at hSw); first | (go_simp; done) | (go_simp; with_reducible rfl)
      try simp only [Act.put, List.getElem_toArray, List.getElem_cons_succ, List.getElem_cons_zero, List.setIfInBounds_toArray, List.set_cons_zero, List.set_cons_succ]
      refine wpAnyT_take (i := 12) (v := ?_) rfl (by decide +kernel) (by decide +kernel) (by decide +kernel) (by decide +kernel) (by decide +kernel) (fun _ _ _ h => h) (Or.inl ⟨by rfl, ?_⟩) (by assumption) ?_
      rotate_left
      · intro w hSw; (try dsimp only at hSw); first | (go_simp; done) | (go_simp; with_reducible rfl)
      try simp only [Act.put, List.getElem_toArray, List.getElem_cons_succ, List.getElem_cons_zero, List.setIfInBounds_toArray, List.set_cons_zero, List.set_cons_succ]
      refine wpAnyT_take (i := 13) (v := ?_) rfl (by decide +kernel) (by decide +kernel) (by decide +kernel) (by decide +kernel) (by decide +kernel) (fun _ _ _ h => h) (Or.inl ⟨by rfl, ?_⟩) (by assumption) ?_
      rotate_left
      · intro w hSw; (try dsimp only at hSw); first | (go_simp; done) | (go_simp; with_reducible rfl)
      try simp only [Act.put, List.getElem_toArray, List.getElem_cons_succ, List.getElem_cons_zero, List.setIfInBounds_toArray, List.set_cons_zero, List.set_cons_succ]
      refine wpAnyT_take (i := 14) (v := ?_) rfl (by decide +kernel) (by decide +kernel) (by decide +kernel) (by decide +kernel) (by decide +kernel) (fun _ _ _ h => h) (Or.inl ⟨by rfl, ?_⟩) (by assumption) ?_
      rotate_left
      · intro w hSw; (try dsimp only at hSw); first | (go_simp; done) | (go_simp; with_reducible rfl)
      try simp only [Act.put, List.getElem_toArray, List.getElem_cons_succ, List.getElem_cons_zero, List.setIfInBounds_toArray, List.set_cons_zero, List.set_cons_succ]
      refine wpAnyT_take (i := 15) (v := ?_) rfl (by decide +kernel) (by decide +kernel) (by decide +kernel) (by decide +kernel) (by decide +kernel) (fun _ _ _ h => h) (Or.inl ⟨by rfl, ?_⟩) (by assumption) ?_
      rotate_left
      · intro w hSw; (try dsimp only at hSw); first | (go_simp; done) | (go_simp; with_reducible rfl)
      try simp only [Act.put, List.getElem_toArray, List.getElem_cons_succ, List.getElem_cons_zero, List.setIfInBounds_toArray, List.set_cons_zero, List.set_cons_succ]
      refine wpAnyT_take (i := 16) (v := ?_) rfl (by decide +kernel) (by decide +kernel) (by decide +kernel) (by decide +kernel) (by decide +kernel) (fun _ _ _ h => h) (Or.inl ⟨by rfl, ?_⟩) (by assumption) ?_
      rotate_left
      · intro w hSw; (try dsimp only at hSw); first | (go_simp; done) | (go_simp; with_reducible rfl)
      try simp only [Act.put, List.getElem_toArray, List.getElem_cons_succ, List.getElem_cons_zero, List.setIfInBounds_toArray, List.set_cons_zero, List.set_cons_succ]
      have hlt0 := World.block_lt_of_cell? _ _ hHeld.1
      have hlt1 := World.block_lt_of_cell? _ _ hHeld.2.1
      have hlt4 := World.block_lt_of_cell? _ _ hHeld.2.2
      refine wpAnyT_one (i := 17) (by kernel_rfl) rfl (fun K hK => ?_)
      go_simp
      refine hK.out _ _ ?_ (fun hHeld2 => ?_)
      · (try dsimp only); exact ⟨(World.cell?_alloc_lt _ _ _ hlt0).trans hHeld.1, (World.cell?_alloc_lt _ _ _ hlt1).trans hHeld.2.1, (World.cell?_alloc_lt _ _ _ hlt4).trans hHeld.2.2⟩
      clear hK K hHeld
      have hHeld := hHeld2
      clear hHeld2
      try simp only [Act.put, List.getElem_toArray, List.getElem_cons_succ, List.getElem_cons_zero, List.setIfInBounds_toArray, List.set_cons_zero, List.set_cons_succ]
      have HO7 : Hid ((wr.drew.alloc (.cells #[.int .i64 g0, .int .i64 g1, .int .i64 g4] 53)).ownsRow w.heap.size 53 3 u3 k (recCells ((l.map redR).take k))) := (show wr.drew.ownsRow w.heap.size 53 3 u3 k (recCells ((l.map redR).take k)) from HO.out).alloc _
      refine wpAnyT_one (i := 18) (by kernel_rfl) rfl (fun K hK => ?_)
      (refine step_append_lies _ (by rfl) _ _ _ (by rfl) w.heap.size 53 i0 _ 3 24 Try.underlying45 hi0 hz0 hz1 hz2 rfl (by omega) _ k (recCells ((l.map redR).take k)) (by rfl) HO7.out ⟨wr.heap.size, 0, none⟩ 1 1 [.int .i64 g0, .int .i64 g1, .int .i64 g4] (by rfl) (by rfl) (World.news_of_block (cs := #[.int .i64 g0, .int .i64 g1, .int .i64 g4]) (t := 53) (fr := (0, 0)) (heap_alloc_new wr.drew _)) (by simp [Value.oneCell']) (by omega) (by unfold maxLen; omega) (by omega) (by have := HSZ.out; simp; omega) (wr.heap.size + 1) (by simp) ?_; intro gg cap' w6 hown6 hgrow6 hat6 hlt6; have HOW6 := Lib.hid hown6; have HB6 : Hid (Below w.heap.size w w6) := (HB.out.drew.alloc HB.out.size _).grown hgrow6 (by have := HB.out.size; simp; omega) (fun q hq => (HO.out.lt q hq).1))
      refine hK.out _ _ ?_ (fun hHeld2 => ?_)
      · (try dsimp only); exact ⟨(HB6.out.cell (p := ⟨b, off + k * 16, none⟩) HLT.out).trans HOW.out.1, (HB6.out.cell (p := ⟨b, off + k * 16 + 1, none⟩) HLT.out).trans HOW.out.2.1, (HB6.out.cell (p := ⟨b, off + k * 16 + 4, none⟩) HLT.out).trans HOW.out.2.2.2.2.1⟩
      clear hK K hHeld
      have hHeld := hHeld2
      clear hHeld2
      try simp only [Act.put, List.getElem_toArray, List.getElem_cons_succ, List.getElem_cons_zero, List.setIfInBounds_toArray, List.set_cons_zero, List.set_cons_succ]
      refine wpAnyT_last (i := 19) (by kernel_rfl) (by kernel_rfl) rfl (by kernel_rfl) (fun K hK => ?_)
      go_simp
      refine hK.out _ _ ?_
      clear hK K
      try simp only [Act.put, List.getElem_toArray, List.getElem_cons_succ, List.getElem_cons_zero, List.setIfInBounds_toArray, List.set_cons_zero, List.set_cons_succ]
      clear hHeld
      go_wp2
      go_roundw
      case rel => exact ⟨k + 1, by omega, by go_num, by rw [HRC.out]; exact HOW6.out, HB6.out⟩
      case measure => simp [intOf]; omega
    · obtain rfl : k = n := by omega
      have hte : (l.map redR).take k = l.map redR := List.take_of_length_le (by simp; have := HN.out; omega)
      have HTE := Lib.hid hte
      clear hte hO hbl
      go_wp2
      go_ret
      exact ⟨_, rfl, by have h := HO.out; rw [HTE.out] at h; exact ownsRow_isRecs h (by simp; exact HN.out.symm) (redR_wide l), HB.out⟩

set_option maxHeartbeats 4000000 in
set_option maxRecDepth 100000 in
/-- Two lists of motions that are the same are found equal. -/
theorem eqmot_same (v u : Value) (l : List Rec) (w : World) (hv : IsRecs 3 w v l) (hu : IsRecs 3 w u l) (hl : l.length ≤ 64) :
    Calls Try.prog 26 #[v, u] w (Quiet (.bool true) w) := by
  obtain ⟨va, vc, rfl, v1, v2, v3⟩ := hv
  obtain ⟨ua, uc, rfl, u1, u2, u3⟩ := hu
  obtain ⟨q, hq⟩ : ∃ q, l.length = q := ⟨_, rfl⟩
  rw [hq] at v1 v3 u1 u3 hl ⊢
  have V3 := Lib.hid v3
  have U3 := Lib.hid u3
  have hq' : (q : Int) ≤ 64 := by omega
  clear v3 u3 hq v2 u2
  go_enter Try.func26, Try.ntmps26
  go_wp2_with fail
  go_loopw [5] (fun i wr => ∃ k d : Nat, k ≤ q ∧ i = .int .i64 k ∧ wr = w.drewN d) (fun i _ => q - (intOf i).toNat)
  case atStart => exact ⟨0, 0, Nat.zero_le _, rfl, rfl⟩
  case round =>
    obtain ⟨k, d, hk, rfl, rfl⟩ := hrel
    by_cases hkq : k < q
    · obtain ⟨b1, o1, rfl, -, c1⟩ := V3.out (by omega)
      obtain ⟨b2, o2, rfl, -, c2⟩ := U3.out (by omega)
      have x0 := c1 k hkq 0 (by omega)
      have x1 := c1 k hkq 1 (by omega)
      have x2 := c1 k hkq 2 (by omega)
      have y0 := c2 k hkq 0 (by omega)
      have y1 := c2 k hkq 1 (by omega)
      have y2 := c2 k hkq 2 (by omega)
      rw [Nat.add_zero] at x0 y0
      have hkq' : (k : Int) < (q : Int) := by omega
      clear c1 c2
      go_wp2_with fail
      go_quiet (fail)
      go_wp2
      go_roundw
      case rel => exact ⟨k + 1, _, by omega, by go_num, rfl⟩
      case measure => simp [intOf]; omega
    · obtain rfl : k = q := by omega
      go_wp2
      go_ret
      exact ⟨rfl, d, rfl⟩
end Go.Proofs.Ytfcffmjmohkpoaa

