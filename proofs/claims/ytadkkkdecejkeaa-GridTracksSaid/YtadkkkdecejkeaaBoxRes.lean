/- Resolve of package box. -/
import Derived.Test.YtadkkkdecejkeaaBoxStep
import Derived.Test.YtadkkkdecejkeaaSrc
import Derived.Deep.LoopGhost
namespace Go.Proofs.Ytadkkkdecejkeaa
open Go.RowKit
attribute [local go_sem ↓] Go.wp_at_zero Go.wp_at_succ
set_option linter.unusedVariables false
set_option linter.unusedSimpArgs false

section
variable {X SZ FR : Nat} {vl vw : Value} {n : Nat} {sp : Int} {g : Bool} {st : St} {w : World}
theorem Line.setG (h : Line X SZ FR vl vw n sp g st w) (g' : Bool) : Line X SZ FR vl vw n sp g' st (w.setCell ⟨X, 2, none⟩ (.bool g')) := by
  refine ⟨?_, h.s.set_other h.xs 2 _, h.f.set_other h.xf 2 _, h.xs, h.xf, h.sf⟩
  have := h.x
  simp [World.setCell, this, Array.getElem?_modify]
theorem Line.setW (h : Line X SZ FR vl vw n sp g st w) (v' : Value) : Line X SZ FR vl v' n sp g st (w.setCell ⟨X, 3, none⟩ v') := by
  refine ⟨?_, h.s.set_other h.xs 3 _, h.f.set_other h.xf 3 _, h.xs, h.xf, h.sf⟩
  have := h.x
  simp [World.setCell, this, Array.getElem?_modify]
theorem Line.grown {w' : World} {row : Option Nat} (h : Line X SZ FR vl vw n sp g st w) (hg : w.grownBy w' row) (h1 : some X ≠ row) (h2 : some SZ ≠ row) (h3 : some FR ≠ row) : Line X SZ FR vl vw n sp g st w' := by
  have hl := h.lt
  refine ⟨(hg.block X hl.1 h1).trans h.x, ?_, ?_, h.xs, h.xf, h.sf⟩
  · have := h.s; unfold OwnI at this ⊢; exact (hg.block SZ hl.2.1 h2).trans this
  · have := h.f; unfold OwnB at this ⊢; exact (hg.block FR hl.2.2 h3).trans this
end
/-- The first k bools of a list, then false. -/
def stageB (f : List Bool) (k : Nat) : List Bool := f.take k ++ List.replicate (f.length - k) false
theorem stageB_len (f : List Bool) (k : Nat) : (stageB f k).length = f.length := by simp [stageB]; omega
theorem stageB_zero (f : List Bool) : stageB f 0 = List.replicate f.length false := by simp [stageB]
theorem stageB_all (f : List Bool) : stageB f f.length = f := by simp [stageB]
theorem stageB_set (f : List Bool) (k : Nat) (h : k < f.length) : (stageB f k).set k (gb f k) = stageB f (k + 1) := by
  apply List.ext_getElem?
  intro j
  simp only [stageB, gb, List.getElem?_set, List.length_append, List.length_take, List.length_replicate, List.getElem?_append, List.getElem?_take, List.getElem?_replicate]
  have e1 : min k f.length = k := by omega
  have e2 : min (k + 1) f.length = k + 1 := by omega
  rw [e1, e2]
  by_cases c : k = j
  · subst c
    have : k < k + (f.length - k) := by omega
    simp [this, h]
  · by_cases d : j < k
    · simp [c, d, Nat.lt_succ_of_lt d]
    · have d' : ¬ j < k + 1 := by omega
      simp only [c, d, d', if_false]
      congr 1
      exact propext ⟨fun _ => by omega, fun _ => by omega⟩
def wTo (l : List Rec) (g : Bool) (k : Nat) : List Int := (List.range k).map (wOf l g)
theorem wTo_len (l : List Rec) (g : Bool) (k : Nat) : (wTo l g k).length = k := by simp [wTo]
theorem wTo_succ (l : List Rec) (g : Bool) (k : Nat) : wTo l g (k + 1) = wTo l g k ++ [wOf l g k] := by simp [wTo, List.range_succ]
theorem wTo_at {l : List Rec} {g : Bool} {k i : Nat} (h : i < k) : gz (wTo l g k) i = wOf l g i := by simp [wTo, gz, h]
theorem size0_sum {l : List Rec} (h : flexTo l l.length) : ∀ k, k ≤ l.length → 0 ≤ sumTo (size0 l) k ∧ sumTo (size0 l) k ≤ 1048576 * (k : Int)
  | 0, _ => by simp [sumTo]
  | k + 1, hk => by
    have := size0_sum h k (by omega)
    have hc := cl_bd (h k (by omega)) (gf l k 0)
    simp only [sumTo]
    rw [size0_at (by omega)]
    omega

theorem Turn.below {a b B : Nat} {u v : World} (h : Turn a b u v) (ha : B ≤ a) (hb : B ≤ b) (hB : B ≤ u.heap.size) : Below B u v := ⟨h.os, h.tape, h.output, h.size, fun k hk => h.block k (by omega) (by omega) (by omega)⟩
theorem own_turn2 {a b base e sz k : Nat} {v : Value} {xs : List Value} {w w' : World} (h : w.ownsRow base e sz v k xs) (ht : Turn a b w w') (ha : a < base) (hb : b < base) : w'.ownsRow base e sz v k xs := by
  refine ⟨h.1, ?_⟩
  rcases h.2 with hn | ⟨g, cap, cur, rfl, hg, hgg, rest⟩
  · exact .inl hn
  · exact .inr ⟨g, cap, cur, rfl, hg, (ht.block g (lt_of_block hgg) (by omega) (by omega)).trans hgg, rest⟩
theorem finB_next {l : List Rec} {g : Bool} {sp : Int} {m : Nat} {st : St} (hm : st.2.count false ≤ m) (h : st.2.count false ≠ 0) :
    (stepB l g sp st).2.count false ≤ m - 1 ∧ finB l g sp m st = finB l g sp (m - 1) (stepB l g sp st) ∧ m - 1 < m := by
  cases m with
  | zero => omega
  | succ m =>
    have := step_count (l := l) (g := g) (sp := sp) h
    exact ⟨by simp; omega, by simp only [finB]; rw [if_neg h]; rfl, by omega⟩
theorem own_set2 {w6 : World} {base e sz k X FR i j : Nat} {v u z : Value} {xs : List Value} (h : w6.ownsRow base e sz v k xs) (hX : X < base) (hF : FR < base) : ((w6.setCell ⟨X, i, none⟩ u).setCell ⟨FR, j, none⟩ z).ownsRow base e sz v k xs := by
  have h1 := h.kept (grownBy_set w6 X i u) (.inr fun e => by have := (h.lt _ e).1; omega)
  exact h1.kept (grownBy_set (w6.setCell ⟨X, i, none⟩ u) FR j z) (.inr fun e => by have := (h.lt _ e).1; omega)
theorem Line.two {X SZ FR : Nat} {vl vw v' : Value} {n : Nat} {sp : Int} {g : Bool} {s : List Int} {f : List Bool} {w : World} (h : Line X SZ FR vl vw n sp g (s, f) w) (k : Nat) (b : Bool) :
    Line X SZ FR vl v' n sp g (s, f.set k b) ((w.setCell ⟨X, 3, none⟩ v').setCell ⟨FR, k, none⟩ (.bool b)) := (h.setW v').setF k b
theorem below_set2 {B X FR i j : Nat} {a w6 : World} {u z : Value} (h : Below B a w6) (hX : B ≤ X) (hF : B ≤ FR) : Below B a ((w6.setCell ⟨X, i, none⟩ u).setCell ⟨FR, j, none⟩ z) :=
  (h.setCell (p := ⟨X, i, none⟩) hX u).setCell (p := ⟨FR, j, none⟩) hF z
theorem size_set2 {B X FR i j : Nat} {w6 : World} {u z : Value} (h : B ≤ w6.heap.size) : B ≤ ((w6.setCell ⟨X, i, none⟩ u).setCell ⟨FR, j, none⟩ z).heap.size := by simpa [World.setCell] using h
/-- What Resolve leaves. -/
def Resolved (av gp : Int) (l : List Rec) (w : World) (e : Ending) (w' : World) : Prop :=
  ∃ v, e = .returned (.tuple #[v, .int .i64 (flexErr av gp l)]) ∧ IsInts w' v (resL av gp l) ∧ Below w.heap.size w w'
/-- The same, and the sizes lie in a block of the call's own. -/
def ResolvedN (av gp : Int) (l : List Rec) (w : World) (e : Ending) (w' : World) : Prop :=
  ∃ v, e = .returned (.tuple #[v, .int .i64 (flexErr av gp l)]) ∧ IsInts w' v (resL av gp l) ∧ Below w.heap.size w w' ∧ freshV w.heap.size v
theorem ResolvedN.res {av gp : Int} {l : List Rec} {w w' : World} {e : Ending} (h : ResolvedN av gp l w e w') : Resolved av gp l w e w' := by
  obtain ⟨v, h1, h2, h3, -⟩ := h
  exact ⟨v, h1, h2, h3⟩

set_option maxHeartbeats 2000000 in
theorem bres_no (v : Value) (av gp : Int) (l : List Rec) (w : World) (hv : IsRecs 5 w v l) (he : flexErr av gp l ≠ 0) : Calls Try.prog 32 #[.int .i64 av, .int .i64 gp, v] w (ResolvedN av gp l w) := by
  have HV := Lib.hid hv
  have HR : Hid (resL av gp l = []) := by show _ = _; unfold resL; rw [if_neg he]
  obtain ⟨c, hc⟩ : ∃ c, flexErr av gp l = c := ⟨_, rfl⟩
  have HC := Lib.hid hc
  rw [hc] at he
  have e1 : (c != 0) = true := by simpa using he
  clear hv hc he
  go_enter Try.func32, Try.ntmps32
  go_wp2_with (go_at_call 44; refine (bvalid_any _ _ _ l _ HV.out).mono ?_; rw [HC.out]; rintro e w1 ⟨rfl, hb⟩)
  go_ret2
  exact ⟨.slice none 0 0, by rw [HC.out]; rfl, by rw [HR.out]; exact IsInts.nil _, hb, freshV.nil _ _ _⟩

set_option maxHeartbeats 20000000 in
set_option maxRecDepth 100000 in
theorem bres_ok (a : Option Addr) (cap n : Nat) (av gp : Int) (l : List Rec) (w : World) (hv : IsRecs 5 w (.slice a n cap) l) (HN : Hid (l.length = n)) (hn : n ≤ 100) (ha : 0 ≤ av ∧ av ≤ 1048576) (hg : 0 ≤ gp ∧ gp ≤ 1048576) (hf : flexTo l l.length) (he : flexErr av gp l = 0)
    (H3 : Hid (0 < n → ∃ b off, a = some ⟨b, off, none⟩ ∧ b < w.heap.size ∧ ∀ i, i < n → ∀ j, j < 5 → w.cell? ⟨b, off + i * 5 + j, none⟩ = some (.int .i64 (gf l i j)))) :
    Calls Try.prog 32 #[.int .i64 av, .int .i64 gp, .slice a n cap] w (ResolvedN av gp l w) := by
  obtain ⟨i0, hi0, hz0, hz1, hz2⟩ := info_parts info_int1
  have HV := Lib.hid hv
  have HE := Lib.hid he
  have HF := Lib.hid hf
  have hsp := spTo_bd (av := av) (gp := gp) ha.1 ha.2 hg.1 hg.2 hn
  have hn' : (n : Int) ≤ 100 := by omega
  have HR : Hid (resL av gp l = resOk av gp l) := by show _ = _; unfold resL; rw [if_pos he]
  obtain ⟨ha0, ha1⟩ := ha
  obtain ⟨hg0, hg1⟩ := hg
  clear hv he hf
  go_enter Try.func32, Try.ntmps32
  go_wp2_with (go_at_call 44; refine (bvalid_any _ _ _ l _ HV.out).mono ?_; rw [HE.out]; rintro e w1 ⟨rfl, hb⟩)
  have HB1 : Hid (Below w.heap.size w w1) := by assumption
  go_cut [9] (fun s9 wx => ∃ X SZ FR, s9 = .pointer (some ⟨X, 0, none⟩) ∧ Line X SZ FR (.slice a n cap) (.slice none 0 0) n (spTo av gp n) false (List.replicate n 0, List.replicate n false) wx ∧ (w1.heap.size ≤ X ∧ w1.heap.size ≤ SZ ∧ w1.heap.size ≤ FR) ∧ Below w1.heap.size w1 wx)
  case first =>
    have hmk := make_ints n (by omega)
    have hmb := make_bools n (by omega)
    have HLA : Hid (∀ sp', Line (w1.heap.size + 1 + 1) w1.heap.size (w1.heap.size + 1) (.slice a n cap) (.slice none 0 0) n sp' false (List.replicate n 0, List.replicate n false) ((((w1.alloc (.cells (madeCells #[.int .i64 0] n) 3)).alloc (.cells (madeCells #[.bool false] n) 4)).alloc (.cells #[.slice a n cap, .int .i64 sp', .bool false, .slice none 0 0, .slice (some ⟨w1.heap.size, 0, none⟩) n n, .slice (some ⟨w1.heap.size + 1, 0, none⟩) n n] 71)))) := fun sp' => by
      refine ⟨?_, ((OwnI.made w1 n).alloc _).alloc _, ?_, by omega, by omega, by omega⟩
      · have := heap_alloc_new ((w1.alloc (.cells (madeCells #[.int .i64 0] n) 3)).alloc (.cells (madeCells #[.bool false] n) 4)) (.cells #[.slice a n cap, .int .i64 sp', .bool false, .slice none 0 0, .slice (some ⟨w1.heap.size, 0, none⟩) n n, .slice (some ⟨w1.heap.size + 1, 0, none⟩) n n] 71)
        rwa [World.size_alloc, World.size_alloc] at this
      · have := (OwnB.made (w1.alloc (.cells (madeCells #[.int .i64 0] n) 3)) n).alloc (.cells #[.slice a n cap, .int .i64 sp', .bool false, .slice none 0 0, .slice (some ⟨w1.heap.size, 0, none⟩) n n, .slice (some ⟨w1.heap.size + 1, 0, none⟩) n n] 71)
        rwa [World.size_alloc] at this
    have HLB : Hid (∀ sp', Line (w1.heap.size + 1 + 1) (w1.heap.size + 1) w1.heap.size (.slice a n cap) (.slice none 0 0) n sp' false (List.replicate n 0, List.replicate n false) ((((w1.alloc (.cells (madeCells #[.bool false] n) 4)).alloc (.cells (madeCells #[.int .i64 0] n) 3)).alloc (.cells #[.slice a n cap, .int .i64 sp', .bool false, .slice none 0 0, .slice (some ⟨w1.heap.size + 1, 0, none⟩) n n, .slice (some ⟨w1.heap.size, 0, none⟩) n n] 71)))) := fun sp' => by
      refine ⟨?_, ?_, ((OwnB.made w1 n).alloc _).alloc _, by omega, by omega, by omega⟩
      · have := heap_alloc_new ((w1.alloc (.cells (madeCells #[.bool false] n) 4)).alloc (.cells (madeCells #[.int .i64 0] n) 3)) (.cells #[.slice a n cap, .int .i64 sp', .bool false, .slice none 0 0, .slice (some ⟨w1.heap.size + 1, 0, none⟩) n n, .slice (some ⟨w1.heap.size, 0, none⟩) n n] 71)
        rwa [World.size_alloc, World.size_alloc] at this
      · have := (OwnI.made (w1.alloc (.cells (madeCells #[.bool false] n) 4)) n).alloc (.cells #[.slice a n cap, .int .i64 sp', .bool false, .slice none 0 0, .slice (some ⟨w1.heap.size + 1, 0, none⟩) n n, .slice (some ⟨w1.heap.size, 0, none⟩) n n] 71)
        rwa [World.size_alloc] at this
    have HBB : Hid (∀ o1 o2 o3, Below w1.heap.size w1 (((w1.alloc o1).alloc o2).alloc o3).drew) := fun o1 o2 o3 => ((((Below.refl _ _).alloc (Nat.le_refl _) _).alloc (by simp) _).alloc (by simp; omega) _).drew
    by_cases hp : 0 < n
    · have hp' : (1 : Int) ≤ (n : Int) := by omega
      have hsp : Hid (spTo av gp n = av - gp * ((n : Int) - 1)) := by show _ = _; unfold spTo; congr 2; omega
      have hmul := mul_bd (a := gp) (b := (n : Int) - 1) (m := 1048576) (k := 100) hg0 (by omega) hg1 (by omega)
      go_region
      all_goals
        go_wp2
        go_meet
        rw [hsp.out]
        first
          | exact ⟨_, _, _, rfl, (HLA.out _).drew, ⟨by omega, by omega, by omega⟩, HBB.out _ _ _⟩
          | exact ⟨_, _, _, rfl, (HLB.out _).drew, ⟨by omega, by omega, by omega⟩, HBB.out _ _ _⟩
    · obtain rfl : n = 0 := by omega
      have hmk0 : ∀ w : World, (Instr.makeSlice 26 (.int .i64 0) (.int .i64 0)).run Try.prog w = .ok (.slice (some ⟨w.heap.size, 0, none⟩) 0 0) (w.alloc (.cells (madeCells #[.int .i64 0] 0) 3)) := make_ints 0 (by omega)
      have hmb0 : ∀ w : World, (Instr.makeSlice 69 (.int .i64 0) (.int .i64 0)).run Try.prog w = .ok (.slice (some ⟨w.heap.size, 0, none⟩) 0 0) (w.alloc (.cells (madeCells #[.bool false] 0) 4)) := make_bools 0 (by omega)
      have hsp : Hid (spTo av gp 0 = av) := by show _ = _; simp [spTo]
      go_region
      all_goals
        go_wp2
        go_meet
        rw [hsp.out]
        first
          | exact ⟨_, _, _, rfl, (HLA.out _).drew, ⟨by omega, by omega, by omega⟩, HBB.out _ _ _⟩
          | exact ⟨_, _, _, rfl, (HLB.out _).drew, ⟨by omega, by omega, by omega⟩, HBB.out _ _ _⟩
  case rest =>
    obtain ⟨X, SZ, FR, rfl, hL, hX, hb2⟩ := hcut
    obtain ⟨w2, rfl⟩ : ∃ x : World, x = wc := ⟨_, rfl⟩
    obtain ⟨sp, hspe⟩ : ∃ sp, spTo av gp n = sp := ⟨_, rfl⟩
    rw [hspe] at hL hsp
    have HSP := Lib.hid hspe
    have HX := Lib.hid hX
    have HZL : Hid ((size0 l).length = n) := by show _ = _; rw [size0_len]; exact HN.out
    have HFL : Hid (∀ G, (frozen0 l G).length = n) := fun G => by rw [frozen0_len]; exact HN.out
    have HL2 : Hid (Line X SZ FR (.slice a n cap) (.slice none 0 0) n sp false (stage (size0 l) 0, List.replicate n false) w2) := by
      rw [stage_zero, HZL.out]; exact hL
    have HB2 := Lib.hid hb2
    have HSB : Hid (∀ k, k ≤ n → 0 ≤ sumTo (size0 l) k ∧ sumTo (size0 l) k ≤ 1048576 * (k : Int)) := fun k hk => size0_sum HF.out k (by rw [HN.out]; exact hk)
    have HC3 : Hid (∀ (wr : World), Below w1.heap.size w1 wr → ∀ b off, a = some ⟨b, off, none⟩ → b < w.heap.size → (∀ i, i < n → ∀ j, j < 5 → w.cell? ⟨b, off + i * 5 + j, none⟩ = some (.int .i64 (gf l i j))) → ∀ k, k < n → ∀ j, j < 5 → wr.cell? ⟨b, off + k * 5 + j, none⟩ = some (.int .i64 (gf l k j))) := fun wr h b off _ hlt hc k hk j hj =>
      ((h.cell (p := ⟨b, off + k * 5 + j, none⟩) (Nat.lt_of_lt_of_le hlt HB1.out.size)).trans (HB1.out.cell (p := ⟨b, off + k * 5 + j, none⟩) hlt)).trans (hc k hk j hj)
    clear hL hX hb2 hspe
    go_wp2_with fail
    go_loopw [10, 43] (fun s i wr => ∃ k : Nat, k ≤ n ∧ i = .int .i64 k ∧ s = .int .i64 (sumTo (size0 l) k) ∧ Line X SZ FR (.slice a n cap) (.slice none 0 0) n sp false (stage (size0 l) k, List.replicate n false) wr ∧ Below w1.heap.size w1 wr) (fun _ i _ => n - (intOf i).toNat)
    case atStart => exact ⟨0, Nat.zero_le _, rfl, rfl, HL2.out, HB2.out⟩
    case round =>
      obtain ⟨k, hk, rfl, rfl, hLk, hbl⟩ := hrel
      have HLk := Lib.hid hLk
      have HB := Lib.hid hbl
      have hsb := HSB.out k hk
      obtain ⟨S, hS⟩ : ∃ S, sumTo (size0 l) k = S := ⟨_, rfl⟩
      rw [hS] at hsb ⊢
      have HSS := Lib.hid hS
      clear hLk hbl hS
      by_cases hkn : k < n
      ·
        obtain ⟨b, off, rfl, hlt, hcell⟩ := H3.out (by omega)
        have k0 := HC3.out wr HB.out b off rfl hlt hcell k hkn 0 (by omega)
        have k1 := HC3.out wr HB.out b off rfl hlt hcell k hkn 1 (by omega)
        have k2 := HC3.out wr HB.out b off rfl hlt hcell k hkn 2 (by omega)
        have k3 := HC3.out wr HB.out b off rfl hlt hcell k hkn 3 (by omega)
        have k4 := HC3.out wr HB.out b off rfl hlt hcell k hkn 4 (by omega)
        rw [Nat.add_zero] at k0
        have hcb := cl_bd (HF.out k (by rw [HN.out]; exact hkn)) (gf l k 0)
        have HZK : Hid (gz (size0 l) k = clampZ (gf l k 0) (gf l k 1) (gf l k 2)) := size0_at (by rw [HN.out]; exact hkn)
        have HSN : Hid (sumTo (size0 l) (k + 1) = S + gz (size0 l) k) := by show _ = _; simp only [sumTo]; rw [HSS.out]
        unfold cl at hcb
        obtain ⟨q0, hq0⟩ : ∃ q, gf l k 0 = q := ⟨_, rfl⟩
        obtain ⟨q1, hq1⟩ : ∃ q, gf l k 1 = q := ⟨_, rfl⟩
        obtain ⟨q2, hq2⟩ : ∃ q, gf l k 2 = q := ⟨_, rfl⟩
        obtain ⟨q3, hq3⟩ : ∃ q, gf l k 3 = q := ⟨_, rfl⟩
        obtain ⟨q4, hq4⟩ : ∃ q, gf l k 4 = q := ⟨_, rfl⟩
        rw [hq0] at k0 hcb HZK
        rw [hq1] at k1 hcb HZK
        rw [hq2] at k2 hcb HZK
        rw [hq3] at k3
        rw [hq4] at k4
        obtain ⟨C, hC⟩ : ∃ C, clampZ q0 q1 q2 = C := ⟨_, rfl⟩
        rw [hC] at hcb HZK
        rw [HZK.out] at HSN
        have HCC := Lib.hid hC
        have hkn' : (k : Int) < (n : Int) := by omega
        have hk0 : (0 : Int) ≤ (k : Int) := by omega
        have HL5 : Hid (Line X SZ FR (.slice (some ⟨b, off, none⟩) n cap) (.slice none 0 0) n sp false (stage (size0 l) k, List.replicate n false) (wr.alloc (.cells #[.int .i64 q0, .int .i64 q1, .int .i64 q2, .int .i64 q3, .int .i64 q4] 60))) := HLk.out.below ((Below.refl wr.heap.size wr).alloc (Nat.le_refl _) _) (Nat.le_refl _)
        have HB5 : Hid (Below w1.heap.size w1 (wr.alloc (.cells #[.int .i64 q0, .int .i64 q1, .int .i64 q2, .int .i64 q3, .int .i64 q4] 60))) := HB.out.alloc HB.out.size _
        have HCP : Hid ((wr.alloc (.cells #[.int .i64 q0, .int .i64 q1, .int .i64 q2, .int .i64 q3, .int .i64 q4] 60)).cell? ⟨wr.heap.size, 0, none⟩ = some (.int .i64 q0)) := by show _ = _; go_simp
        clear hq0 hq1 hq2 hq3 hq4 hC
        go_wp2_with fail
        obtain ⟨W5, hW5⟩ : ∃ W5, wr.alloc (.cells #[.int .i64 q0, .int .i64 q1, .int .i64 q2, .int .i64 q3, .int .i64 q4] 60) = W5 := ⟨_, rfl⟩
        have HCX : Hid (W5.cell? ⟨b, off + k * 5 + 1, none⟩ = some (.int .i64 q1) ∧ W5.cell? ⟨b, off + k * 5 + 2, none⟩ = some (.int .i64 q2)) := by
          rw [← hW5]
          exact ⟨(World.cell?_alloc_lt wr _ ⟨b, off + k * 5 + 1, none⟩ (World.block_lt_of_cell? wr _ k1)).trans k1, (World.cell?_alloc_lt wr _ ⟨b, off + k * 5 + 2, none⟩ (World.block_lt_of_cell? wr _ k2)).trans k2⟩
        rw [hW5] at HL5 HB5 HCP ⊢
        obtain ⟨G5, hG5⟩ : ∃ G, wr.heap.size = G := ⟨_, rfl⟩
        rw [hG5] at HCP ⊢
        clear hW5 hG5 k0 k1 k2 k3 k4 hlt hcell
        obtain ⟨x0, x1, x2, x3, x4, x5⟩ := HL5.out.cells
        have HX04 : Hid (W5.cell? ⟨X, 4, none⟩ = some (.slice (some ⟨SZ, 0, none⟩) n n)) := x4
        have HCLQ : Hid (∀ d, Calls Try.prog 45 #[.pointer (some ⟨X, 0, none⟩), .int .i64 (k : Int), .int .i64 q0] (W5.drewN d) (Quiet (.int .i64 C) (W5.drewN d))) := fun d => by
          have hq := lclamp_any X k n cap b off q0 q1 q2 (W5.drewN d) HL5.out.cells.1 HCX.out.1 HCX.out.2 hkn hn
          rw [HCC.out] at hq
          exact hq
        have fS := HL5.out.s.free k
        have cS := HL5.out.s.cell (i := k) (by rw [length_stage, HZL.out]; exact hkn)
        have HL6 : Hid (∀ d, Line X SZ FR (.slice (some ⟨b, off, none⟩) n cap) (.slice none 0 0) n sp false (stage (size0 l) (k + 1), List.replicate n false) ((W5.drewN d).setCell ⟨SZ, k, none⟩ (.int .i64 C))) := fun d => by
          have := (HL5.out.drewN d).setS k C
          rw [← HZK.out] at this ⊢
          rwa [show ((stage (size0 l) k, List.replicate n false) : St).1.set k (gz (size0 l) k) = stage (size0 l) (k + 1) from stage_set _ _ (by rw [HZL.out]; exact hkn)] at this
        have HB6 : Hid (∀ d, Below w1.heap.size w1 ((W5.drewN d).setCell ⟨SZ, k, none⟩ (.int .i64 C))) := fun d => (Below_drewN HB5.out d).setCell (p := ⟨SZ, k, none⟩) HX.out.2.1 _
        clear x0 x1 x2 x3 x4 x5
        refine wp_region_T (S := (fun w' => w'.cell? ⟨X, 4, none⟩ = some (.slice (some ⟨SZ, 0, none⟩) n n) ∧ w'.cell? ⟨G5, 0, none⟩ = some (.int .i64 q0))) 11 (by kernel_rfl) (⟨HX04.out, HCP.out⟩) (fun hHeld => ?_)
        refine wpAnyT_take (i := 0) (v := ?_) rfl (by decide +kernel) (by decide +kernel) (by decide +kernel) (by decide +kernel) (by decide +kernel) (fun _ _ _ h => h) (Or.inl ⟨by rfl, ?_⟩) (by assumption) ?_
        rotate_left
        · intro w hSw; (try dsimp only at hSw); first | (go_simp; done) | (go_simp; with_reducible rfl)
        try simp only [Act.put, List.getElem_toArray, List.getElem_cons_succ, List.getElem_cons_zero, List.setIfInBounds_toArray, List.set_cons_zero, List.set_cons_succ]
        refine wpAnyT_take (i := 1) (v := ?_) rfl (by decide +kernel) (by decide +kernel) (by decide +kernel) (by decide +kernel) (by decide +kernel) (fun _ _ _ h => h) (Or.inl ⟨by rfl, ?_⟩) (by assumption) ?_
        rotate_left
        · intro w hSw; (try dsimp only at hSw); first | (go_simp; done) | (go_simp; with_reducible rfl)
        try simp only [Act.put, List.getElem_toArray, List.getElem_cons_succ, List.getElem_cons_zero, List.setIfInBounds_toArray, List.set_cons_zero, List.set_cons_succ]
        refine wpAnyT_take (i := 2) (v := ?_) rfl (by decide +kernel) (by decide +kernel) (by decide +kernel) (by decide +kernel) (by decide +kernel) (fun _ _ _ h => h) (Or.inl ⟨by rfl, ?_⟩) (by assumption) ?_
        rotate_left
        · intro w hSw; (try dsimp only at hSw); first | (go_simp; done) | (go_simp; with_reducible rfl)
        try simp only [Act.put, List.getElem_toArray, List.getElem_cons_succ, List.getElem_cons_zero, List.setIfInBounds_toArray, List.set_cons_zero, List.set_cons_succ]
        refine wpAnyT_take (i := 3) (v := ?_) rfl (by decide +kernel) (by decide +kernel) (by decide +kernel) (by decide +kernel) (by decide +kernel) (fun _ _ _ h => h) (Or.inl ⟨by rfl, ?_⟩) (by assumption) ?_
        rotate_left
        · intro w hSw; (try dsimp only at hSw); first | (go_simp; done) | (go_simp; with_reducible rfl)
        try simp only [Act.put, List.getElem_toArray, List.getElem_cons_succ, List.getElem_cons_zero, List.setIfInBounds_toArray, List.set_cons_zero, List.set_cons_succ]
        refine wpAnyT_take (i := 4) (v := ?_) rfl (by decide +kernel) (by decide +kernel) (by decide +kernel) (by decide +kernel) (by decide +kernel) (fun _ _ _ h => h) (Or.inl ⟨by rfl, ?_⟩) (by assumption) ?_
        rotate_left
        · intro w hSw; (try dsimp only at hSw); first | (go_simp; done) | (go_simp; with_reducible rfl)
        try simp only [Act.put, List.getElem_toArray, List.getElem_cons_succ, List.getElem_cons_zero, List.setIfInBounds_toArray, List.set_cons_zero, List.set_cons_succ]
        refine wpAnyT_take (i := 5) (v := ?_) rfl (by decide +kernel) (by decide +kernel) (by decide +kernel) (by decide +kernel) (by decide +kernel) (fun _ _ _ h => h) (Or.inl ⟨by rfl, ?_⟩) (by assumption) ?_
        rotate_left
        · intro w hSw; (try dsimp only at hSw); first | (go_simp; done) | (go_simp; with_reducible rfl)
        try simp only [Act.put, List.getElem_toArray, List.getElem_cons_succ, List.getElem_cons_zero, List.setIfInBounds_toArray, List.set_cons_zero, List.set_cons_succ]
        refine wpAnyT_take (i := 6) (v := ?_) rfl (by decide +kernel) (by decide +kernel) (by decide +kernel) (by decide +kernel) (by decide +kernel) (fun _ _ _ h => h) (Or.inl ⟨by rfl, ?_⟩) (by assumption) ?_
        rotate_left
        · intro w hSw; (try dsimp only at hSw); first | (go_simp; done) | (go_simp; with_reducible rfl)
        try simp only [Act.put, List.getElem_toArray, List.getElem_cons_succ, List.getElem_cons_zero, List.setIfInBounds_toArray, List.set_cons_zero, List.set_cons_succ]
        refine wpAnyT_take (i := 7) (v := ?_) rfl (by decide +kernel) (by decide +kernel) (by decide +kernel) (by decide +kernel) (by decide +kernel) (fun _ _ _ h => h) (Or.inl ⟨by rfl, ?_⟩) (by assumption) ?_
        rotate_left
        · intro w hSw; (try dsimp only at hSw); first | (go_simp; done) | (go_simp; with_reducible rfl)
        try simp only [Act.put, List.getElem_toArray, List.getElem_cons_succ, List.getElem_cons_zero, List.setIfInBounds_toArray, List.set_cons_zero, List.set_cons_succ]
        refine wpAnyT_take (i := 8) (v := ?_) rfl (by decide +kernel) (by decide +kernel) (by decide +kernel) (by decide +kernel) (by decide +kernel) (fun _ _ _ h => h) (Or.inl ⟨by rfl, ?_⟩) (by assumption) ?_
        rotate_left
        · intro w hSw; (try dsimp only at hSw); first | (go_simp; done) | (go_simp; with_reducible rfl)
        try simp only [Act.put, List.getElem_toArray, List.getElem_cons_succ, List.getElem_cons_zero, List.setIfInBounds_toArray, List.set_cons_zero, List.set_cons_succ]
        refine wpAnyT_one (i := 9) (by kernel_rfl) rfl (fun K hK => ?_)
        go_simp
        (refine (HCLQ.out 1).mono ?_; rintro e w' ⟨rfl, d, rfl⟩)
        refine hK.out _ _ ?_ (fun hHeld2 => ?_)
        · (try dsimp only); exact ⟨HX04.out, HCP.out⟩
        clear hK K hHeld
        have hHeld := hHeld2
        clear hHeld2
        try simp only [Act.put, List.getElem_toArray, List.getElem_cons_succ, List.getElem_cons_zero, List.setIfInBounds_toArray, List.set_cons_zero, List.set_cons_succ]
        refine wpAnyT_take (i := 10) (v := ?_) rfl (by decide +kernel) (by decide +kernel) (by decide +kernel) (by decide +kernel) (by decide +kernel) (fun _ _ _ h => h) (Or.inl ⟨by rfl, ?_⟩) (by assumption) ?_
        rotate_left
        · intro w hSw; (try dsimp only at hSw); first | (go_simp; done) | (go_simp; with_reducible rfl)
        try simp only [Act.put, List.getElem_toArray, List.getElem_cons_succ, List.getElem_cons_zero, List.setIfInBounds_toArray, List.set_cons_zero, List.set_cons_succ]
        refine wpAnyT_last (i := 11) (by kernel_rfl) (by kernel_rfl) rfl (by kernel_rfl) (fun K hK => ?_)
        go_simp
        refine hK.out _ _ ?_
        clear hK K
        try simp only [Act.put, List.getElem_toArray, List.getElem_cons_succ, List.getElem_cons_zero, List.setIfInBounds_toArray, List.set_cons_zero, List.set_cons_succ]
        clear hHeld fS cS
        have z4 := fun d => (HL6.out d).cells.2.2.2.2.1
        have zS : ∀ d, ((W5.drewN d).setCell ⟨SZ, k, none⟩ (.int .i64 C)).cell? ⟨SZ, k, none⟩ = some (.int .i64 C) := fun d => by
          have := (HL6.out d).s.cell (i := k) (by show k < (stage _ _).length; rw [length_stage, HZL.out]; exact hkn)
          rw [this]
          show some (Value.int .i64 (gz (stage (size0 l) (k + 1)) k)) = _
          rw [← stage_set _ _ (by rw [HZL.out]; exact hkn), gz_set_same _ _ _ (by rw [length_stage, HZL.out]; exact hkn), HZK.out]
        go_wp2_with fail
        go_roundw
        case rel => exact ⟨k + 1, by omega, by go_num, by rw [HSN.out], HL6.out _, HB6.out _⟩
        case measure => simp [intOf]; omega
      · obtain rfl : n = k := by omega
        have hle : S ≤ 104857600 := by omega
        obtain ⟨G, hG⟩ : ∃ G, decide (S ≤ sp) = G := ⟨_, rfl⟩
        have HG : Hid (growsB av gp l = G) := by show _ = _; unfold growsB; rw [HN.out, HSS.out, HSP.out]; exact hG
        obtain ⟨x0, x1, x2, x3, x4, x5⟩ := HLk.out.cells
        have fX := HLk.out.free 2
        have HSA : Hid (stage (size0 l) n = size0 l) := by have := stage_all (size0 l); rwa [HZL.out] at this
        have HL7 : Hid (Line X SZ FR (.slice a n cap) (.slice none 0 0) n sp G (size0 l, stageB (frozen0 l G) 0) (wr.setCell ⟨X, 2, none⟩ (.bool G))) := by
          have := HLk.out.setG G
          rwa [HSA.out, ← HFL.out G, ← stageB_zero, HFL.out G] at this
        have HB7 : Hid (Below w1.heap.size w1 (wr.setCell ⟨X, 2, none⟩ (.bool G))) := HB.out.setCell (p := ⟨X, 2, none⟩) HX.out.1 _
        clear x0 x3 x4 x5
        go_wp2_with fail
        clear x1 x2 fX hG
        obtain ⟨w3, hw3⟩ : ∃ x, wr.setCell ⟨X, 2, none⟩ (.bool G) = x := ⟨_, rfl⟩
        rw [hw3] at HL7 HB7 ⊢
        clear hw3
        have HLT := HL7.out.lt
        have HLT3 := Lib.hid HLT
        clear HLT
        go_loopw [80] (fun i wr => ∃ (k : Nat) (vw : Value), k ≤ n ∧ i = .int .i64 k ∧ Line X SZ FR (.slice a n cap) vw n sp G (size0 l, stageB (frozen0 l G) k) wr ∧ wr.ownsRow w3.heap.size 3 1 vw k ((wTo l G k).map (Value.int .i64)) ∧ Below w1.heap.size w1 wr ∧ w3.heap.size ≤ wr.heap.size) (fun i _ => n - (intOf i).toNat)
        case atStart => exact ⟨0, _, Nat.zero_le _, rfl, HL7.out, World.ownsRow_nil _ _ _ _, HB7.out, Nat.le_refl _⟩
        case round =>
          obtain ⟨k, vw, hk2, rfl, hLk2, hO, hbl, hsz⟩ := hrel
          have HLk2 := Lib.hid hLk2
          have HO := Lib.hid hO
          have HB8 := Lib.hid hbl
          have HSZZ := Lib.hid hsz
          clear hLk2 hO hbl hsz
          by_cases hkn : k < n
          ·
            obtain ⟨b, off, rfl, hlt, hcell⟩ := H3.out (by omega)
            have k0 := HC3.out wr HB8.out b off rfl hlt hcell k hkn 0 (by omega)
            have k1 := HC3.out wr HB8.out b off rfl hlt hcell k hkn 1 (by omega)
            have k2 := HC3.out wr HB8.out b off rfl hlt hcell k hkn 2 (by omega)
            have k3 := HC3.out wr HB8.out b off rfl hlt hcell k hkn 3 (by omega)
            have k4 := HC3.out wr HB8.out b off rfl hlt hcell k hkn 4 (by omega)
            rw [Nat.add_zero] at k0
            have hfx := flexB_iff.1 (HF.out k (by rw [HN.out]; exact hkn))
            have HZK : Hid (gz (size0 l) k = clampZ (gf l k 0) (gf l k 1) (gf l k 2)) := size0_at (by rw [HN.out]; exact hkn)
            obtain ⟨q0, hq0⟩ : ∃ q, gf l k 0 = q := ⟨_, rfl⟩
            obtain ⟨q1, hq1⟩ : ∃ q, gf l k 1 = q := ⟨_, rfl⟩
            obtain ⟨q2, hq2⟩ : ∃ q, gf l k 2 = q := ⟨_, rfl⟩
            obtain ⟨q3, hq3⟩ : ∃ q, gf l k 3 = q := ⟨_, rfl⟩
            obtain ⟨q4, hq4⟩ : ∃ q, gf l k 4 = q := ⟨_, rfl⟩
            rw [hq0, hq1, hq2] at HZK
            rw [hq0, hq1, hq2, hq3, hq4] at hfx
            rw [hq0] at k0
            rw [hq1] at k1
            rw [hq2] at k2
            rw [hq3] at k3
            rw [hq4] at k4
            have HQ0 := Lib.hid hq0
            have HQ1 := Lib.hid hq1
            have HQ2 := Lib.hid hq2
            have HQ3 := Lib.hid hq3
            have HQ4 := Lib.hid hq4
            obtain ⟨C, hC⟩ : ∃ C, clampZ q0 q1 q2 = C := ⟨_, rfl⟩
            rw [hC] at HZK
            have HCC := Lib.hid hC
            have hkn' : (k : Int) < (n : Int) := by omega
            have hk0 : (0 : Int) ≤ (k : Int) := by omega
            have HL5 : Hid (Line X SZ FR (.slice (some ⟨b, off, none⟩) n cap) vw n sp G (size0 l, stageB (frozen0 l G) k) (wr.alloc (.cells #[.int .i64 q0, .int .i64 q1, .int .i64 q2, .int .i64 q3, .int .i64 q4] 60))) := HLk2.out.below ((Below.refl wr.heap.size wr).alloc (Nat.le_refl _) _) (Nat.le_refl _)
            have HB5 : Hid (Below w1.heap.size w1 (wr.alloc (.cells #[.int .i64 q0, .int .i64 q1, .int .i64 q2, .int .i64 q3, .int .i64 q4] 60))) := HB8.out.alloc HB8.out.size _
            have HO5 : Hid ((wr.alloc (.cells #[.int .i64 q0, .int .i64 q1, .int .i64 q2, .int .i64 q3, .int .i64 q4] 60)).ownsRow w3.heap.size 3 1 vw k ((wTo l G k).map (Value.int .i64))) := HO.out.alloc _
            have HS5 : Hid ((wr.alloc (.cells #[.int .i64 q0, .int .i64 q1, .int .i64 q2, .int .i64 q3, .int .i64 q4] 60)).cell? ⟨SZ, k, none⟩ = some (.int .i64 C)) := by
              have := HL5.out.s.cell (i := k) (by show k < (size0 l).length; rw [HZL.out]; exact hkn)
              rw [show gz ((size0 l, stageB (frozen0 l G) k) : St).1 k = C from HZK.out] at this
              exact this
            have HCP : Hid ((wr.alloc (.cells #[.int .i64 q0, .int .i64 q1, .int .i64 q2, .int .i64 q3, .int .i64 q4] 60)).cell? ⟨wr.heap.size, 0, none⟩ = some (.int .i64 q0) ∧ (wr.alloc (.cells #[.int .i64 q0, .int .i64 q1, .int .i64 q2, .int .i64 q3, .int .i64 q4] 60)).cell? ⟨wr.heap.size, 3, none⟩ = some (.int .i64 q3) ∧ (wr.alloc (.cells #[.int .i64 q0, .int .i64 q1, .int .i64 q2, .int .i64 q3, .int .i64 q4] 60)).cell? ⟨wr.heap.size, 4, none⟩ = some (.int .i64 q4)) := ⟨by go_simp, by go_simp, by go_simp⟩
            have HSZ5 : Hid (w3.heap.size ≤ (wr.alloc (.cells #[.int .i64 q0, .int .i64 q1, .int .i64 q2, .int .i64 q3, .int .i64 q4] 60)).heap.size) := by have := HSZZ.out; show _ ≤ _; simp; omega
            clear hq0 hq1 hq2 hq3 hq4 hC hcell
            go_wp2_with fail
            obtain ⟨W5, hW5⟩ : ∃ W5, wr.alloc (.cells #[.int .i64 q0, .int .i64 q1, .int .i64 q2, .int .i64 q3, .int .i64 q4] 60) = W5 := ⟨_, rfl⟩
            rw [hW5] at HL5 HB5 HO5 HS5 HCP HSZ5 ⊢
            obtain ⟨G5, hG5⟩ : ∃ G, wr.heap.size = G := ⟨_, rfl⟩
            rw [hG5] at HCP ⊢
            clear hW5 hG5 k0 k1 k2 k3 k4 hlt
            obtain ⟨p0, p3, p4⟩ := HCP.out
            cases G with
            | false =>
              have hmw := mul_bd (a := q4) (b := q0) (m := 1000) (k := 1048576) (by omega) (by omega) (by omega) (by omega)
              obtain ⟨om, hom⟩ : ∃ x, q4 * q0 = x := ⟨_, rfl⟩
              rw [hom] at hmw
              have HOM : Hid (wOf l false k = om) := by show _ = _; unfold wOf; rw [if_neg (by simp), HQ4.out, HQ0.out]; exact hom
              have hwr : IntKind.i64.wrap (q4 * q0) = om := by rw [hom]; exact IntWalk.i64_in _ (by omega)
              have hwr2 : q4 * q0 = om := hom
              obtain ⟨aw, haw⟩ : ∃ x, decide (q0 < C) = x := ⟨_, rfl⟩
              have HAW : Hid (awayB l false k = aw) := by show _ = _; unfold awayB cl; rw [if_neg (by simp), HQ0.out, HQ1.out, HQ2.out, HCC.out]; exact haw
              have HAW0 := Lib.hid haw
              clear hom
              have HFZ : Hid (gb (frozen0 l false) k = (decide (om = 0) || aw)) := by show _ = _; rw [frozen0_at (by rw [HN.out]; exact hkn), HOM.out, HAW.out]
              have HWN : Hid (wTo l false (k + 1) = wTo l false k ++ [om]) := by show _ = _; rw [wTo_succ, HOM.out]
              have HWM : Hid ((wTo l false (k + 1)).map (Value.int .i64) = (wTo l false k).map (Value.int .i64) ++ [.int .i64 om]) := by show _ = _; rw [HWN.out, List.map_append]; rfl
              have HFS : Hid ((stageB (frozen0 l false) k).set k (decide (om = 0) || aw) = stageB (frozen0 l false) (k + 1)) := by show _ = _; rw [← HFZ.out]; exact stageB_set _ _ (by rw [HFL.out]; exact hkn)
              have x2 := HL5.out.cells.2.2.1
              have x4 := HL5.out.cells.2.2.2.2.1
              have x3 := HL5.out.cells.2.2.2.1
              have cS := HS5.out
              have HRW : Hid (∀ (d : Nat) (w6 : World), ((W5.drewN d).alloc (.cells #[.int .i64 om] 3)).grownBy w6 vw.ownBlock → Line X SZ FR (.slice (some ⟨b, off, none⟩) n cap) vw n sp false (size0 l, stageB (frozen0 l false) k) w6 ∧ Below w1.heap.size w1 w6 ∧ w3.heap.size ≤ w6.heap.size) := fun d w6 hg =>
                ⟨((HL5.out.drewN d).below ((Below.refl W5.heap.size (W5.drewN d)).alloc (Nat.le_refl _) _) (Nat.le_refl _)).grown hg (fun e => by have := (HO5.out.lt _ e.symm).1; have := HLT3.out; omega) (fun e => by have := (HO5.out.lt _ e.symm).1; have := HLT3.out; omega) (fun e => by have := (HO5.out.lt _ e.symm).1; have := HLT3.out; omega),
                  ((Below_drewN HB5.out d).alloc HB5.out.size _).grown hg (by have := HB5.out.size; simp; omega) (fun q hq => by have := (HO5.out.lt q hq).1; have := HB7.out.size; omega), by have := hg.size; have := HSZ5.out; simp at *; omega⟩
              by_cases hz : om = 0
              all_goals
                have hzb : (om == 0) = decide (om = 0) := by rw [Bool.eq_iff_iff]; simp
                first
                  | (have hzz : (om == 0) = true := by rw [hzb]; simpa using hz)
                  | (have hzz : (om == 0) = false := by rw [hzb]; simpa using hz)
                have HZ := Lib.hid hz
                clear hzb hz
                go_wp2_with fail
                go_quiet (fail)
                clear hwr hwr2 hmw
                go_wp2_with (at_builtin; refine wpList_append_lies _ rfl _ _ 26 rfl w3.heap.size 3 i0 _ 1 8 Try.underlying26 hi0 hz0 hz1 hz2 rfl (by omega) vw k ((wTo l false k).map (Value.int .i64)) rfl (by exact HO5.out.alloc _) ⟨W5.heap.size, 0, none⟩ 1 1 [.int .i64 om] rfl rfl (by exact World.news_of_block (cs := #[.int .i64 om]) (t := 3) (fr := (0, 0)) (heap_alloc_new (W5.drewN _) _)) (by simp [Value.oneCell']) (by omega) (by unfold maxLen; omega) (by omega) (by have := HSZ5.out; simp; omega) _ rfl ?_; intro gg cap' w6 hown6 hgrow6 hat6 hlt6; have HOW6 := Lib.hid hown6; have HG6 := Lib.hid hgrow6; clear hown6 hgrow6 hat6 hlt6; have HNX := HRW.out _ w6 (by exact HG6.out); have HL6 := Lib.hid HNX.1; have HB6 := Lib.hid HNX.2.1; have HS6 := Lib.hid HNX.2.2; have y3 := HL6.out.cells.2.2.2.1; have fX := HL6.out.free 3; have y5 := HL6.out.cells.2.2.2.2.2; have fF := HL6.out.f.free k; have cF := HL6.out.f.cell (i := k) (by show k < (stageB _ _).length; rw [stageB_len, HFL.out]; exact hkn); have hxf := HL6.out.xf; have hxf2 := HL6.out.xf.symm; clear HNX)
                have HO9 : Hid (((w6.setCell ⟨X, 3, none⟩ (.slice (some ⟨gg, 0, none⟩) (k + 1) cap')).setCell ⟨FR, k, none⟩ (.bool (decide (om = 0) || aw))).ownsRow w3.heap.size 3 1 (.slice (some ⟨gg, 0, none⟩) (k + 1) cap') (k + 1) ((wTo l false (k + 1)).map (Value.int .i64))) := by
                  show World.ownsRow _ _ _ _ _ _ _
                  rw [HWM.out]
                  exact own_set2 HOW6.out HLT3.out.1 HLT3.out.2.2
                have HL9 : Hid (Line X SZ FR (.slice (some ⟨b, off, none⟩) n cap) (.slice (some ⟨gg, 0, none⟩) (k + 1) cap') n sp false (size0 l, stageB (frozen0 l false) (k + 1)) ((w6.setCell ⟨X, 3, none⟩ (.slice (some ⟨gg, 0, none⟩) (k + 1) cap')).setCell ⟨FR, k, none⟩ (.bool (decide (om = 0) || aw)))) := by
                  show Line _ _ _ _ _ _ _ _ _ _
                  rw [← HFS.out]
                  exact HL6.out.two k (decide (om = 0) || aw)
                have HB9 : Hid (Below w1.heap.size w1 ((w6.setCell ⟨X, 3, none⟩ (.slice (some ⟨gg, 0, none⟩) (k + 1) cap')).setCell ⟨FR, k, none⟩ (.bool (decide (om = 0) || aw)))) := below_set2 HB6.out HX.out.1 HX.out.2.2
                have HS9 : Hid (w3.heap.size ≤ ((w6.setCell ⟨X, 3, none⟩ (.slice (some ⟨gg, 0, none⟩) (k + 1) cap')).setCell ⟨FR, k, none⟩ (.bool (decide (om = 0) || aw))).heap.size) := size_set2 HS6.out
                go_roundw
                case rel =>
                  first
                    | (have e : (decide (om = 0) || aw) = true := by rw [decide_eq_true HZ.out]; rfl)
                    | (have e : (decide (om = 0) || aw) = aw := by rw [decide_eq_false HZ.out]; rfl)
                  rw [e] at HL9 HO9 HB9 HS9
                  exact ⟨k + 1, _, by omega, by go_num, HL9.out, HO9.out, HB9.out, HS9.out⟩
                case measure => simp [intOf]; omega
            | true =>
              obtain ⟨om, hom⟩ : ∃ x, q3 = x := ⟨_, rfl⟩
              have HOM : Hid (wOf l true k = om) := by show _ = _; unfold wOf; rw [if_pos rfl, HQ3.out]; exact hom
              have hmw := mul_bd (a := q4) (b := q0) (m := 1000) (k := 1048576) (by omega) (by omega) (by omega) (by omega)
              have hwr : IntKind.i64.wrap (q4 * q0) = q4 * q0 := IntWalk.i64_in _ (by omega)
              obtain ⟨aw, haw⟩ : ∃ x, decide (C < q0) = x := ⟨_, rfl⟩
              have HAW : Hid (awayB l true k = aw) := by show _ = _; unfold awayB cl; rw [if_pos rfl, HQ0.out, HQ1.out, HQ2.out, HCC.out]; exact haw
              have HAW0 := Lib.hid haw
              subst hom
              have HFZ : Hid (gb (frozen0 l true) k = (decide (q3 = 0) || aw)) := by show _ = _; rw [frozen0_at (by rw [HN.out]; exact hkn), HOM.out, HAW.out]
              have HWN : Hid (wTo l true (k + 1) = wTo l true k ++ [q3]) := by show _ = _; rw [wTo_succ, HOM.out]
              have HWM : Hid ((wTo l true (k + 1)).map (Value.int .i64) = (wTo l true k).map (Value.int .i64) ++ [.int .i64 q3]) := by show _ = _; rw [HWN.out, List.map_append]; rfl
              have HFS : Hid ((stageB (frozen0 l true) k).set k (decide (q3 = 0) || aw) = stageB (frozen0 l true) (k + 1)) := by show _ = _; rw [← HFZ.out]; exact stageB_set _ _ (by rw [HFL.out]; exact hkn)
              have x2 := HL5.out.cells.2.2.1
              have x4 := HL5.out.cells.2.2.2.2.1
              have x3 := HL5.out.cells.2.2.2.1
              have cS := HS5.out
              have HRW : Hid (∀ (d : Nat) (w6 : World), ((W5.drewN d).alloc (.cells #[.int .i64 q3] 3)).grownBy w6 vw.ownBlock → Line X SZ FR (.slice (some ⟨b, off, none⟩) n cap) vw n sp true (size0 l, stageB (frozen0 l true) k) w6 ∧ Below w1.heap.size w1 w6 ∧ w3.heap.size ≤ w6.heap.size) := fun d w6 hg =>
                ⟨((HL5.out.drewN d).below ((Below.refl W5.heap.size (W5.drewN d)).alloc (Nat.le_refl _) _) (Nat.le_refl _)).grown hg (fun e => by have := (HO5.out.lt _ e.symm).1; have := HLT3.out; omega) (fun e => by have := (HO5.out.lt _ e.symm).1; have := HLT3.out; omega) (fun e => by have := (HO5.out.lt _ e.symm).1; have := HLT3.out; omega),
                  ((Below_drewN HB5.out d).alloc HB5.out.size _).grown hg (by have := HB5.out.size; simp; omega) (fun q hq => by have := (HO5.out.lt q hq).1; have := HB7.out.size; omega), by have := hg.size; have := HSZ5.out; simp at *; omega⟩
              by_cases hz : q3 = 0
              all_goals
                have hzb : (q3 == 0) = decide (q3 = 0) := by rw [Bool.eq_iff_iff]; simp
                first
                  | (have hzz : (q3 == 0) = true := by rw [hzb]; simpa using hz)
                  | (have hzz : (q3 == 0) = false := by rw [hzb]; simpa using hz)
                have HZ := Lib.hid hz
                clear hzb hz
                go_wp2_with fail
                go_quiet (fail)
                clear hwr hmw
                go_wp2_with fail
                go_quiet (fail)
                go_wp2_with (at_builtin; refine wpList_append_lies _ rfl _ _ 26 rfl w3.heap.size 3 i0 _ 1 8 Try.underlying26 hi0 hz0 hz1 hz2 rfl (by omega) vw k ((wTo l true k).map (Value.int .i64)) rfl (by exact HO5.out.alloc _) ⟨W5.heap.size, 0, none⟩ 1 1 [.int .i64 q3] rfl rfl (by exact World.news_of_block (cs := #[.int .i64 q3]) (t := 3) (fr := (0, 0)) (heap_alloc_new (W5.drewN _) _)) (by simp [Value.oneCell']) (by omega) (by unfold maxLen; omega) (by omega) (by have := HSZ5.out; simp; omega) _ rfl ?_; intro gg cap' w6 hown6 hgrow6 hat6 hlt6; have HOW6 := Lib.hid hown6; have HG6 := Lib.hid hgrow6; clear hown6 hgrow6 hat6 hlt6; have HNX := HRW.out _ w6 (by exact HG6.out); have HL6 := Lib.hid HNX.1; have HB6 := Lib.hid HNX.2.1; have HS6 := Lib.hid HNX.2.2; have y3 := HL6.out.cells.2.2.2.1; have fX := HL6.out.free 3; have y5 := HL6.out.cells.2.2.2.2.2; have fF := HL6.out.f.free k; have cF := HL6.out.f.cell (i := k) (by show k < (stageB _ _).length; rw [stageB_len, HFL.out]; exact hkn); have hxf := HL6.out.xf; have hxf2 := HL6.out.xf.symm; clear HNX)
                have HO9 : Hid (((w6.setCell ⟨X, 3, none⟩ (.slice (some ⟨gg, 0, none⟩) (k + 1) cap')).setCell ⟨FR, k, none⟩ (.bool (decide (q3 = 0) || aw))).ownsRow w3.heap.size 3 1 (.slice (some ⟨gg, 0, none⟩) (k + 1) cap') (k + 1) ((wTo l true (k + 1)).map (Value.int .i64))) := by
                  show World.ownsRow _ _ _ _ _ _ _
                  rw [HWM.out]
                  exact own_set2 HOW6.out HLT3.out.1 HLT3.out.2.2
                have HL9 : Hid (Line X SZ FR (.slice (some ⟨b, off, none⟩) n cap) (.slice (some ⟨gg, 0, none⟩) (k + 1) cap') n sp true (size0 l, stageB (frozen0 l true) (k + 1)) ((w6.setCell ⟨X, 3, none⟩ (.slice (some ⟨gg, 0, none⟩) (k + 1) cap')).setCell ⟨FR, k, none⟩ (.bool (decide (q3 = 0) || aw)))) := by
                  show Line _ _ _ _ _ _ _ _ _ _
                  rw [← HFS.out]
                  exact HL6.out.two k (decide (q3 = 0) || aw)
                have HB9 : Hid (Below w1.heap.size w1 ((w6.setCell ⟨X, 3, none⟩ (.slice (some ⟨gg, 0, none⟩) (k + 1) cap')).setCell ⟨FR, k, none⟩ (.bool (decide (q3 = 0) || aw)))) := below_set2 HB6.out HX.out.1 HX.out.2.2
                have HS9 : Hid (w3.heap.size ≤ ((w6.setCell ⟨X, 3, none⟩ (.slice (some ⟨gg, 0, none⟩) (k + 1) cap')).setCell ⟨FR, k, none⟩ (.bool (decide (q3 = 0) || aw))).heap.size) := size_set2 HS6.out
                go_roundw
                case rel =>
                  first
                    | (have e : (decide (q3 = 0) || aw) = true := by rw [decide_eq_true HZ.out]; rfl)
                    | (have e : (decide (q3 = 0) || aw) = aw := by rw [decide_eq_false HZ.out]; rfl)
                  rw [e] at HL9 HO9 HB9 HS9
                  exact ⟨k + 1, _, by omega, by go_num, HL9.out, HO9.out, HB9.out, HS9.out⟩
                case measure => simp [intOf]; omega

          · obtain rfl : n = k := by omega
            have HL8 : Hid (Line X SZ FR (.slice a n cap) vw n sp G (size0 l, frozen0 l G) wr) := by
              have := HLk2.out
              rwa [show stageB (frozen0 l G) n = frozen0 l G by have := stageB_all (frozen0 l G); rwa [HFL.out] at this] at this
            have HST : Hid (StOk n (size0 l, frozen0 l G)) := by have := StOk.start HF.out G; rwa [HN.out] at this
            have HRF : Hid (finB l G sp n (size0 l, frozen0 l G) = resOk av gp l) := by show _ = _; unfold resOk; rw [HG.out, HN.out, HSP.out]
            have HCN0 : Hid ((frozen0 l G).count false ≤ n) := by have := List.count_le_length (a := false) (l := frozen0 l G); rwa [HFL.out] at this
            go_wp2_with fail
            obtain ⟨w4, rfl⟩ : ∃ x : World, x = wr := ⟨_, rfl⟩
            go_loopg [] n (fun gk wr => ∃ st : St, StOk n st ∧ Line X SZ FR (.slice a n cap) vw n sp G st wr ∧ Hid (st.2.count false ≤ gk) ∧ Hid (finB l G sp gk st = resOk av gp l) ∧ Below w1.heap.size w1 wr ∧ wr.ownsRow w3.heap.size 3 1 vw n ((wTo l G n).map (Value.int .i64)))
            case atStart => exact ⟨_, HST.out, HL8.out, HCN0, HRF, HB8.out, HO.out⟩
            case round =>
              obtain ⟨st, hst, hLs, HCN, HFI, hbs, hOs⟩ := hrel
              have HSTs := Lib.hid hst
              have HLs := Lib.hid hLs
              have HBs := Lib.hid hbs
              have HOs := Lib.hid hOs
              have x4 := hLs.cells.2.2.2.2.1
              have x5 := hLs.cells.2.2.2.2.2
              clear hst hLs hbs hOs
              by_cases hc : st.2.count false = 0
              · have HC0 : Hid (decide (st.2.count false ≠ 0) = false) := by show _ = _; simp [hc]
                have HRR : Hid (resL av gp l = st.1) := by show _ = _; rw [HR.out, ← HFI.out, finB_end hc]
                clear hc
                go_wp2_with (go_at_call 46; refine (bcontains_any FR n n st.2 _ HLs.out.f HSTs.out.lf hn).mono ?_; rw [HC0.out]; rintro e w' ⟨rfl, rfl⟩)
                go_ret2
                refine ⟨.slice (some ⟨SZ, 0, none⟩) n n, by rw [HE.out]; rfl, ?_, HB1.out.trans (HBs.out.mono HB1.out.size), freshV.mk (by have := HX.out; have := HB1.out.size; omega)⟩
                rw [HRR.out]
                have := HLs.out.s.isInts (by rw [HSTs.out.ls]; unfold maxLen; omega)
                rwa [HSTs.out.ls] at this
              · have HC0 : Hid (decide (st.2.count false ≠ 0) = true) := by show _ = _; simp [hc]
                have hnp : 0 < n := by have := List.count_le_length (a := false) (l := st.2); rw [HSTs.out.lf] at this; omega
                obtain ⟨nx1, nx2, nx3⟩ := finB_next (l := l) (g := G) (sp := sp) HCN.out hc
                have HNX : Hid ((stepB l G sp st).2.count false ≤ gk - 1 ∧ finB l G sp (gk - 1) (stepB l G sp st) = resOk av gp l) := ⟨nx1, by rw [← nx2]; exact HFI.out⟩
                have HGK := Lib.hid nx3
                obtain ⟨b, off, rfl, hlt, hcell⟩ := H3.out hnp
                obtain ⟨wa', wcap, hvw, -, -, wc3⟩ := ownsRow_isInts HOs.out
                rw [wTo_len] at hvw wc3
                subst hvw
                obtain ⟨wb, woff, rfl, wlt, wcell⟩ := wc3 hnp
                have HCELL : Hid (∀ i, i < n → ∀ j, j < 5 → wr.cell? ⟨b, off + i * 5 + j, none⟩ = some (.int .i64 (gf l i j))) := HC3.out wr HBs.out b off rfl hlt hcell
                have HWCELL : Hid (∀ i, i < n → wr.cell? ⟨wb, woff + i, none⟩ = some (.int .i64 (wOf l G i))) := fun i hi => by rw [wcell i hi, wTo_at hi]
                have HNUM : Hid (b < wr.heap.size ∧ b ≠ SZ ∧ b ≠ FR ∧ wb < wr.heap.size) := by
                  have := HB1.out.size
                  have := HBs.out.size
                  have := HX.out
                  exact ⟨by omega, by omega, by omega, wlt⟩
                clear hc nx1 nx2 nx3 hcell wc3 wcell hlt wlt
                go_wp2_with (first | (go_at_call 46; refine (bcontains_any FR n n st.2 _ HLs.out.f HSTs.out.lf hn).mono ?_; rw [HC0.out]; rintro e w' ⟨rfl, rfl⟩) | (go_at_call 47; refine (bstep_any X SZ FR b off cap wb woff wcap n sp G st l _ HLs.out HN hn HF.out HSTs.out hsp HNUM.out.1 HNUM.out.2.1 HNUM.out.2.2.1 HNUM.out.2.2.2 HCELL.out HWCELL.out).mono ?_; rintro e w' ⟨rfl, hL', hT'⟩; have HL' := Lib.hid hL'; have HT' := Lib.hid hT'; clear hL' hT'))
                go_roundg (gk - 1)
                case measure => exact HGK.out
                case rel =>
                  refine ⟨stepB l G sp st, HSTs.out.step HN.out HF.out, HL'.out, HNX.out.1, HNX.out.2, HBs.out.trans (HT'.out.below HX.out.2.1 HX.out.2.2 HBs.out.size), own_turn2 HOs.out HT'.out HLT3.out.2.1 HLT3.out.2.2⟩
theorem bres_new (v : Value) (av gp : Int) (l : List Rec) (w : World) (hv : IsRecs 5 w v l) : Calls Try.prog 32 #[.int .i64 av, .int .i64 gp, v] w (ResolvedN av gp l w) := by
  by_cases he : flexErr av gp l = 0
  · obtain ⟨h1, h2, h3⟩ := flexErr_inv he
    rw [Bool.and_eq_true, lenB_iff, lenB_iff] at h2
    have hv' := hv
    obtain ⟨a, cap, rfl, k1, k2, k3⟩ := hv
    exact bres_ok a cap _ av gp l w hv' (Lib.hid rfl) h1 h2.1 h2.2 h3 he (Lib.hid k3)
  · exact bres_no v av gp l w hv he
theorem bres_any (v : Value) (av gp : Int) (l : List Rec) (w : World) (hv : IsRecs 5 w v l) : Calls Try.prog 32 #[.int .i64 av, .int .i64 gp, v] w (Resolved av gp l w) := (bres_new v av gp l w hv).mono fun _ _ h => h.res
end Go.Proofs.Ytadkkkdecejkeaa

