/- valid, sum, raise and demands of package grid, for valid tracks without items. -/
import Derived.Test.YtadkkkdecejkeaaPlaceW
import Derived.OneCell
import Derived.BigRegion
namespace Go.Proofs.Ytadkkkdecejkeaa
open Go.RowKit
attribute [local go_sem ↓] Go.wp_at_zero Go.wp_at_succ
set_option linter.unusedVariables false
set_option linter.unusedSimpArgs false

set_option maxHeartbeats 2000000 in
theorem glen_any (x : Int) (w : World) : Calls Try.prog 38 #[.int .i64 x] w fun e w' => e = .returned (.bool (lenB x)) ∧ w = w' := by
  by_cases h : 0 ≤ x
  · go_enter Try.func38, Try.ntmps38
    go_wp2
    go_ret
    exact ⟨ret_bool (by simp [lenB, h]), rfl⟩
  · go_enter Try.func38, Try.ntmps38
    go_wp2
    go_ret
    exact ⟨ret_bool (by simp [lenB]; omega), rfl⟩

def trackB (kd x : Int) : Bool := if kd = 0 then lenB x else if kd = 1 then decide (x = 0) else if kd = 2 then decide (1 ≤ x) && decide (x ≤ 1000) else false
/-- A bool, and only new blocks. -/
def Tells (b : Bool) (w : World) (e : Ending) (w' : World) : Prop := e = .returned (.bool b) ∧ Below w.heap.size w w'
set_option maxHeartbeats 2000000 in
theorem track_any (kd x : Int) (w : World) : Calls Try.prog 41 #[.agg #[.int .i64 kd, .int .i64 x]] w (Tells (trackB kd x) w) := by
  have HA : Hid (Below w.heap.size w (w.alloc (.cells #[.int .i64 kd, .int .i64 x] 42))) := (Below.refl _ _).alloc (Nat.le_refl _) _
  have HD : Hid ((x == 0) = decide (x = 0)) := Bool.eq_iff_iff.2 (by simp)
  by_cases h0 : kd = 0
  · subst h0
    go_enter Try.func41, Try.ntmps41
    go_wp2_with (go_at_call 38; refine (glen_any _ _).mono ?_; rintro e w' ⟨rfl, rfl⟩)
    go_ret
    exact ⟨ret_bool (by simp [trackB]), HA.out⟩
  · by_cases h1 : kd = 1
    · subst h1
      go_enter Try.func41, Try.ntmps41
      go_wp2
      go_ret
      exact ⟨ret_bool (by simp [trackB]; exact HD.out), HA.out⟩
    · by_cases h2 : kd = 2
      · subst h2
        by_cases h3 : 1 ≤ x
        · go_enter Try.func41, Try.ntmps41
          go_wp2
          go_ret
          exact ⟨ret_bool (by simp [trackB, h3]), HA.out⟩
        · go_enter Try.func41, Try.ntmps41
          go_wp2
          go_ret
          exact ⟨ret_bool (by simp [trackB]; omega), HA.out⟩
      · have e0 : (kd == 0) = false := by simp [h0]
        have e1 : (kd == 1) = false := by simp [h1]
        have e2 : (kd == 2) = false := by simp [h2]
        go_enter Try.func41, Try.ntmps41
        go_wp2
        go_ret
        exact ⟨ret_bool (by simp [trackB, h0, h1, h2]), HA.out⟩
set_option maxHeartbeats 2000000 in
theorem valid1_any (kd x : Int) (w : World) : Calls Try.prog 40 #[.agg #[.int .i64 kd, .int .i64 x]] w (Tells (!trackB kd x) w) := by
  have HA : Hid (Below w.heap.size w (w.alloc (.cells #[.int .i64 kd, .int .i64 x] 42))) := (Below.refl _ _).alloc (Nat.le_refl _) _
  go_enter Try.func40, Try.ntmps40
  go_wp2_with (go_at_call 41; refine (track_any _ _ _).mono ?_; rintro e w' ⟨rfl, hb⟩; have HB := Lib.hid hb)
  go_ret
  exact ⟨rfl, HA.out.trans (HB.out.mono HA.out.size)⟩
/-- All tracks are valid. -/
def tracksOk (l : List Rec) : Prop := ∀ i, i < l.length → trackB (gf l i 0) (gf l i 1) = true
set_option maxHeartbeats 4000000 in
theorem tindex_ok (v : Value) (l : List Rec) (w : World) (hv : IsRecs 2 w v l) (hl : l.length ≤ 24) (hg : tracksOk l) :
    Calls Try.prog 51 #[v, .func (.func 40) #[] #[]] w fun e w' => e = .returned (.int .i64 (-1)) ∧ Below w.heap.size w w' := by
  obtain ⟨a, cap, rfl, h1, h2, h3⟩ := hv
  unfold tracksOk at hg
  obtain ⟨n, hn⟩ : ∃ n, l.length = n := ⟨_, rfl⟩
  rw [hn] at h1 h3 hl hg ⊢
  have H3 := Lib.hid h3
  have HG := Lib.hid hg
  unfold maxLen at h2
  have hn' : (n : Int) ≤ 24 := by omega
  clear h3 hn hg
  go_enter Try.func51, Try.ntmps51
  go_wp2_with fail
  go_loopw [8] (fun i wr => ∃ k : Nat, k ≤ n ∧ i = .int .i64 k ∧ Below w.heap.size w wr) (fun i _ => n - (intOf i).toNat)
  case atStart => exact ⟨0, Nat.zero_le _, rfl, Below.refl _ _⟩
  case round =>
    obtain ⟨k, hk, rfl, hbl⟩ := hrel
    have HB := Lib.hid hbl
    clear hbl
    by_cases hkn : k < n
    · obtain ⟨b, off, rfl, hlt, hcell⟩ := H3.out (by omega)
      have k0 := (HB.out.cell (p := ⟨b, off + k * 2 + 0, none⟩) hlt).trans (hcell k hkn 0 (by omega))
      have k1 := (HB.out.cell (p := ⟨b, off + k * 2 + 1, none⟩) hlt).trans (hcell k hkn 1 (by omega))
      rw [Nat.add_zero] at k0
      have HT : Hid (trackB (gf l k 0) (gf l k 1) = true) := HG.out k hkn
      obtain ⟨q0, hq0⟩ : ∃ q, gf l k 0 = q := ⟨_, rfl⟩
      obtain ⟨q1, hq1⟩ : ∃ q, gf l k 1 = q := ⟨_, rfl⟩
      rw [hq0] at k0 HT
      rw [hq1] at k1 HT
      have hkn' : (k : Int) < (n : Int) := by omega
      have hk0 : (0 : Int) ≤ (k : Int) := by omega
      clear hcell hlt hq0 hq1
      go_wp2_with fail
      refine (valid1_any _ _ _).mono ?_
      rw [HT.out]
      rintro e w' ⟨rfl, hb⟩
      have HB2 : Hid (Below w.heap.size w w') := HB.out.trans (hb.mono HB.out.size)
      clear hb
      go_wp2_with fail
      go_roundw
      case rel => exact ⟨k + 1, by omega, by go_num, HB2.out⟩
      case measure => simp [intOf]; omega
    · obtain rfl : k = n := by omega
      go_wp2
      go_ret
      exact ⟨rfl, HB.out⟩
set_option maxHeartbeats 4000000 in
theorem tcontains_ok (v : Value) (l : List Rec) (w : World) (hv : IsRecs 2 w v l) (hl : l.length ≤ 24) (hg : tracksOk l) :
    Calls Try.prog 39 #[v, .func (.func 40) #[] #[]] w (Tells false w) := by
  have HV := Lib.hid hv
  clear hv
  go_enter Try.func39, Try.ntmps39
  go_wp2_with fail
  refine (tindex_ok v l _ HV.out hl hg).mono ?_
  rintro e w' ⟨rfl, hb⟩
  have HB := Lib.hid hb
  clear hb
  go_wp2
  go_ret
  exact ⟨rfl, HB.out⟩
set_option maxHeartbeats 8000000 in
theorem gvalid_none (v : Value) (av gp : Int) (l : List Rec) (w : World) (hv : IsRecs 2 w v l) (hl : l.length ≤ 24) (hg : tracksOk l) (ha : lenB av = true) (hp : lenB gp = true) :
    Calls Try.prog 28 #[.int .i64 av, .int .i64 gp, v, .slice none 0 0] w fun e w' => e = .returned (.int .i64 0) ∧ Below w.heap.size w w' := by
  have HV := Lib.hid hv
  obtain ⟨a, cap, rfl, h1, h2, h3⟩ := hv
  have hn' : (l.length : Int) ≤ 24 := by omega
  have HA := Lib.hid ha
  have HP := Lib.hid hp
  clear h3 ha hp
  go_enter Try.func28, Try.ntmps28
  go_wp2_with (first | (go_at_call 38; refine (glen_any _ _).mono ?_; (first | rw [HA.out] | rw [HP.out]); rintro e w' ⟨rfl, rfl⟩) | (go_at_call 39; refine (tcontains_ok _ l _ HV.out hl hg).mono ?_; rintro e w2 ⟨rfl, hb⟩; have HB := Lib.hid hb))
  go_loopw [33] (fun i wr => i = .int .i64 0 ∧ wr = w2) (fun _ _ => 0)
  case atStart => exact ⟨rfl, rfl⟩
  case round =>
    obtain ⟨rfl, rfl⟩ := hrel
    go_wp2
    go_ret
    exact ⟨rfl, HB.out⟩

set_option maxHeartbeats 2000000 in
theorem gsum_any (v : Value) (xs : List Int) (w : World) (hv : IsInts w v xs) (hb : ∀ k, k ≤ xs.length → -4611686018427387904 ≤ sumTo xs k ∧ sumTo xs k ≤ 4611686018427387904) :
    Calls Try.prog 30 #[v] w fun e w' => e = .returned (.int .i64 (sumTo xs xs.length)) ∧ w = w' := by
  obtain ⟨a, cap, rfl, h1, h2, h3⟩ := hv
  obtain ⟨n, hn⟩ : ∃ n, xs.length = n := ⟨_, rfl⟩
  rw [hn] at h1 h3 hb ⊢
  have H3 := Lib.hid h3
  have HB := Lib.hid hb
  unfold maxLen at h2
  clear h3 hb hn
  go_enter Try.func30, Try.ntmps30
  go_wp2
  go_loopw [3, 8] (fun s i wr => ∃ j : Nat, j ≤ n ∧ i = .int .i64 j ∧ s = .int .i64 (sumTo xs j) ∧ wr = w) (fun _ i _ => n - (intOf i).toNat)
  case atStart => exact ⟨0, Nat.zero_le _, rfl, rfl, rfl⟩
  case round =>
    obtain ⟨j, hj, rfl, rfl, rfl⟩ := hrel
    by_cases hjn : j < n
    · obtain ⟨b, off, rfl, hlt, hc⟩ := H3.out (by omega)
      have c := hc j hjn
      have b0 := HB.out j hj
      have b1 := HB.out (j + 1) hjn
      have hs : sumTo xs (j + 1) = sumTo xs j + gz xs j := rfl
      have hw : IntKind.i64.wrap (sumTo xs j + gz xs j) = sumTo xs (j + 1) := by rw [hs]; exact IntWalk.i64_in _ (by omega)
      have hjn' : (j : Int) < (n : Int) := by omega
      clear hc hs
      go_wp2
      go_roundw
      case rel => exact ⟨j + 1, by omega, by go_num, by first | rfl | rw [hw], by first | rfl | trivial⟩
      case measure => simp [intOf]; omega
    · obtain rfl : j = n := by omega
      go_wp2
      go_ret
      exact ⟨rfl, rfl⟩

/-! ### demands -/
/-- Each of the most sizes of the first k tracks has been raised to the least one. -/
def mxTo (ls ms : List Int) : Nat → List Int
  | 0 => ms
  | k + 1 => (mxTo ls ms k).set k (if gz (mxTo ls ms k) k < gz ls k then gz ls k else gz (mxTo ls ms k) k)
theorem mxTo_len (ls ms : List Int) : ∀ k, (mxTo ls ms k).length = ms.length
  | 0 => rfl
  | k + 1 => by simp [mxTo, mxTo_len ls ms k]
/-- A variable of the call's own that holds a slice. -/
def OwnV (w : World) (P : Nat) (v : Value) : Prop := w.heap[P]? = some (.cells #[v] 26 (0, 0))
section
variable {w : World} {P : Nat} {v : Value}
theorem OwnV.lt (h : OwnV w P v) : P < w.heap.size := lt_of_block h
theorem OwnV.cell (h : OwnV w P v) : w.cell? ⟨P, 0, none⟩ = some v := by rw [cell_of_row w P _ _ _ (0, 0) h]; rfl
theorem OwnV.free (h : OwnV w P v) (i : Nat) : w.frozen? ⟨P, i, none⟩ = false := by unfold OwnV at h; simp [World.frozen?, h]
theorem OwnV.of_below {w' : World} {B : Nat} (h : OwnV w P v) (hb : Below B w w') (hg : P < B) : OwnV w' P v := by unfold OwnV at h ⊢; rw [hb.block P hg]; exact h
theorem OwnV.set_other (h : OwnV w P v) {g' : Nat} (hg : g' ≠ P) (i : Nat) (x : Value) : OwnV (w.setCell ⟨g', i, none⟩ x) P v := by
  unfold OwnV at h ⊢
  rw [Below.heap_setCell _ _ _ _ (by simpa using fun e => hg e.symm)]; exact h
theorem OwnV.alloc (h : OwnV w P v) (o : Obj) : OwnV (w.alloc o) P v := by
  have := h.lt
  unfold OwnV at h ⊢
  rw [Below.heap_alloc _ _ _ this]; exact h
theorem OwnV.set (h : OwnV w P v) (x : Value) : OwnV (w.setCell ⟨P, 0, none⟩ x) P x := by
  unfold OwnV at h ⊢
  simp [World.setCell, h, Array.getElem?_modify]
end
/-- The two variables and their rows. -/
structure Rows2 (P Q L M n : Nat) (ls ms : List Int) (w : World) : Prop where
  p : OwnV w P (.slice (some ⟨L, 0, none⟩) n n)
  q : OwnV w Q (.slice (some ⟨M, 0, none⟩) n n)
  l : OwnI w L ls
  m : OwnI w M ms
  pq : P ≠ Q
  pl : P ≠ L
  pm : P ≠ M
  ql : Q ≠ L
  qm : Q ≠ M
  lm : L ≠ M
section
variable {P Q L M n : Nat} {ls ms : List Int} {w : World}
theorem Rows2.lt (h : Rows2 P Q L M n ls ms w) : P < w.heap.size ∧ Q < w.heap.size ∧ L < w.heap.size ∧ M < w.heap.size := ⟨h.p.lt, h.q.lt, h.l.lt, h.m.lt⟩
theorem Rows2.below {w' : World} {B : Nat} (h : Rows2 P Q L M n ls ms w) (hb : Below B w w') (hB : w.heap.size ≤ B) : Rows2 P Q L M n ls ms w' := by
  have := h.lt
  exact ⟨h.p.of_below hb (by omega), h.q.of_below hb (by omega), h.l.of_below hb (by omega), h.m.of_below hb (by omega), h.pq, h.pl, h.pm, h.ql, h.qm, h.lm⟩
theorem Rows2.drew (h : Rows2 P Q L M n ls ms w) : Rows2 P Q L M n ls ms w.drew := ⟨h.p, h.q, h.l, h.m, h.pq, h.pl, h.pm, h.ql, h.qm, h.lm⟩
theorem Rows2.setL (h : Rows2 P Q L M n ls ms w) (i : Nat) (x : Int) : Rows2 P Q L M n (ls.set i x) ms (w.setCell ⟨L, i, none⟩ (.int .i64 x)) :=
  ⟨h.p.set_other h.pl.symm i _, h.q.set_other h.ql.symm i _, h.l.set i x, h.m.set_other h.lm i _, h.pq, h.pl, h.pm, h.ql, h.qm, h.lm⟩
theorem Rows2.setM (h : Rows2 P Q L M n ls ms w) (i : Nat) (x : Int) : Rows2 P Q L M n ls (ms.set i x) (w.setCell ⟨M, i, none⟩ (.int .i64 x)) :=
  ⟨h.p.set_other h.pm.symm i _, h.q.set_other h.qm.symm i _, h.l.set_other h.lm.symm i _, h.m.set i x, h.pq, h.pl, h.pm, h.ql, h.qm, h.lm⟩
end
set_option maxHeartbeats 8000000 in
theorem raise_any (P Q L M n B : Nat) (ls ms : List Int) (w : World) (h : Rows2 P Q L M n ls ms w) (hn : n ≤ 24) (hl : ls.length = n) (hm : ms.length = n) (hB : B ≤ M) :
    Calls Try.prog 42 #[.pointer (some ⟨Q, 0, none⟩), .pointer (some ⟨P, 0, none⟩)] w fun e w' => e = .returned (.tuple #[]) ∧ Rows2 P Q L M n ls (mxTo ls ms n) w' ∧ Below B w w' := by
  have HR := Lib.hid h
  have HL := Lib.hid hl
  have HM := Lib.hid hm
  have HBM := Lib.hid hB
  have c0 := h.q.cell
  have hn' : (n : Int) ≤ 24 := by omega
  clear h hl hm hB
  go_enter Try.func42, Try.ntmps42
  go_wp2_with fail
  clear c0
  go_loopw [5] (fun i wr => ∃ k : Nat, k ≤ n ∧ i = .int .i64 k ∧ Rows2 P Q L M n ls (mxTo ls ms k) wr ∧ Below B w wr) (fun i _ => n - (intOf i).toNat)
  case atStart => exact ⟨0, Nat.zero_le _, rfl, HR.out, Below.refl _ _⟩
  case round =>
    obtain ⟨k, hk, rfl, hr, hbl⟩ := hrel
    have HRk := Lib.hid hr
    have HB := Lib.hid hbl
    clear hr hbl
    by_cases hkn : k < n
    · have cp := HRk.out.p.cell
      have cq := HRk.out.q.cell
      have cl := HRk.out.l.cell (i := k) (by rw [HL.out]; exact hkn)
      have cm := HRk.out.m.cell (i := k) (by rw [mxTo_len, HM.out]; exact hkn)
      have fm := HRk.out.m.free k
      have HMN : Hid (mxTo ls ms (k + 1) = (mxTo ls ms k).set k (if gz (mxTo ls ms k) k < gz ls k then gz ls k else gz (mxTo ls ms k) k)) := rfl
      obtain ⟨x, hx⟩ : ∃ x, gz ls k = x := ⟨_, rfl⟩
      obtain ⟨y, hy⟩ : ∃ y, gz (mxTo ls ms k) k = y := ⟨_, rfl⟩
      rw [hx] at cl HMN
      rw [hy] at cm HMN
      have hkn' : (k : Int) < (n : Int) := by omega
      have hk0 : (0 : Int) ≤ (k : Int) := by omega
      clear hx hy
      by_cases hxy : y < x
      · rw [if_pos hxy] at HMN
        go_wp2_with fail
        go_region
        all_goals
          go_wp2
          go_roundw
          case rel => exact ⟨k + 1, by omega, by go_num, by rw [HMN.out]; exact (HRk.out.setM k x).drew, (HB.out.setCell (p := ⟨M, k, none⟩) HBM.out _).drew⟩
          case measure => simp [intOf]; omega
      · rw [if_neg hxy] at HMN
        go_wp2_with fail
        go_region
        all_goals
          go_wp2
          go_roundw
          case rel => exact ⟨k + 1, by omega, by go_num, by rw [HMN.out]; exact (HRk.out.setM k y).drew, (HB.out.setCell (p := ⟨M, k, none⟩) HBM.out _).drew⟩
          case measure => simp [intOf]; omega
    · obtain rfl : k = n := by omega
      go_wp2
      go_end0
      exact ⟨rfl, HRk.out, HB.out⟩

/-- The fixed sizes of the first k of n tracks. -/
def fxTo (l : List Rec) (n : Nat) : Nat → List Int
  | 0 => List.replicate n 0
  | k + 1 => if gf l k 0 = 0 then (fxTo l n k).set k (gf l k 1) else fxTo l n k
theorem fxTo_len (l : List Rec) (n : Nat) : ∀ k, (fxTo l n k).length = n
  | 0 => by simp [fxTo]
  | k + 1 => by simp only [fxTo]; split <;> simp [fxTo_len l n k]
theorem rows2_made (w : World) (n L M : Nat) (h : (L = w.heap.size + 1 + 1 ∧ M = w.heap.size + 1 + 1 + 1) ∨ (L = w.heap.size + 1 + 1 + 1 ∧ M = w.heap.size + 1 + 1)) :
    Rows2 w.heap.size (w.heap.size + 1) L M n (List.replicate n 0) (List.replicate n 0) ((((w.alloc (.cells #[.slice (some ⟨L, 0, none⟩) n n] 26)).alloc (.cells #[.slice (some ⟨M, 0, none⟩) n n] 26)).alloc (.cells (madeCells #[.int .i64 0] n) 3)).alloc (.cells (madeCells #[.int .i64 0] n) 3)) := by
  have e0 : OwnV (w.alloc (.cells #[.slice (some ⟨L, 0, none⟩) n n] 26)) w.heap.size (.slice (some ⟨L, 0, none⟩) n n) := heap_alloc_new w _
  have e1 : OwnV ((w.alloc (.cells #[.slice (some ⟨L, 0, none⟩) n n] 26)).alloc (.cells #[.slice (some ⟨M, 0, none⟩) n n] 26)) (w.heap.size + 1) (.slice (some ⟨M, 0, none⟩) n n) := by
    have := heap_alloc_new (w.alloc (.cells #[.slice (some ⟨L, 0, none⟩) n n] 26)) (.cells #[.slice (some ⟨M, 0, none⟩) n n] 26)
    rwa [World.size_alloc] at this
  have e2 := OwnI.made ((w.alloc (.cells #[.slice (some ⟨L, 0, none⟩) n n] 26)).alloc (.cells #[.slice (some ⟨M, 0, none⟩) n n] 26)) n
  have e3 := OwnI.made (((w.alloc (.cells #[.slice (some ⟨L, 0, none⟩) n n] 26)).alloc (.cells #[.slice (some ⟨M, 0, none⟩) n n] 26)).alloc (.cells (madeCells #[.int .i64 0] n) 3)) n
  rw [World.size_alloc, World.size_alloc] at e2
  rw [World.size_alloc, World.size_alloc, World.size_alloc] at e3
  rcases h with ⟨rfl, rfl⟩ | ⟨rfl, rfl⟩
  · exact ⟨((e0.alloc _).alloc _).alloc _, (e1.alloc _).alloc _, e2.alloc _, e3, by omega, by omega, by omega, by omega, by omega, by omega⟩
  · exact ⟨((e0.alloc _).alloc _).alloc _, (e1.alloc _).alloc _, e3, e2.alloc _, by omega, by omega, by omega, by omega, by omega, by omega⟩
/-- demands has laid the two rows. -/
def Demanded (n : Nat) (ls ms : List Int) (w : World) (e : Ending) (w' : World) : Prop :=
  ∃ L M, e = .returned (.tuple #[.slice (some ⟨L, 0, none⟩) n n, .slice (some ⟨M, 0, none⟩) n n]) ∧ OwnI w' L ls ∧ OwnI w' M ms ∧ L ≠ M ∧ w.heap.size ≤ L ∧ w.heap.size ≤ M ∧ Below w.heap.size w w'
set_option maxHeartbeats 8000000 in
set_option maxRecDepth 100000 in
theorem demands_none (a : Option Addr) (cap n : Nat) (gp : Int) (l : List Rec) (w : World) (hcap : n ≤ cap) (HN : Hid (l.length = n)) (hn : n ≤ 24)
    (H3 : Hid (0 < n → ∃ b off, a = some ⟨b, off, none⟩ ∧ b < w.heap.size ∧ ∀ i, i < n → ∀ j, j < 2 → w.cell? ⟨b, off + i * 2 + j, none⟩ = some (.int .i64 (gf l i j)))) :
    Calls Try.prog 29 #[.int .i64 gp, .slice a n cap, .slice none 0 0] w (Demanded n (fxTo l n n) (mxTo (fxTo l n n) (mxTo (fxTo l n n) (fxTo l n n) n) n) w) := by
  have hn' : (n : Int) ≤ 24 := by omega
  have hmk := make_ints n (by omega)
  go_enter Try.func29, Try.ntmps29
  go_upto_region 1 with fail
  go_cut [6] (fun p wx => p = .pointer (some ⟨w.heap.size, 0, none⟩) ∧ ∃ L M, w.heap.size ≤ L ∧ w.heap.size ≤ M ∧ Rows2 w.heap.size (w.heap.size + 1) L M n (fxTo l n 0) (fxTo l n 0) wx ∧ Below w.heap.size w wx)
  case first =>
    go_region
    all_goals go_wp2
    all_goals go_meet
    · have h := rows2_made w n _ _ (.inl ⟨rfl, rfl⟩)
      exact ⟨rfl, _, _, by omega, by omega, h.drew, ((((Below.refl w.heap.size w).alloc (Nat.le_refl _) _).alloc (by simp) _).alloc (by simp; omega) _).alloc (by simp; omega) _ |>.drew⟩
    · have h := rows2_made w n _ _ (.inr ⟨rfl, rfl⟩)
      exact ⟨rfl, _, _, by omega, by omega, h.drew, ((((Below.refl w.heap.size w).alloc (Nat.le_refl _) _).alloc (by simp) _).alloc (by simp; omega) _).alloc (by simp; omega) _ |>.drew⟩
  case rest =>
    obtain ⟨rfl, L, M, hl0, hm0, hr, hbl⟩ := hcut
    obtain ⟨w1, rfl⟩ : ∃ x : World, x = wc := ⟨_, rfl⟩
    have HR := Lib.hid hr
    have HB := Lib.hid hbl
    have HL0 := Lib.hid hl0
    have HM0 := Lib.hid hm0
    obtain ⟨P, hP⟩ : ∃ P, w.heap.size = P := ⟨_, rfl⟩
    have HP := Lib.hid hP
    rw [hP] at HR HL0 HM0 ⊢
    obtain ⟨Q, hQ⟩ : ∃ Q, P + 1 = Q := ⟨_, rfl⟩
    have HQ := Lib.hid hQ
    rw [hQ] at HR ⊢
    clear hr hbl hl0 hm0 hP hQ hmk
    go_wp2_with fail
    go_loopw [25] (fun i wr => ∃ k : Nat, k ≤ n ∧ i = .int .i64 k ∧ Rows2 P Q L M n (fxTo l n k) (fxTo l n k) wr ∧ Below P w wr) (fun i _ => n - (intOf i).toNat)
    case atStart => exact ⟨0, Nat.zero_le _, rfl, HR.out, by rw [← HP.out]; exact HB.out⟩
    case round =>
      obtain ⟨k, hk, rfl, hr, hbl⟩ := hrel
      have HRk := Lib.hid hr
      have HBk := Lib.hid hbl
      clear hr hbl HR HB
      by_cases hkn : k < n
      · obtain ⟨b, off, rfl, hlt, hcell⟩ := H3.out (by omega)
        rw [HP.out] at hlt
        have k0 := (HBk.out.cell (p := ⟨b, off + k * 2 + 0, none⟩) hlt).trans (hcell k hkn 0 (by omega))
        have k1 := (HBk.out.cell (p := ⟨b, off + k * 2 + 1, none⟩) hlt).trans (hcell k hkn 1 (by omega))
        rw [Nat.add_zero] at k0
        have HFN : Hid (fxTo l n (k + 1) = if gf l k 0 = 0 then (fxTo l n k).set k (gf l k 1) else fxTo l n k) := rfl
        obtain ⟨q0, hq0⟩ : ∃ q, gf l k 0 = q := ⟨_, rfl⟩
        obtain ⟨q1, hq1⟩ : ∃ q, gf l k 1 = q := ⟨_, rfl⟩
        rw [hq0] at k0 HFN
        rw [hq1] at k1 HFN
        have hkn' : (k : Int) < (n : Int) := by omega
        have hk0 : (0 : Int) ≤ (k : Int) := by omega
        clear hcell hlt hq0 hq1
        have HBS : Hid (P ≤ wr.heap.size) := by have := HBk.out.size; rw [HP.out] at this; exact this
        have HRA : Hid (∀ o, Rows2 P Q L M n (fxTo l n k) (fxTo l n k) (wr.alloc o)) := fun o => HRk.out.below ((Below.refl wr.heap.size wr).alloc (Nat.le_refl _) _) (Nat.le_refl _)
        have HBA : Hid (∀ o, Below P w (wr.alloc o)) := fun o => HBk.out.alloc HBS.out _
        by_cases hz : q0 = 0
        · subst hz
          rw [if_pos rfl] at HFN
          go_upto_region 6 with fail
          have c1 : (wr.alloc (.cells #[.int .i64 0, .int .i64 q1] 42)).cell? ⟨wr.heap.size, 1, none⟩ = some (.int .i64 q1) := by go_simp
          obtain ⟨W5, hW5⟩ : ∃ W, wr.alloc (.cells #[.int .i64 0, .int .i64 q1] 42) = W := ⟨_, rfl⟩
          have HR5 := Lib.hid (HRA.out (.cells #[.int .i64 0, .int .i64 q1] 42))
          have HB5 := Lib.hid (HBA.out (.cells #[.int .i64 0, .int .i64 q1] 42))
          rw [hW5] at HR5 HB5 c1 ⊢
          clear hW5 k0 k1
          have cp := HR5.out.p.cell
          have cq := HR5.out.q.cell
          have cl := HR5.out.l.cell (i := k) (by rw [fxTo_len]; exact hkn)
          have cm := HR5.out.m.cell (i := k) (by rw [fxTo_len]; exact hkn)
          have fl := HR5.out.l.free k
          have fm := HR5.out.m.free k
          have hlm := HR5.out.lm
          have hml := HR5.out.lm.symm
          have hpl := HR5.out.pl
          have hpm := HR5.out.pm
          have hql := HR5.out.ql
          have hqm := HR5.out.qm
          obtain ⟨hs, hhs⟩ : ∃ x, wr.heap.size = x := ⟨_, rfl⟩
          have hsl : hs ≠ L := by have := HRk.out.lt; omega
          have hsm : hs ≠ M := by have := HRk.out.lt; omega
          rw [hhs] at c1 ⊢
          clear hhs
          go_region
          all_goals
            go_wp2
            go_roundw
            case rel => exact ⟨k + 1, by omega, by go_num, by rw [HFN.out]; first | exact ((HR5.out.setL k q1).setM k q1).drew | exact ((HR5.out.setM k q1).setL k q1).drew, by first | exact ((HB5.out.setCell (p := ⟨L, k, none⟩) HL0.out _).setCell (p := ⟨M, k, none⟩) HM0.out _).drew | exact ((HB5.out.setCell (p := ⟨M, k, none⟩) HM0.out _).setCell (p := ⟨L, k, none⟩) HL0.out _).drew⟩
            case measure => simp [intOf]; omega
        · have e0 : (q0 == 0) = false := by simp [hz]
          rw [if_neg hz] at HFN
          clear hz
          go_wp2_with fail
          go_roundw
          case rel => exact ⟨k + 1, by omega, by go_num, by rw [HFN.out]; exact HRA.out _, HBA.out _⟩
          case measure => simp [intOf]; omega
      · obtain rfl : n = k := by omega
        have HFL : Hid ((fxTo l n n).length = n) := fxTo_len l n n
        go_wp2_with fail
        go_loopw [46] (fun i wx => i = .int .i64 0 ∧ wx = wr) (fun _ _ => 0)
        case atStart => exact ⟨rfl, rfl⟩
        case round =>
          obtain ⟨rfl, rfl⟩ := hrel
          go_wp2_with (go_at_call 42; refine (raise_any P Q L M n P _ _ _ HRk.out hn HFL.out HFL.out HM0.out).mono ?_; rintro e w2 ⟨rfl, hr2, hb2⟩; have HR2 := Lib.hid hr2; have HB2 := Lib.hid hb2; clear hr2 hb2)
          obtain ⟨ms, hms⟩ : ∃ ms, mxTo (fxTo l n n) (fxTo l n n) n = ms := ⟨_, rfl⟩
          have HML : Hid (ms.length = n) := by show _ = _; rw [← hms, mxTo_len]; exact HFL.out
          have HMS := Lib.hid hms
          rw [hms] at HR2
          clear hms
          go_loopw [92] (fun i wx => i = .int .i64 0 ∧ wx = w2) (fun _ _ => 0)
          case atStart => exact ⟨rfl, rfl⟩
          case round =>
            obtain ⟨rfl, hwx⟩ := hrel
            subst hwx
            go_wp2_with fail
            obtain ⟨w2, rfl⟩ : ∃ x : World, x = wr := ⟨_, rfl⟩
            go_loopw [109] (fun i wx => i = .int .i64 0 ∧ wx = w2) (fun _ _ => 0)
            case atStart => exact ⟨rfl, rfl⟩
            case round =>
              obtain ⟨rfl, hwx⟩ := hrel
              subst hwx
              go_wp2_with (go_at_call 42; refine (raise_any P Q L M n P _ _ _ HR2.out hn HFL.out HML.out HM0.out).mono ?_; rintro e w3 ⟨rfl, hr3, hb3⟩; have HR3 := Lib.hid hr3; have HB3 := Lib.hid hb3; have cp := hr3.p.cell; have cq := hr3.q.cell; have fp := hr3.p.free 0; have fq := hr3.q.free 0; have hpq := hr3.pq; have hqp := hr3.pq.symm; clear hr3 hb3)
              have z1 : (w3.setCell ⟨P, 0, none⟩ (.slice (some ⟨L, 0, none⟩) n n)).cell? ⟨P, 0, none⟩ = some (.slice (some ⟨L, 0, none⟩) n n) := (HR3.out.p.set _).cell
              have z2 : (w3.setCell ⟨Q, 0, none⟩ (.slice (some ⟨M, 0, none⟩) n n)).cell? ⟨Q, 0, none⟩ = some (.slice (some ⟨M, 0, none⟩) n n) := (HR3.out.q.set _).cell
              go_region
              all_goals go_wp2
              all_goals (try simp only [Exit.inBlock, Exit.then])
              all_goals
                refine bodyPost_ret (v := .tuple #[.slice (some ⟨L, 0, none⟩) n n, .slice (some ⟨M, 0, none⟩) n n]) (by simp [results, Try.results29, go_sem, z1, z2, cp, cq, hpq, hqp]) rfl ?_
              · have hR := HR3.out
                refine ⟨L, M, rfl, ?_, ?_, hR.lm, by rw [HP.out]; exact HL0.out, by rw [HP.out]; exact HM0.out, ?_⟩
                · exact ((hR.l.set_other hR.pl 0 _).set_other hR.ql 0 _).drew
                · rw [HMS.out]; exact ((hR.m.set_other hR.pm 0 _).set_other hR.qm 0 _).drew
                · rw [HP.out]; exact ((((HBk.out.trans HB2.out).trans HB3.out).setCell (p := ⟨P, 0, none⟩) (Nat.le_refl _) _).setCell (p := ⟨Q, 0, none⟩) (by have := HQ.out; show P ≤ Q; omega) _).drew
end Go.Proofs.Ytadkkkdecejkeaa

