/- step of package box: one round of Resolve. -/
import Derived.Test.YtadkkkdecejkeaaBoxLine
import Derived.Test.YtadkkkdecejkeaaShare
import Derived.Test.YtadkkkdecejkeaaTail
import Derived.Deep.RegionHeld3
import Derived.Deep.AppendLies
import Derived.Deep.DrawnRows
import Derived.IntWalk
namespace Go.Proofs.Ytadkkkdecejkeaa
open Go.RowKit
attribute [local go_sem ↓] Go.wp_at_zero Go.wp_at_succ
set_option linter.unusedVariables false
set_option linter.unusedSimpArgs false

/-- w' is w but for the blocks a and b, and new ones. -/
structure Turn (a b : Nat) (w w' : World) : Prop where
  os : w'.os = w.os
  tape : w'.tape = w.tape
  output : w'.output = w.output
  size : w.heap.size ≤ w'.heap.size
  block : ∀ k, k < w.heap.size → k ≠ a → k ≠ b → w'.heap[k]? = w.heap[k]?
theorem Turn.of_below {a b : Nat} {w w' : World} (h : Below w.heap.size w w') : Turn a b w w' := ⟨h.os, h.tape, h.output, h.size, fun k hk _ _ => h.block k hk⟩
theorem Turn.trans {a b : Nat} {u v w : World} (h : Turn a b u v) (k : Turn a b v w) : Turn a b u w :=
  ⟨k.os.trans h.os, k.tape.trans h.tape, k.output.trans h.output, Nat.le_trans h.size k.size, fun j hj ha hb => (k.block j (Nat.lt_of_lt_of_le hj h.size) ha hb).trans (h.block j hj ha hb)⟩
theorem Turn.set {a b : Nat} (w : World) {c : Nat} (hc : c = a ∨ c = b) (i : Nat) (v : Value) : Turn a b w (w.setCell ⟨c, i, none⟩ v) := by
  have hb : Below c w (w.setCell ⟨c, i, none⟩ v) := (Below.refl c w).setCell (p := ⟨c, i, none⟩) (Nat.le_refl _) v
  exact ⟨hb.os, hb.tape, hb.output, hb.size, fun k _ h1 h2 => Below.heap_setCell _ _ _ _ (fun e => by rcases hc with rfl | rfl <;> simp_all)⟩
theorem Turn.drew {a b : Nat} {u v : World} (h : Turn a b u v) : Turn a b u v.drew := ⟨h.os, h.tape, h.output, h.size, h.block⟩
theorem Turn.drewN {a b : Nat} {u v : World} (h : Turn a b u v) (d : Nat) : Turn a b u (v.drewN d) := ⟨h.os, h.tape, h.output, h.size, h.block⟩
theorem Turn.cell {a b : Nat} {u v : World} (h : Turn a b u v) {p : Addr} (hp : p.block < u.heap.size) (ha : p.block ≠ a) (hb : p.block ≠ b) : v.cell? p = u.cell? p := World.cell?_of_block (w := u) (h.block _ hp ha hb)

/-- Two rows of the call's own that lie apart. -/
def apart (a b : Value) : Prop := (a.ownBlock = none ∧ b.ownBlock = none) ∨ ∃ x y, a.ownBlock = some x ∧ b.ownBlock = some y ∧ x ≠ y
theorem apart.ne {a b : Value} (h : apart a b) : b.ownBlock = none ∨ b.ownBlock ≠ a.ownBlock := by
  rcases h with ⟨_, h⟩ | ⟨x, y, h1, h2, h3⟩
  · exact .inl h
  · right; rw [h1, h2]; exact fun e => h3 (Option.some.inj e).symm
theorem ne_of_lies {u3 u4 : Value} {g1 H : Nat} (hA : apart u3 u4) (hat : u3.ownBlock = some g1 ∨ g1 = H) (hlt : ∀ y, u4.ownBlock = some y → y < H) : u4.ownBlock ≠ some g1 := by
  intro e
  rcases hat with h | h
  · rcases hA with ⟨h1, _⟩ | ⟨x, y, h1, h2, h3⟩
    · rw [h1] at h; cases h
    · rw [h1] at h; rw [h2] at e; exact h3 ((Option.some.inj h).trans (Option.some.inj e).symm)
  · have := hlt _ e; omega
theorem apart_ne {u4 : Value} {g1 g2 H B : Nat} (hne : u4.ownBlock ≠ some g1) (hlt : g1 < B) (hat : u4.ownBlock = some g2 ∨ g2 = H) (hBH : B ≤ H) (e : g1 = g2) : False := by
  rcases hat with h | h
  · exact hne (by rw [h, e])
  · omega
theorem own_form {w : World} {base e sz k : Nat} {v : Value} {xs : List Value} (h : w.ownsRow base e sz v k xs) : ∃ a c, v = .slice a k c := by
  rcases h.2 with ⟨rfl, rfl⟩ | ⟨g, cap, cur, rfl, _⟩
  · exact ⟨_, _, rfl⟩
  · exact ⟨_, _, rfl⟩
theorem own_below {w w' : World} {base e sz k : Nat} {v : Value} {xs : List Value} (h : w.ownsRow base e sz v k xs) (hb : Below w.heap.size w w') : w'.ownsRow base e sz v k xs :=
  h.kept (row := some w.heap.size) ⟨hb.os, hb.tape, hb.output, hb.size, fun q hq _ => hb.block q hq⟩ (.inr fun e => by have := (h.lt _ e).2; omega)
theorem Below_drewN {B : Nat} {a w : World} (h : Below B a w) (n : Nat) : Below B a (w.drewN n) := ⟨h.os, h.tape, h.output, h.size, h.block⟩
def natV (k : Nat) : Value := .int .i64 (k : Int)
theorem info_int1 : (Try.prog.info? 3).map (fun i => (i.zero, i.size, i.bytes)) = some (some (.int .i64 0), 1, 8) := by kernel_rfl

/-- A round has been made: st is the row's new state. -/
def Stepped (X SZ FR : Nat) (vl vw : Value) (n : Nat) (sp : Int) (g : Bool) (st : St) (w : World) (e : Ending) (w' : World) : Prop :=
  e = .returned (.tuple #[]) ∧ Line X SZ FR vl vw n sp g st w' ∧ Turn SZ FR w w'

set_option maxHeartbeats 20000000 in
set_option maxRecDepth 100000 in
theorem bstep_any (X SZ FR b off cap wb woff wcap n : Nat) (sp : Int) (g : Bool) (st : St) (l : List Rec) (w : World)
    (hL : Line X SZ FR (.slice (some ⟨b, off, none⟩) n cap) (.slice (some ⟨wb, woff, none⟩) n wcap) n sp g st w) (HN : Hid (l.length = n)) (hn : n ≤ 100) (hf : flexTo l l.length) (hst : StOk n st) (hsp : -104857600 ≤ sp ∧ sp ≤ 1048576)
    (hb : b < w.heap.size) (hbs : b ≠ SZ) (hbf : b ≠ FR) (hwb : wb < w.heap.size)
    (hc : ∀ i, i < n → ∀ j, j < 5 → w.cell? ⟨b, off + i * 5 + j, none⟩ = some (.int .i64 (gf l i j))) (hw : ∀ i, i < n → w.cell? ⟨wb, woff + i, none⟩ = some (.int .i64 (wOf l g i))) :
    Calls Try.prog 47 #[.pointer (some ⟨X, 0, none⟩)] w (Stepped X SZ FR (.slice (some ⟨b, off, none⟩) n cap) (.slice (some ⟨wb, woff, none⟩) n wcap) n sp g (stepB l g sp st) w) := by
  obtain ⟨i0, hi0, hz0, hz1, hz2⟩ := info_parts info_int1
  obtain ⟨x0, x1, x2, x3, x4, x5⟩ := hL.cells
  have HL := Lib.hid hL
  have HF := Lib.hid hf
  have HST := Lib.hid hst
  have HC := Lib.hid hc
  have HW := Lib.hid hw
  have HBS : Hid (b ≠ SZ ∧ b ≠ FR) := ⟨hbs, hbf⟩
  have HBW : Hid (b < w.heap.size ∧ wb < w.heap.size ∧ X < w.heap.size ∧ SZ < w.heap.size ∧ FR < w.heap.size) := ⟨hb, hwb, hL.lt⟩
  obtain ⟨hsp0, hsp1⟩ := hsp
  have HLF : Hid (st.2.length = n) := hst.lf
  have hn' : (n : Int) ≤ 100 := by omega
  clear hL hf hst hc hw hbs hbf hb hwb
  go_enter Try.func47, Try.ntmps47
  go_wp2_with fail
  clear x0 x1 x2 x3 x4 x5
  go_loopw [2, 3, 4, 26] (fun fr op wt i wr => ∃ k : Nat, k ≤ n ∧ i = .int .i64 k ∧ fr = .int .i64 (freeTo l sp st.1 st.2 k) ∧ wr.ownsRow w.heap.size 3 1 op (opensTo st.2 k).length ((opensTo st.2 k).map natV) ∧ wr.ownsRow w.heap.size 3 1 wt (opensTo st.2 k).length ((wts l g (opensTo st.2 k)).map (Value.int .i64)) ∧ apart op wt ∧ Below w.heap.size w wr) (fun _ _ _ i _ => n - (intOf i).toNat)
  case atStart => exact ⟨0, Nat.zero_le _, rfl, rfl, World.ownsRow_nil _ _ _ _, World.ownsRow_nil _ _ _ _, .inl ⟨rfl, rfl⟩, Below.refl _ _⟩
  case round =>
    obtain ⟨k, hk, rfl, rfl, hO, hW, hA, hbl⟩ := hrel
    have HO := Lib.hid hO
    have HWW := Lib.hid hW
    have HA := Lib.hid hA
    have HB := Lib.hid hbl
    have hfb := freeTo_bd (sp := sp) HST.out HN.out HF.out k hk
    clear hO hW hA hbl
    by_cases hkn : k < n
    · have k0 := (HB.out.cell (p := ⟨b, off + k * 5 + 0, none⟩) HBW.out.1).trans (HC.out k hkn 0 (by omega))
      have k1 := (HB.out.cell (p := ⟨b, off + k * 5 + 1, none⟩) HBW.out.1).trans (HC.out k hkn 1 (by omega))
      have k2 := (HB.out.cell (p := ⟨b, off + k * 5 + 2, none⟩) HBW.out.1).trans (HC.out k hkn 2 (by omega))
      have k3 := (HB.out.cell (p := ⟨b, off + k * 5 + 3, none⟩) HBW.out.1).trans (HC.out k hkn 3 (by omega))
      have k4 := (HB.out.cell (p := ⟨b, off + k * 5 + 4, none⟩) HBW.out.1).trans (HC.out k hkn 4 (by omega))
      rw [Nat.add_zero] at k0
      have hfx := (flexB_iff.1 (HF.out k (by rw [HN.out]; exact hkn))).1
      obtain ⟨q0, hq0⟩ : ∃ q, gf l k 0 = q := ⟨_, rfl⟩
      obtain ⟨q1, hq1⟩ : ∃ q, gf l k 1 = q := ⟨_, rfl⟩
      obtain ⟨q2, hq2⟩ : ∃ q, gf l k 2 = q := ⟨_, rfl⟩
      obtain ⟨q3, hq3⟩ : ∃ q, gf l k 3 = q := ⟨_, rfl⟩
      obtain ⟨q4, hq4⟩ : ∃ q, gf l k 4 = q := ⟨_, rfl⟩
      obtain ⟨om, hom⟩ : ∃ q, wOf l g k = q := ⟨_, rfl⟩
      obtain ⟨fr, hfr⟩ : ∃ q, freeTo l sp st.1 st.2 k = q := ⟨_, rfl⟩
      rw [hq0] at k0 hfx
      rw [hq1] at k1
      rw [hq2] at k2
      rw [hq3] at k3
      rw [hq4] at k4
      rw [hfr] at hfb ⊢
      have HQ0 := Lib.hid hq0
      have HOM := Lib.hid hom
      have HFR := Lib.hid hfr
      have HLr : Hid (Line X SZ FR (.slice (some ⟨b, off, none⟩) n cap) (.slice (some ⟨wb, woff, none⟩) n wcap) n sp g st (wr.alloc (.cells #[.int .i64 q0, .int .i64 q1, .int .i64 q2, .int .i64 q3, .int .i64 q4] 60))) := (HL.out.below HB.out (Nat.le_refl _)).below ((Below.refl wr.heap.size wr).alloc (Nat.le_refl _) _) (Nat.le_refl _)
      have HBA : Hid (Below w.heap.size w (wr.alloc (.cells #[.int .i64 q0, .int .i64 q1, .int .i64 q2, .int .i64 q3, .int .i64 q4] 60))) := HB.out.alloc HB.out.size _
      obtain ⟨x0, x1, x2, x3, x4, x5⟩ := HLr.out.cells
      have hkn' : (k : Int) < (n : Int) := by omega
      clear hq0 hq1 hq2 hq3 hq4 hom hfr
      cases hfk : gb st.2 k with
      | true =>
        have cf : (wr.alloc (.cells #[.int .i64 q0, .int .i64 q1, .int .i64 q2, .int .i64 q3, .int .i64 q4] 60)).cell? ⟨FR, k, none⟩ = some (.bool true) := by rw [← hfk]; exact HLr.out.f.cell (by rw [HLF.out]; exact hkn)
        have cs : (wr.alloc (.cells #[.int .i64 q0, .int .i64 q1, .int .i64 q2, .int .i64 q3, .int .i64 q4] 60)).cell? ⟨SZ, k, none⟩ = some (.int .i64 (gz st.1 k)) := HLr.out.s.cell (by rw [HST.out.ls]; exact hkn)
        have hsb := HST.out.bd k hkn
        have HFN : Hid (freeTo l sp st.1 st.2 (k + 1) = fr - gz st.1 k) := by show _ = _; simp only [freeTo]; rw [if_pos hfk, HFR.out]
        have HON : Hid (opensTo st.2 (k + 1) = opensTo st.2 k) := opensTo_yes hfk
        obtain ⟨z, hz⟩ : ∃ z, gz st.1 k = z := ⟨_, rfl⟩
        rw [hz] at cs hsb
        have HZ := Lib.hid hz
        clear hfk hz
        go_wp2
        go_roundw
        case rel => exact ⟨k + 1, by omega, by go_num, by rw [HFN.out, HZ.out], by rw [HON.out]; exact HO.out.alloc _, by rw [HON.out]; exact HWW.out.alloc _, HA.out, HBA.out⟩
        case measure => simp [intOf]; omega
      | false =>
        have cf : (wr.alloc (.cells #[.int .i64 q0, .int .i64 q1, .int .i64 q2, .int .i64 q3, .int .i64 q4] 60)).cell? ⟨FR, k, none⟩ = some (.bool false) := by rw [← hfk]; exact HLr.out.f.cell (by rw [HLF.out]; exact hkn)
        have HFN : Hid (freeTo l sp st.1 st.2 (k + 1) = fr - q0) := by show _ = _; simp only [freeTo]; rw [if_neg (by rw [hfk]; simp), HFR.out, HQ0.out]
        have HON : Hid (opensTo st.2 (k + 1) = opensTo st.2 k ++ [k]) := opensTo_no hfk
        clear hfk
        go_wp2_with fail
        obtain ⟨W0, hW0⟩ : ∃ W0, wr.alloc (.cells #[.int .i64 q0, .int .i64 q1, .int .i64 q2, .int .i64 q3, .int .i64 q4] 60) = W0 := ⟨_, rfl⟩
        have HO0 : Hid (W0.ownsRow w.heap.size 3 1 u3 (opensTo st.2 k).length ((opensTo st.2 k).map natV)) := by show World.ownsRow _ _ _ _ _ _ _; rw [← hW0]; exact HO.out.alloc _
        have HWW0 : Hid (W0.ownsRow w.heap.size 3 1 u4 (opensTo st.2 k).length ((wts l g (opensTo st.2 k)).map (Value.int .i64))) := by show World.ownsRow _ _ _ _ _ _ _; rw [← hW0]; exact HWW.out.alloc _
        rw [hW0] at HBA x3 ⊢
        have cw : W0.cell? ⟨wb, woff + k, none⟩ = some (.int .i64 om) := ((HBA.out.cell (p := ⟨wb, woff + k, none⟩) HBW.out.2.1).trans (HW.out k hkn)).trans (by rw [HOM.out])
        clear HO HWW HLr cf hW0 k0 k1 k2 k3 k4 x0 x1 x2 x4 x5
        obtain ⟨m, hm⟩ : ∃ m, (opensTo st.2 k).length = m := ⟨_, rfl⟩
        have hmk : m ≤ 100 := by have := opensTo_le st.2 k; omega
        obtain ⟨OM, hOM⟩ : ∃ x, ((opensTo st.2 k).map natV) = x := ⟨_, rfl⟩
        obtain ⟨WM, hWM⟩ : ∃ x, ((wts l g (opensTo st.2 k)).map (Value.int .i64)) = x := ⟨_, rfl⟩
        rw [hm, hOM] at HO0
        rw [hm, hWM] at HWW0
        have HM := Lib.hid hm
        have HOMM := Lib.hid hOM
        have HWMM := Lib.hid hWM
        have HX1 : Hid (some X ≠ u3.ownBlock) := fun e => by have := (HO0.out.lt _ e.symm).1; have := HBW.out.2.2.1; omega
        have HX2 : Hid (some wb ≠ u3.ownBlock) := fun e => by have := (HO0.out.lt _ e.symm).1; have := HBW.out.2.1; omega
        have HX3 : Hid (some X ≠ u4.ownBlock) := fun e => by have := (HWW0.out.lt _ e.symm).1; have := HBW.out.2.2.1; omega
        have HX4 : Hid (some wb ≠ u4.ownBlock) := fun e => by have := (HWW0.out.lt _ e.symm).1; have := HBW.out.2.1; omega
        have hk0 : (0 : Int) ≤ (k : Int) := by omega
        clear hm hOM hWM
        go_region_held3 (fun w' => w'.cell? ⟨X, 3, none⟩ = some (.slice (some ⟨wb, woff, none⟩) n wcap) ∧ w'.cell? ⟨wb, woff + k, none⟩ = some (.int .i64 om)) ((first | go_keep | (go_split_ands; exact ⟨HG2.out.cell (a := ⟨X, 3, none⟩) (by assumption) HX3.out, HG2.out.cell (a := ⟨wb, woff + k, none⟩) (by assumption) HX4.out⟩) | (go_split_ands; exact ⟨HG1.out.cell (a := ⟨X, 3, none⟩) (by assumption) HX1.out, HG1.out.cell (a := ⟨wb, woff + k, none⟩) (by assumption) HX2.out⟩))) (first | ((refine step_append_lies _ (by rfl) _ _ _ (by rfl) w.heap.size 3 i0 _ 1 8 Try.underlying26 hi0 hz0 hz1 hz2 rfl (by omega) u3 m OM (by rfl) ((HO0.out.alloc _).drew) ⟨W0.heap.size, 0, none⟩ 1 1 [natV k] (by rfl) (by rfl) (World.news_of_block (cs := #[natV k]) (t := 3) (fr := (0, 0)) (heap_alloc_new W0 _)) (by simp [natV, Value.oneCell']) (by omega) (by unfold maxLen; omega) (by omega) (by have := HBA.out.size; simp; omega) _ rfl ?_; intro g1 cap1 w1 hown1 hgrow1 hat1 hlt1; have HG1 := Lib.hid hgrow1; have HOW1 := Lib.hid hown1; have HLT1 := Lib.hid hlt1; have HWk := Lib.hid (((HWW0.out.alloc (.cells #[natV k] 3)).drew).kept hgrow1 HA.out.ne); have HB1 : Hid (Below w.heap.size w w1) := ((HBA.out.alloc HBA.out.size (.cells #[natV k] 3)).drew).grown hgrow1 (by have := HBA.out.size; simp; omega) (fun q hq => (HO0.out.lt q hq).1); have HNE : Hid (u4.ownBlock ≠ some g1) := ne_of_lies HA.out hat1 (fun y hy => by have := (HWW0.out.lt y hy).2; simp; omega); have HNW : Hid True := trivial; clear hown1 hgrow1 hat1 hlt1)) | ((refine step_append_lies _ (by rfl) _ _ _ (by rfl) w.heap.size 3 i0 _ 1 8 Try.underlying26 hi0 hz0 hz1 hz2 rfl (by omega) u3 m OM (by rfl) (((HO0.out.alloc _).alloc _).drew) ⟨W0.heap.size, 0, none⟩ 1 1 [natV k] (by rfl) (by rfl) (World.news_of_block (cs := #[natV k]) (t := 3) (fr := (0, 0)) ((Below.heap_alloc _ _ _ (by simp)).trans (heap_alloc_new W0 _))) (by simp [natV, Value.oneCell']) (by omega) (by unfold maxLen; omega) (by omega) (by have := HBA.out.size; simp; omega) _ rfl ?_; intro g1 cap1 w1 hown1 hgrow1 hat1 hlt1; have HG1 := Lib.hid hgrow1; have HOW1 := Lib.hid hown1; have HLT1 := Lib.hid hlt1; have HWk := Lib.hid ((((HWW0.out.alloc (.cells #[natV k] 3)).alloc (.cells #[.int .i64 om] 3)).drew).kept hgrow1 HA.out.ne); have HB1 : Hid (Below w.heap.size w w1) := (((HBA.out.alloc HBA.out.size (.cells #[natV k] 3)).alloc (by have := HBA.out.size; simp; omega) (.cells #[.int .i64 om] 3)).drew).grown hgrow1 (by have := HBA.out.size; simp; omega) (fun q hq => (HO0.out.lt q hq).1); have HNE : Hid (u4.ownBlock ≠ some g1) := ne_of_lies HA.out hat1 (fun y hy => by have := (HWW0.out.lt y hy).2; simp; omega); have HNW : Hid (w1.heap[W0.heap.size + 1]? = some (.cells #[.int .i64 om] 3 (0, 0))) := (HG1.out.block _ (by simp) (fun e => by have := (HO0.out.lt _ e.symm).2; omega)).trans (by have := heap_alloc_new (W0.alloc (.cells #[natV k] 3)) (.cells #[.int .i64 om] 3); rwa [World.size_alloc] at this); clear hown1 hgrow1 hat1 hlt1)) | ((refine step_append_lies _ (by rfl) _ _ _ (by rfl) w.heap.size 3 i0 _ 1 8 Try.underlying26 hi0 hz0 hz1 hz2 rfl (by omega) u3 m OM (by rfl) (((HO0.out.alloc _).alloc _).drew) ⟨W0.heap.size + 1, 0, none⟩ 1 1 [natV k] (by rfl) (by rfl) (World.news_of_block (cs := #[natV k]) (t := 3) (fr := (0, 0)) (by have := heap_alloc_new (W0.alloc (.cells #[.int .i64 om] 3)) (.cells #[natV k] 3); rwa [World.size_alloc] at this)) (by simp [natV, Value.oneCell']) (by omega) (by unfold maxLen; omega) (by omega) (by have := HBA.out.size; simp; omega) _ rfl ?_; intro g1 cap1 w1 hown1 hgrow1 hat1 hlt1; have HG1 := Lib.hid hgrow1; have HOW1 := Lib.hid hown1; have HLT1 := Lib.hid hlt1; have HWk := Lib.hid ((((HWW0.out.alloc (.cells #[.int .i64 om] 3)).alloc (.cells #[natV k] 3)).drew).kept hgrow1 HA.out.ne); have HB1 : Hid (Below w.heap.size w w1) := (((HBA.out.alloc HBA.out.size (.cells #[.int .i64 om] 3)).alloc (by have := HBA.out.size; simp; omega) (.cells #[natV k] 3)).drew).grown hgrow1 (by have := HBA.out.size; simp; omega) (fun q hq => (HO0.out.lt q hq).1); have HNE : Hid (u4.ownBlock ≠ some g1) := ne_of_lies HA.out hat1 (fun y hy => by have := (HWW0.out.lt y hy).2; simp; omega); have HNW : Hid (w1.heap[W0.heap.size]? = some (.cells #[.int .i64 om] 3 (0, 0))) := (HG1.out.block _ (by simp; omega) (fun e => by have := (HO0.out.lt _ e.symm).2; omega)).trans ((Below.heap_alloc _ _ _ (by simp)).trans (heap_alloc_new W0 _)); clear hown1 hgrow1 hat1 hlt1)) | ((refine step_append_lies _ (by rfl) _ _ _ (by rfl) w.heap.size 3 i0 _ 1 8 Try.underlying26 hi0 hz0 hz1 hz2 rfl (by omega) u4 m WM (by rfl) (HWk.out.alloc _) ⟨w1.heap.size, 0, none⟩ 1 1 [.int .i64 om] (by rfl) (by rfl) (World.news_of_block (cs := #[.int .i64 om]) (t := 3) (fr := (0, 0)) (heap_alloc_new w1 _)) (by simp [Value.oneCell']) (by omega) (by unfold maxLen; omega) (by omega) (by have := HB1.out.size; simp; omega) _ rfl ?_; intro g2 cap2 w2 hown2 hgrow2 hat2 hlt2; have HG2 := Lib.hid hgrow2; have HW2 := Lib.hid hown2; have HO2 := Lib.hid ((HOW1.out.alloc (.cells #[.int .i64 om] 3)).kept hgrow2 (.inr (fun e => HNE.out e.symm))); have HB2 : Hid (Below w.heap.size w w2) := (HB1.out.alloc HB1.out.size (.cells #[.int .i64 om] 3)).grown hgrow2 (by have := HB1.out.size; simp; omega) (fun q hq => (HWW0.out.lt q hq).1); have HA2 : Hid (apart (.slice (some ⟨g1, 0, none⟩) (m + 1) cap1) (.slice (some ⟨g2, 0, none⟩) (m + 1) cap2)) := .inr ⟨g1, g2, rfl, rfl, fun e => apart_ne HNE.out HLT1.out hat2 (by simp) e⟩; clear hown2 hgrow2 hat2 hlt2)) | ((refine step_append_lies _ (by rfl) _ _ _ (by rfl) w.heap.size 3 i0 _ 1 8 Try.underlying26 hi0 hz0 hz1 hz2 rfl (by omega) u4 m WM (by rfl) HWk.out _ 1 1 [.int .i64 om] (by rfl) (by rfl) (World.news_of_block (cs := #[.int .i64 om]) (t := 3) (fr := (0, 0)) HNW.out) (by simp [Value.oneCell']) (by omega) (by unfold maxLen; omega) (by omega) (by have := HB1.out.size; simp; omega) _ rfl ?_; intro g2 cap2 w2 hown2 hgrow2 hat2 hlt2; have HG2 := Lib.hid hgrow2; have HW2 := Lib.hid hown2; have HO2 := Lib.hid (HOW1.out.kept hgrow2 (.inr (fun e => HNE.out e.symm))); have HB2 : Hid (Below w.heap.size w w2) := (HB1.out).grown hgrow2 (by have := HB1.out.size; simp; omega) (fun q hq => (HWW0.out.lt q hq).1); have HA2 : Hid (apart (.slice (some ⟨g1, 0, none⟩) (m + 1) cap1) (.slice (some ⟨g2, 0, none⟩) (m + 1) cap2)) := .inr ⟨g1, g2, rfl, rfl, fun e => apart_ne HNE.out HLT1.out hat2 (by simp) e⟩; clear hown2 hgrow2 hat2 hlt2)))
        all_goals
          have HOF : Hid (w2.ownsRow w.heap.size 3 1 (.slice (some ⟨g1, 0, none⟩) (m + 1) cap1) (opensTo st.2 (k + 1)).length ((opensTo st.2 (k + 1)).map natV)) := by
            show World.ownsRow _ _ _ _ _ _ _
            rw [HON.out, List.map_append, List.length_append, HM.out, HOMM.out]; exact HO2.out
          have HWF : Hid (w2.ownsRow w.heap.size 3 1 (.slice (some ⟨g2, 0, none⟩) (m + 1) cap2) (opensTo st.2 (k + 1)).length ((wts l g (opensTo st.2 (k + 1))).map (Value.int .i64))) := by
            show World.ownsRow _ _ _ _ _ _ _
            rw [HON.out, List.length_append, HM.out, wts, List.map_append, List.map_append, ← wts, HWMM.out]
            have := HW2.out
            rw [← HOM.out] at this
            exact this
          go_split_ands
          go_wp2
          go_roundw
          case rel => exact ⟨k + 1, by omega, by go_num, by rw [HFN.out], HOF.out, HWF.out, HA2.out, HB2.out⟩
          case measure => simp [intOf]; omega
    · obtain rfl : k = n := by omega
      obtain ⟨fr, hfr⟩ : ∃ q, freeTo l sp st.1 st.2 k = q := ⟨_, rfl⟩
      rw [hfr] at hfb ⊢
      have HFR := Lib.hid hfr
      have HOI : Hid (opens st.2 = opensTo st.2 k) := by show _ = _; unfold opens; rw [HLF.out]
      have HTOT : Hid (tot l g sp st.1 st.2 = max (sgn g * fr) 0) := by show _ = _; unfold tot; rw [HLF.out, HFR.out]
      have HWI := Lib.hid (ownsRow_isInts HWW.out)
      have HLr := Lib.hid (HL.out.below HB.out (Nat.le_refl _))
      obtain ⟨x0, x1, x2, x3, x4, x5⟩ := HLr.out.cells
      clear hfr x0 x1 x3 x4 x5
      go_upto_if 70 with fail
      go_cut [7] (fun s7 wx => s7 = .int .i64 (sgn g) ∧ wx = wr)
      case first =>
        cases g
        all_goals
          go_wp2
          go_meet
          exact ⟨rfl, rfl⟩
      case rest =>
        obtain ⟨rfl, rfl⟩ := hcut
        obtain ⟨wa, rfl⟩ : ∃ x : World, x = wc := ⟨_, rfl⟩
        clear x2
        go_upto_region 13 with fail
        go_cut [7, 8] (fun s7 s8 wx => s7 = .int .i64 (sgn g) ∧ IsInts wx s8 (prts l g sp st.1 st.2) ∧ Below wa.heap.size wa wx)
        case first =>
          obtain ⟨sg, hsg⟩ : ∃ q, sgn g = q := ⟨_, rfl⟩
          have hs1 : sg = 1 ∨ sg = -1 := by rw [← hsg]; cases g <;> simp [sgn]
          have HSG := Lib.hid hsg
          rw [hsg] at HTOT ⊢
          have HPR : Hid (prts l g sp st.1 st.2 = shareParts (max (sg * fr) 0) (wts l g (opensTo st.2 k))) := by show _ = _; unfold prts; rw [HTOT.out, HOI.out]
          clear hsg
          by_cases hp : 0 < sg * fr
          · have HMX : Hid (max (sg * fr) 0 = sg * fr) := by show _ = _; omega
            rcases hs1 with rfl | rfl
            all_goals
              go_wp2_with (go_at_call 31; refine (share_any _ _ (wts l g (opensTo st.2 k)) _ HWI.out).mono ?_; rintro e w3 ⟨v, rfl, hv, hb3⟩)
              go_meet
              exact ⟨by rw [HSG.out], by rw [HPR.out, HMX.out]; first | exact hv | simpa using hv, hb3⟩
          · have HMX : Hid (max (sg * fr) 0 = 0) := by show _ = _; omega
            by_cases hp0 : sg * fr < 0
            · clear hp
              rcases hs1 with rfl | rfl
              all_goals
                go_wp2_with (go_at_call 31; refine (share_any _ _ (wts l g (opensTo st.2 k)) _ HWI.out).mono ?_; rintro e w3 ⟨v, rfl, hv, hb3⟩)
                go_meet
                exact ⟨by rw [HSG.out], by rw [HPR.out, HMX.out]; exact hv, hb3⟩
            · have hz : fr = 0 := by rcases hs1 with rfl | rfl <;> omega
              subst hz
              clear hp hp0
              rcases hs1 with rfl | rfl
              all_goals
                go_wp2_with (go_at_call 31; refine (share_any _ _ (wts l g (opensTo st.2 k)) _ HWI.out).mono ?_; rintro e w3 ⟨v, rfl, hv, hb3⟩)
                go_meet
                exact ⟨by rw [HSG.out], by rw [HPR.out, HMX.out]; exact hv, hb3⟩
        case rest =>
          obtain ⟨rfl, hP, hb3⟩ := hcut
          obtain ⟨w3, rfl⟩ : ∃ x : World, x = wc := ⟨_, rfl⟩
          have HB3 := Lib.hid (HB.out.trans (hb3.mono HB.out.size))
          have HPF : Hid ((prts l g sp st.1 st.2).length = (opensTo st.2 k).length ∧ ∀ j, j < (opensTo st.2 k).length → 0 ≤ gz (prts l g sp st.1 st.2) j ∧ gz (prts l g sp st.1 st.2) j ≤ 1073741824) := by
            have := prts_facts (g := g) HST.out HN.out HF.out hn ⟨hsp0, hsp1⟩
            rw [HOI.out] at this; exact this
          obtain ⟨P, hPe⟩ : ∃ P, prts l g sp st.1 st.2 = P := ⟨_, rfl⟩
          rw [hPe] at hP HPF
          have HPE := Lib.hid hPe
          have HOL : Hid (∀ j, j < (opensTo st.2 k).length → gn (opensTo st.2 k) j < k) := fun j hj => (opensTo_mem hj).1
          have HO3 : Hid (w3.ownsRow w.heap.size 3 1 u3 (opensTo st.2 k).length ((opensTo st.2 k).map natV)) := own_below HO.out hb3
          obtain ⟨oa, oc, rfl⟩ := own_form HO3.out
          have HLr3 := Lib.hid (HLr.out.below hb3 (Nat.le_refl _))
          have hlen := HPF.out.1
          obtain ⟨m, hm⟩ : ∃ m, (opensTo st.2 k).length = m := ⟨_, rfl⟩
          have hmk : m ≤ k := by rw [← hm]; exact opensTo_le st.2 k
          have hmk' : (m : Int) ≤ 100 := by omega
          obtain ⟨O, hOe⟩ : ∃ O, opensTo st.2 k = O := ⟨_, rfl⟩
          rw [hOe] at hm HOL HPF HO3 HOI ⊢
          rw [hOe, hm] at hlen
          rw [hm] at HOL HPF HO3 ⊢
          have HOE := Lib.hid hOe
          have HM := Lib.hid hm
          have HTG : Hid (∀ j, j < m → gz (tgTo k l g P O m) (gn O j) = tg l g P O j) := fun j hj => by
            have := tgTo_at (n := k) (l := l) (g := g) (P := P) (f := st.2) (m := k) (Nat.le_refl _) (k := m) (j := j) hj (by rw [HOE.out, HM.out]; exact Nat.le_refl _)
            rwa [HOE.out] at this
          have HVB : Hid (∀ j, j ≤ m → -2147483648 * (j : Int) ≤ vTo l g P O j ∧ vTo l g P O j ≤ 2147483648 * (j : Int)) := fun j hj => by
            have := vTo_bd (l := l) (g := g) (P := P) (f := st.2) (m := k) (by rw [HN.out]; exact Nat.le_refl _) HF.out (by rw [HOE.out, HM.out]; exact HPF.out.2) j (by rw [HOE.out, HM.out]; exact hj)
            rwa [HOE.out] at this
          have HTB : Hid (∀ j, j < m → -1073741824 ≤ tg l g P O j ∧ tg l g P O j ≤ 1074790400) := fun j hj => by
            have := tg_bd (l := l) (g := g) (P := P) (f := st.2) (m := k) (k := j) (by rw [HN.out]; exact Nat.le_refl _) HF.out (by rw [HOE.out, HM.out]; exact hj) (HPF.out.2 j hj)
            rwa [HOE.out] at this
          have hO3i : IsInts w3 (.slice oa m oc) (O.map fun x : Nat => (x : Int)) := by
            have := HO3.out
            rw [show O.map natV = (O.map fun x : Nat => (x : Int)).map (Value.int .i64) by rw [List.map_map]; rfl] at this
            exact ownsRow_isInts this
          obtain ⟨oa', oc', hoe, -, -, o3⟩ := hO3i
          have hol : (O.map fun x : Nat => (x : Int)).length = m := by rw [List.length_map]; exact hm
          rw [hol] at o3 hoe
          obtain ⟨rfl, rfl⟩ : oa' = oa ∧ oc' = oc := by simp at hoe; exact ⟨hoe.1.symm, hoe.2.symm⟩
          have O3 : Hid (0 < m → ∃ ob oo, oa' = some ⟨ob, oo, none⟩ ∧ w.heap.size ≤ ob ∧ ob < w3.heap.size ∧ ∀ j, j < m → w3.cell? ⟨ob, oo + j, none⟩ = some (.int .i64 ((gn O j : Nat) : Int))) := fun hp => by
            obtain ⟨ob, oo, rfl, hlt, hcell⟩ := o3 hp
            refine ⟨ob, oo, rfl, (HO3.out.lt ob rfl).1, hlt, fun j hj => ?_⟩
            rw [hcell j hj]
            have hjl : j < O.length := by rw [hm]; exact hj
            simp [gz, gn, hjl]
          obtain ⟨pa, pc, rfl, p1, p2, p3⟩ := hP
          rw [hlen] at p1 p3 ⊢
          have P3 := Lib.hid p3
          obtain ⟨x0, x1, x2, x3, x4, x5⟩ := HLr3.out.cells
          have hmk2 := make_ints k (by omega)
          clear hm hOe hPe hlen o3 hoe hol p1 p2 p3 HO HWW HB HWI HLr hb3 HTOT HFR hfb HO3 HA x1 x2 x3 x4 x5
          go_wp2_with fail
          clear x0 hmk2
          have HMD : Hid (OwnI (w3.alloc (.cells (madeCells #[.int .i64 0] k) 3)) w3.heap.size (tgTo k l g P O 0)) := OwnI.made w3 k
          go_loopw [10, 88] (fun v i wr => ∃ j : Nat, j ≤ m ∧ i = .int .i64 j ∧ v = .int .i64 (vTo l g P O j) ∧ OwnI wr w3.heap.size (tgTo k l g P O j) ∧ Below w3.heap.size w3 wr) (fun _ i _ => m - (intOf i).toNat)
          case atStart => exact ⟨0, Nat.zero_le _, rfl, rfl, HMD.out, (Below.refl _ _).alloc (Nat.le_refl _) _⟩
          case round =>
            obtain ⟨j, hj, rfl, rfl, hT, hbl⟩ := hrel
            have HT := Lib.hid hT
            have HB := Lib.hid hbl
            clear hT hbl
            by_cases hjm : j < m
            ·
              obtain ⟨ob, oo, rfl, ob0, ob1, ocell⟩ := O3.out (by omega)
              obtain ⟨pb, po, rfl, pb1, pcell⟩ := P3.out (by omega)
              obtain ⟨i, hi⟩ : ∃ i, gn O j = i := ⟨_, rfl⟩
              have hik := HOL.out j hjm
              have co := (HB.out.cell (p := ⟨ob, oo + j, none⟩) ob1).trans (ocell j hjm)
              have cp := (HB.out.cell (p := ⟨pb, po + j, none⟩) pb1).trans (pcell j hjm)
              have hpb := HPF.out.2 j hjm
              have htb := HTB.out j hjm
              have hvb := HVB.out j (by omega)
              rw [hi] at hik co
              have HBX : Hid (b < w3.heap.size ∧ X < w3.heap.size) := by have := HB3.out.size; have := HBW.out; exact ⟨by omega, by omega⟩
              have kk : ∀ q, q < 5 → w3.cell? ⟨b, off + i * 5 + q, none⟩ = some (.int .i64 (gf l i q)) := fun q hq => (HB3.out.cell (p := ⟨b, off + i * 5 + q, none⟩) HBW.out.1).trans (HC.out i hik q hq)
              have k0 := kk 0 (by omega)
              have k1 := kk 1 (by omega)
              have k2 := kk 2 (by omega)
              rw [Nat.add_zero] at k0
              have hfx := flexB_iff.1 (HF.out i (by rw [HN.out]; exact hik))
              have hcb := cl_bd (HF.out i (by rw [HN.out]; exact hik)) (tg l g P O j)
              have HTGE : Hid (tg l g P O j = gf l i 0 + sgn g * gz P j) := by show _ = _; rw [← hi]; rfl
              have HVN : Hid (vTo l g P O (j + 1) = vTo l g P O j + (cl l i (tg l g P O j) - tg l g P O j)) := by show _ = _; rw [← hi]; rfl
              have HTN : Hid (tgTo k l g P O (j + 1) = (tgTo k l g P O j).set i (tg l g P O j)) := by show _ = _; rw [← hi]; rfl
              have HCL : Hid (∀ t, cl l i t = clampZ t (gf l i 1) (gf l i 2)) := fun t => rfl
              obtain ⟨t, ht⟩ : ∃ t, tg l g P O j = t := ⟨_, rfl⟩
              obtain ⟨V, hV⟩ : ∃ V, vTo l g P O j = V := ⟨_, rfl⟩
              rw [ht] at htb hcb HTGE HVN HTN
              rw [hV] at hvb HVN ⊢
              rw [HCL.out] at hcb HVN
              obtain ⟨p, hp⟩ : ∃ p, gz P j = p := ⟨_, rfl⟩
              obtain ⟨B0, hB0⟩ : ∃ p, gf l i 0 = p := ⟨_, rfl⟩
              obtain ⟨lo, hlo⟩ : ∃ p, gf l i 1 = p := ⟨_, rfl⟩
              obtain ⟨hh, hhi⟩ : ∃ p, gf l i 2 = p := ⟨_, rfl⟩
              obtain ⟨sg, hsg⟩ : ∃ q, sgn g = q := ⟨_, rfl⟩
              have hs1 : sg = 1 ∨ sg = -1 := by rw [← hsg]; cases g <;> simp [sgn]
              rw [hp] at cp hpb HTGE
              rw [hB0] at k0 hfx HTGE
              rw [hlo] at k1 HVN hcb
              rw [hhi] at k2 HVN hcb
              rw [hsg] at HTGE
              have HSG := Lib.hid hsg
              obtain ⟨C, hC⟩ : ∃ C, clampZ t lo hh = C := ⟨_, rfl⟩
              rw [hC] at hcb HVN
              have HCC := Lib.hid hC
              have HT0 : Hid (B0 + sg * p = t) := HTGE.out.symm
              have hjm' : (j : Int) < (m : Int) := by omega
              have hj0 : (0 : Int) ≤ (j : Int) := by omega
              have hi0' : (0 : Int) ≤ (i : Int) := by omega
              have hik' : (i : Int) < (k : Int) := by omega
              have m0 := (HB.out.cell (p := ⟨X, 0, none⟩) HBX.out.2).trans HLr3.out.cells.1
              have n0 := (HB.out.cell (p := ⟨b, off + i * 5, none⟩) HBX.out.1).trans k0
              have HNK : Hid (w3.cell? ⟨b, off + i * 5 + 1, none⟩ = some (.int .i64 lo) ∧ w3.cell? ⟨b, off + i * 5 + 2, none⟩ = some (.int .i64 hh)) := ⟨k1, k2⟩
              have ctg := HT.out.cell (i := i) (by rw [tgTo_len]; exact hik)
              have ftg := HT.out.free i
              have hw1 : IntKind.i64.wrap (sg * p) = sg * p := IntWalk.i64_in _ (by rcases hs1 with rfl | rfl <;> omega)
              have hw2 : IntKind.i64.wrap (B0 + sg * p) = t := by rw [IntWalk.i64_in _ (by have := HT0.out; omega)]; exact HT0.out
              clear kk k0 k1 k2 hi ht hV hp hB0 hlo hhi hC ocell pcell hfx hpb hsg
              rw [HSG.out]
              go_wp2_with fail
              refine wp_region_T (S := (fun w' => w'.cell? ⟨X, 0, none⟩ = some (.slice (some ⟨b, off, none⟩) k cap) ∧ w'.cell? ⟨b, off + i * 5, none⟩ = some (.int .i64 B0) ∧ w'.cell? ⟨pb, po + j, none⟩ = some (.int .i64 p))) 18 (by kernel_rfl) (⟨m0, n0, cp⟩) (fun hHeld => ?_)
              refine wpAnyT_take (i := 0) (v := ?_) rfl (by decide +kernel) (by decide +kernel) (by decide +kernel) (by decide +kernel) (by decide +kernel) (fun _ _ _ h => h) (Or.inl ⟨by rfl, ?_⟩) (by assumption) ?_
              rotate_left
              · intro w hSw; (try dsimp only at hSw); first | (go_simp; done) | (go_simp; with_reducible rfl)
              try simp only [Act.put, List.setIfInBounds_toArray, List.set_cons_zero, List.set_cons_succ]
              refine wpAnyT_take (i := 1) (v := ?_) rfl (by decide +kernel) (by decide +kernel) (by decide +kernel) (by decide +kernel) (by decide +kernel) (fun _ _ _ h => h) (Or.inl ⟨by rfl, ?_⟩) (by assumption) ?_
              rotate_left
              · intro w hSw; (try dsimp only at hSw); first | (go_simp; done) | (go_simp; with_reducible rfl)
              try simp only [Act.put, List.setIfInBounds_toArray, List.set_cons_zero, List.set_cons_succ]
              refine wpAnyT_take (i := 2) (v := ?_) rfl (by decide +kernel) (by decide +kernel) (by decide +kernel) (by decide +kernel) (by decide +kernel) (fun _ _ _ h => h) (Or.inl ⟨by rfl, ?_⟩) (by assumption) ?_
              rotate_left
              · intro w hSw; (try dsimp only at hSw); first | (go_simp; done) | (go_simp; with_reducible rfl)
              try simp only [Act.put, List.setIfInBounds_toArray, List.set_cons_zero, List.set_cons_succ]
              refine wpAnyT_take (i := 3) (v := ?_) rfl (by decide +kernel) (by decide +kernel) (by decide +kernel) (by decide +kernel) (by decide +kernel) (fun _ _ _ h => h) (Or.inl ⟨by rfl, ?_⟩) (by assumption) ?_
              rotate_left
              · intro w hSw; (try dsimp only at hSw); first | (go_simp; done) | (go_simp; with_reducible rfl)
              try simp only [Act.put, List.setIfInBounds_toArray, List.set_cons_zero, List.set_cons_succ]
              refine wpAnyT_take (i := 4) (v := ?_) rfl (by decide +kernel) (by decide +kernel) (by decide +kernel) (by decide +kernel) (by decide +kernel) (fun _ _ _ h => h) (Or.inl ⟨by rfl, ?_⟩) (by assumption) ?_
              rotate_left
              · intro w hSw; (try dsimp only at hSw); first | (go_simp; done) | (go_simp; with_reducible rfl)
              try simp only [Act.put, List.setIfInBounds_toArray, List.set_cons_zero, List.set_cons_succ]
              refine wpAnyT_take (i := 5) (v := ?_) rfl (by decide +kernel) (by decide +kernel) (by decide +kernel) (by decide +kernel) (by decide +kernel) (fun _ _ _ h => h) (Or.inl ⟨by rfl, ?_⟩) (by assumption) ?_
              rotate_left
              · intro w hSw; (try dsimp only at hSw); first | (go_simp; done) | (go_simp; with_reducible rfl)
              try simp only [Act.put, List.setIfInBounds_toArray, List.set_cons_zero, List.set_cons_succ]
              refine wpAnyT_take (i := 6) (v := ?_) rfl (by decide +kernel) (by decide +kernel) (by decide +kernel) (by decide +kernel) (by decide +kernel) (fun _ _ _ h => h) (Or.inl ⟨by rfl, ?_⟩) (by assumption) ?_
              rotate_left
              · intro w hSw; (try dsimp only at hSw); first | (go_simp; done) | (go_simp; with_reducible rfl)
              try simp only [Act.put, List.setIfInBounds_toArray, List.set_cons_zero, List.set_cons_succ]
              refine wpAnyT_take (i := 7) (v := ?_) rfl (by decide +kernel) (by decide +kernel) (by decide +kernel) (by decide +kernel) (by decide +kernel) (fun _ _ _ h => h) (Or.inl ⟨by rfl, ?_⟩) (by assumption) ?_
              rotate_left
              · intro w hSw; (try dsimp only at hSw); first | (go_simp; done) | (go_simp; with_reducible rfl)
              try simp only [Act.put, List.setIfInBounds_toArray, List.set_cons_zero, List.set_cons_succ]
              refine wpAnyT_take (i := 8) (v := ?_) rfl (by decide +kernel) (by decide +kernel) (by decide +kernel) (by decide +kernel) (by decide +kernel) (fun _ _ _ h => h) (Or.inl ⟨by rfl, ?_⟩) (by assumption) ?_
              rotate_left
              · intro w hSw; (try dsimp only at hSw); first | (go_simp; done) | (go_simp; with_reducible rfl)
              try simp only [Act.put, List.setIfInBounds_toArray, List.set_cons_zero, List.set_cons_succ]
              refine wpAnyT_take (i := 9) (v := ?_) rfl (by decide +kernel) (by decide +kernel) (by decide +kernel) (by decide +kernel) (by decide +kernel) (fun _ _ _ h => h) (Or.inl ⟨by rfl, ?_⟩) (by assumption) ?_
              rotate_left
              · intro w hSw; (try dsimp only at hSw); first | (go_simp; done) | (go_simp; with_reducible rfl)
              try simp only [Act.put, List.setIfInBounds_toArray, List.set_cons_zero, List.set_cons_succ]
              refine wpAnyT_take (i := 10) (v := ?_) rfl (by decide +kernel) (by decide +kernel) (by decide +kernel) (by decide +kernel) (by decide +kernel) (fun _ _ _ h => h) (Or.inl ⟨by rfl, ?_⟩) (by assumption) ?_
              rotate_left
              · intro w hSw; (try dsimp only at hSw); first | (go_simp; done) | (go_simp; with_reducible rfl)
              try simp only [Act.put, List.setIfInBounds_toArray, List.set_cons_zero, List.set_cons_succ]
              refine wpAnyT_take (i := 11) (v := ?_) rfl (by decide +kernel) (by decide +kernel) (by decide +kernel) (by decide +kernel) (by decide +kernel) (fun _ _ _ h => h) (Or.inl ⟨by rfl, ?_⟩) (by assumption) ?_
              rotate_left
              · intro w hSw; (try dsimp only at hSw); first | (go_simp; done) | (go_simp; with_reducible rfl)
              try simp only [Act.put, List.setIfInBounds_toArray, List.set_cons_zero, List.set_cons_succ]
              refine wpAnyT_take (i := 12) (v := ?_) rfl (by decide +kernel) (by decide +kernel) (by decide +kernel) (by decide +kernel) (by decide +kernel) (fun _ _ _ h => h) (Or.inl ⟨by rfl, ?_⟩) (by assumption) ?_
              rotate_left
              · intro w hSw; (try dsimp only at hSw); first | (go_simp; done) | (go_simp; with_reducible rfl)
              try simp only [Act.put, List.setIfInBounds_toArray, List.set_cons_zero, List.set_cons_succ]
              refine wpAnyT_take (i := 13) (v := ?_) rfl (by decide +kernel) (by decide +kernel) (by decide +kernel) (by decide +kernel) (by decide +kernel) (fun _ _ _ h => h) (Or.inl ⟨by rfl, ?_⟩) (by assumption) ?_
              rotate_left
              · intro w hSw; (try dsimp only at hSw); first | (go_simp; done) | (go_simp; with_reducible rfl)
              try simp only [Act.put, List.setIfInBounds_toArray, List.set_cons_zero, List.set_cons_succ]
              refine wpAnyT_take (i := 14) (v := ?_) rfl (by decide +kernel) (by decide +kernel) (by decide +kernel) (by decide +kernel) (by decide +kernel) (fun _ _ _ h => h) (Or.inl ⟨by rfl, ?_⟩) (by assumption) ?_
              rotate_left
              · intro w hSw; (try dsimp only at hSw); first | (go_simp; done) | (go_simp; with_reducible rfl)
              try simp only [Act.put, List.setIfInBounds_toArray, List.set_cons_zero, List.set_cons_succ]
              refine wpAnyT_take (i := 15) (v := ?_) rfl (by decide +kernel) (by decide +kernel) (by decide +kernel) (by decide +kernel) (by decide +kernel) (fun _ _ _ h => h) (Or.inl ⟨by rfl, ?_⟩) (by assumption) ?_
              rotate_left
              · intro w hSw; (try dsimp only at hSw); first | (go_simp; done) | (go_simp; with_reducible rfl)
              try simp only [Act.put, List.setIfInBounds_toArray, List.set_cons_zero, List.set_cons_succ]
              refine wpAnyT_take (i := 16) (v := ?_) rfl (by decide +kernel) (by decide +kernel) (by decide +kernel) (by decide +kernel) (by decide +kernel) (fun _ _ _ h => h) (Or.inl ⟨by rfl, ?_⟩) (by assumption) ?_
              rotate_left
              · intro w hSw; (try dsimp only at hSw); first | (go_simp; done) | (go_simp; with_reducible rfl)
              try simp only [Act.put, List.setIfInBounds_toArray, List.set_cons_zero, List.set_cons_succ]
              refine wpAnyT_take (i := 17) (v := ?_) rfl (by decide +kernel) (by decide +kernel) (by decide +kernel) (by decide +kernel) (by decide +kernel) (fun _ _ _ h => h) (Or.inl ⟨by rfl, ?_⟩) (by assumption) ?_
              rotate_left
              · intro w hSw; (try dsimp only at hSw); first | (go_simp; done) | (go_simp; with_reducible rfl)
              try simp only [Act.put, List.setIfInBounds_toArray, List.set_cons_zero, List.set_cons_succ]
              refine wpAnyT_last (i := 18) (by kernel_rfl) (by kernel_rfl) rfl (by kernel_rfl) (fun K hK => ?_)
              go_simp
              refine hK.out _ _ ?_
              clear hK K
              try simp only [Act.put, List.setIfInBounds_toArray, List.set_cons_zero, List.set_cons_succ]
              clear hHeld hw1 hw2 m0 n0 cp co ctg ftg
              have HT5 : Hid (OwnI (wr.setCell ⟨w3.heap.size, i, none⟩ (.int .i64 t)).drew w3.heap.size (tgTo k l g P O (j + 1))) := by
                show OwnI _ _ _
                rw [HTN.out]; exact (HT.out.set i t).drew
              have HB5 : Hid (Below w3.heap.size w3 (wr.setCell ⟨w3.heap.size, i, none⟩ (.int .i64 t)).drew) := (HB.out.setCell (p := ⟨w3.heap.size, i, none⟩) (Nat.le_refl _) _).drew
              have ct0 : (wr.setCell ⟨w3.heap.size, i, none⟩ (.int .i64 t)).drew.cell? ⟨w3.heap.size, i, none⟩ = some (.int .i64 t) := by
                have := (HT.out.set i t).cell (i := i) (by rw [List.length_set, tgTo_len]; exact hik)
                rw [gz_set_same _ _ _ (by rw [tgTo_len]; exact hik)] at this
                exact this
              have HCT := Lib.hid ct0
              clear ct0
              go_wp2_with fail
              obtain ⟨W5, hW5⟩ : ∃ W5, (wr.setCell ⟨w3.heap.size, i, none⟩ (.int .i64 t)).drew = W5 := ⟨_, rfl⟩
              rw [hW5] at HT5 HB5 HCT ⊢
              clear hW5
              have cX := (HB5.out.cell (p := ⟨X, 0, none⟩) HBX.out.2).trans HLr3.out.cells.1
              have c1 := (HB5.out.cell (p := ⟨b, off + i * 5 + 1, none⟩) HBX.out.1).trans HNK.out.1
              have c2 := (HB5.out.cell (p := ⟨b, off + i * 5 + 2, none⟩) HBX.out.1).trans HNK.out.2
              have HK5 := Lib.hid (And.intro cX (And.intro c1 c2))
              have HCLQ : Hid (∀ d, Calls Try.prog 45 #[.pointer (some ⟨X, 0, none⟩), .int .i64 (i : Int), .int .i64 t] (W5.drewN d) (fun e w' => e = .returned (.int .i64 C) ∧ ∃ m, w' = (W5.drewN d).drewN m)) := fun d => by
                have hq := lclamp_any X i k cap b off t lo hh (W5.drewN d) HK5.out.1 HK5.out.2.1 HK5.out.2.2 hik hn
                rw [HCC.out] at hq
                exact hq
              have ct := HCT.out
              have hw3 : IntKind.i64.wrap (C - t) = C - t := IntWalk.i64_in _ (by omega)
              have hw4 : IntKind.i64.wrap (V + (C - t)) = V + (C - t) := IntWalk.i64_in _ (by omega)
              clear cX c1 c2
              go_quiet ((go_at_call 45; exact Calls.quiet_of (HCLQ.out _)))
              clear hw3 hw4
              go_wp2
              go_roundw
              case rel => exact ⟨j + 1, by omega, by go_num, by rw [HVN.out], HT5.out, Below_drewN HB5.out _⟩
              case measure => simp [intOf]; omega
            · obtain rfl : m = j := by omega
              obtain ⟨V, hV⟩ : ∃ V, vTo l g P O m = V := ⟨_, rfl⟩
              rw [hV]
              have HV := Lib.hid hV
              have HTm := HT
              have HBX : Hid (b < wr.heap.size ∧ X < wr.heap.size ∧ SZ < w3.heap.size ∧ FR < w3.heap.size ∧ w3.heap.size < wr.heap.size ∧ w.heap.size ≤ w3.heap.size) := by have := HB3.out.size; have := HBW.out; have := HT.out.lt; exact ⟨by omega, by omega, by omega, by omega, by omega, by omega⟩
              have HL4 := Lib.hid (HLr3.out.below HB.out (Nat.le_refl _))
              have HB4 : Hid (Below w.heap.size w wr) := HB3.out.trans (HB.out.mono HB3.out.size)
              have HFIN : Hid (stepB l g sp st = frz l g P O V st m) := by show _ = _; unfold stepB; rw [HPE.out, HOI.out, HM.out, HV.out]
              have HFL : Hid (∀ q, (frz l g P O V st q).1.length = k ∧ (frz l g P O V st q).2.length = k) := fun q => by
                have := frz_len l g P O V st q
                rw [HST.out.ls, HLF.out] at this; exact this
              clear hV
              go_wp2_with fail
              obtain ⟨w4, rfl⟩ : ∃ x : World, x = wr := ⟨_, rfl⟩
              go_loopw [128] (fun i wr => ∃ j : Nat, j ≤ m ∧ i = .int .i64 j ∧ Line X SZ FR (.slice (some ⟨b, off, none⟩) k cap) (.slice (some ⟨wb, woff, none⟩) k wcap) k sp g (frz l g P O V st j) wr ∧ Turn SZ FR w4 wr) (fun i _ => m - (intOf i).toNat)
              case atStart => exact ⟨0, Nat.zero_le _, rfl, HL4.out, Turn.of_below (Below.refl _ _)⟩
              case round =>
                obtain ⟨j, hj, rfl, hLj, hTj⟩ := hrel
                have HLj := Lib.hid hLj
                have HTj := Lib.hid hTj
                clear hLj hTj
                by_cases hjm : j < m
                · obtain ⟨ob, oo, rfl, ob0, ob1, ocell⟩ := O3.out (by omega)
                  obtain ⟨i, hi⟩ : ∃ i, gn O j = i := ⟨_, rfl⟩
                  have hik := HOL.out j hjm
                  have co := ((HTj.out.cell (p := ⟨ob, oo + j, none⟩) (by have := HBX.out; show ob < _; omega) (by have := HBW.out; show ob ≠ _; omega) (by have := HBW.out; show ob ≠ _; omega)).trans (HB.out.cell (p := ⟨ob, oo + j, none⟩) ob1)).trans (ocell j hjm)
                  have htb := HTB.out j hjm
                  have htg := HTG.out j hjm
                  rw [hi] at hik co htg
                  have kk : ∀ q, q < 5 → wr.cell? ⟨b, off + i * 5 + q, none⟩ = some (.int .i64 (gf l i q)) := fun q hq => ((HTj.out.cell (p := ⟨b, off + i * 5 + q, none⟩) HBX.out.1 HBS.out.1 HBS.out.2).trans (HB4.out.cell (p := ⟨b, off + i * 5 + q, none⟩) HBW.out.1)).trans (HC.out i hik q hq)
                  have k1 := kk 1 (by omega)
                  have k2 := kk 2 (by omega)
                  have hcb := cl_bd (HF.out i (by rw [HN.out]; exact hik)) (tg l g P O j)
                  have HYES : Hid (hitB V (cl l i (tg l g P O j)) (tg l g P O j) = true → frz l g P O V st (j + 1) = ((frz l g P O V st j).1.set i (cl l i (tg l g P O j)), (frz l g P O V st j).2.set i true)) := fun h => by
                    have := frz_hit (l := l) (g := g) (P := P) (o := O) (v := V) (st := st) (k := j) (by rw [hi]; exact h)
                    rw [hi] at this; exact this
                  have HNO : Hid (hitB V (cl l i (tg l g P O j)) (tg l g P O j) = false → frz l g P O V st (j + 1) = frz l g P O V st j) := fun h => frz_miss (by rw [hi]; exact h)
                  have ct := (HTj.out.cell (p := ⟨w3.heap.size, i, none⟩) HBX.out.2.2.2.2.1 (by have := HBX.out; show w3.heap.size ≠ _; omega) (by have := HBX.out; show w3.heap.size ≠ _; omega)).trans (HTm.out.cell (i := i) (by rw [tgTo_len]; exact hik))
                  rw [htg] at ct
                  have HCL : Hid (∀ t, cl l i t = clampZ t (gf l i 1) (gf l i 2)) := fun t => rfl
                  obtain ⟨t, ht⟩ : ∃ t, tg l g P O j = t := ⟨_, rfl⟩
                  rw [ht] at htb hcb ct HYES HNO
                  rw [HCL.out] at hcb HYES HNO
                  obtain ⟨lo, hlo⟩ : ∃ p, gf l i 1 = p := ⟨_, rfl⟩
                  obtain ⟨hh, hhi⟩ : ∃ p, gf l i 2 = p := ⟨_, rfl⟩
                  rw [hlo] at k1 hcb HYES HNO
                  rw [hhi] at k2 hcb HYES HNO
                  obtain ⟨C, hC⟩ : ∃ C, clampZ t lo hh = C := ⟨_, rfl⟩
                  rw [hC] at hcb HYES HNO
                  have HCC := Lib.hid hC
                  have hjm' : (j : Int) < (m : Int) := by omega
                  have hj0 : (0 : Int) ≤ (j : Int) := by omega
                  have hi0' : (0 : Int) ≤ (i : Int) := by omega
                  have hik' : (i : Int) < (k : Int) := by omega
                  have HK5 : Hid (wr.cell? ⟨X, 0, none⟩ = some (.slice (some ⟨b, off, none⟩) k cap) ∧ wr.cell? ⟨b, off + i * 5 + 1, none⟩ = some (.int .i64 lo) ∧ wr.cell? ⟨b, off + i * 5 + 2, none⟩ = some (.int .i64 hh)) := ⟨HLj.out.cells.1, k1, k2⟩
                  clear kk k1 k2 hi ht hlo hhi hC ocell htg
                  have HCLQ : Hid (Calls Try.prog 45 #[.pointer (some ⟨X, 0, none⟩), .int .i64 (i : Int), .int .i64 t] wr (Quiet (.int .i64 C) wr)) := by
                    have hq := lclamp_any X i k cap b off t lo hh wr HK5.out.1 HK5.out.2.1 HK5.out.2.2 hik hn
                    rw [HCC.out] at hq
                    exact hq
                  have x4 := HLj.out.cells.2.2.2.2.1
                  have x5 := HLj.out.cells.2.2.2.2.2
                  have fS := HLj.out.s.free i
                  have fF := HLj.out.f.free i
                  have cS := HLj.out.s.cell (i := i) (by rw [(HFL.out j).1]; exact hik)
                  have cF := HLj.out.f.cell (i := i) (by rw [(HFL.out j).2]; exact hik)
                  have HSF : Hid (SZ ≠ FR) := HLj.out.sf
                  obtain (⟨hV0, hgo⟩ | ⟨hV0, hgo⟩) : ((V = 0 ∨ (0 < V ∧ t < C) ∨ (V < 0 ∧ C < t)) ∧ hitB V C t = true) ∨ (((0 < V ∧ C ≤ t) ∨ (V < 0 ∧ t ≤ C)) ∧ hitB V C t = false) := by
                    by_cases c0 : V = 0
                    · left; exact ⟨.inl c0, by simp [hitB, c0]⟩
                    · by_cases c1 : 0 < V
                      · by_cases c2 : t < C
                        · left; exact ⟨.inr (.inl ⟨c1, c2⟩), by simp [hitB, c1, c2]⟩
                        · right; refine ⟨.inl ⟨c1, by omega⟩, ?_⟩
                          simp [hitB, c0]; omega
                      · by_cases c2 : C < t
                        · left; exact ⟨.inr (.inr ⟨by omega, c2⟩), by simp [hitB, c2]; omega⟩
                        · right; refine ⟨.inr ⟨by omega, by omega⟩, ?_⟩
                          simp [hitB, c0]; omega
                  · have HFN := Lib.hid (HYES.out hgo)
                    clear hgo
                    rcases hV0 with v0 | ⟨v0, v1⟩ | ⟨v0, v1⟩
                    · have e0 : (V == 0) = true := by simp [v0]
                      have e1 : decide (V < 0) = false := by simp; omega
                      clear v0
                      go_wp2_with (go_at_call 45; refine HCLQ.out.mono ?_; rintro e w' ⟨rfl, d, rfl⟩)
                      have hsf := HSF.out
                      have hfs := HSF.out.symm
                      go_region
                      all_goals
                        go_wp2
                        go_roundw
                        case rel => exact ⟨j + 1, by omega, by go_num, by rw [HFN.out]; first | exact (((HLj.out.setS i C).setF i true).drewN d).drew | exact (((HLj.out.setF i true).setS i C).drewN d).drew, by first | exact (((HTj.out.trans (Turn.set _ (.inl rfl) i (.int .i64 C))).trans (Turn.set _ (.inr rfl) i (.bool true))).drewN d).drew | exact (((HTj.out.trans (Turn.set _ (.inr rfl) i (.bool true))).trans (Turn.set _ (.inl rfl) i (.int .i64 C))).drewN d).drew⟩
                        case measure => simp [intOf]; omega
                    · have e0 : (V == 0) = false := by simp; omega
                      go_wp2_with (go_at_call 45; refine HCLQ.out.mono ?_; rintro e w' ⟨rfl, d, rfl⟩)
                      have hsf := HSF.out
                      have hfs := HSF.out.symm
                      go_region
                      all_goals
                        go_wp2
                        go_roundw
                        case rel => exact ⟨j + 1, by omega, by go_num, by rw [HFN.out]; first | exact (((HLj.out.setS i C).setF i true).drewN d).drew | exact (((HLj.out.setF i true).setS i C).drewN d).drew, by first | exact (((HTj.out.trans (Turn.set _ (.inl rfl) i (.int .i64 C))).trans (Turn.set _ (.inr rfl) i (.bool true))).drewN d).drew | exact (((HTj.out.trans (Turn.set _ (.inr rfl) i (.bool true))).trans (Turn.set _ (.inl rfl) i (.int .i64 C))).drewN d).drew⟩
                        case measure => simp [intOf]; omega
                    · have e0 : (V == 0) = false := by simp; omega
                      have e1 : decide (0 < V) = false := by simp; omega
                      go_wp2_with (go_at_call 45; refine HCLQ.out.mono ?_; rintro e w' ⟨rfl, d, rfl⟩)
                      have hsf := HSF.out
                      have hfs := HSF.out.symm
                      go_region
                      all_goals
                        go_wp2
                        go_roundw
                        case rel => exact ⟨j + 1, by omega, by go_num, by rw [HFN.out]; first | exact (((HLj.out.setS i C).setF i true).drewN d).drew | exact (((HLj.out.setF i true).setS i C).drewN d).drew, by first | exact (((HTj.out.trans (Turn.set _ (.inl rfl) i (.int .i64 C))).trans (Turn.set _ (.inr rfl) i (.bool true))).drewN d).drew | exact (((HTj.out.trans (Turn.set _ (.inr rfl) i (.bool true))).trans (Turn.set _ (.inl rfl) i (.int .i64 C))).drewN d).drew⟩
                        case measure => simp [intOf]; omega
                  · have HFN := Lib.hid (HNO.out hgo)
                    clear hgo
                    rcases hV0 with ⟨v0, v1⟩ | ⟨v0, v1⟩
                    · have e0 : (V == 0) = false := by simp; omega
                      have e1 : decide (V < 0) = false := by simp; omega
                      have e2 : decide (t < C) = false := by simp; omega
                      go_wp2_with (go_at_call 45; refine HCLQ.out.mono ?_; rintro e w' ⟨rfl, d, rfl⟩)
                      go_roundw
                      case rel => exact ⟨j + 1, by omega, by go_num, by rw [HFN.out]; exact HLj.out.drewN _, HTj.out.drewN _⟩
                      case measure => simp [intOf]; omega
                    · have e0 : (V == 0) = false := by simp; omega
                      have e1 : decide (0 < V) = false := by simp; omega
                      have e2 : decide (C < t) = false := by simp; omega
                      go_wp2_with (go_at_call 45; refine HCLQ.out.mono ?_; rintro e w' ⟨rfl, d, rfl⟩)
                      go_roundw
                      case rel => exact ⟨j + 1, by omega, by go_num, by rw [HFN.out]; exact HLj.out.drewN _, HTj.out.drewN _⟩
                      case measure => simp [intOf]; omega
                · obtain rfl : m = j := by omega
                  go_wp2
                  go_end0
                  exact ⟨rfl, by rw [HFIN.out]; exact HLj.out, (Turn.of_below HB4.out).trans HTj.out⟩
end Go.Proofs.Ytadkkkdecejkeaa

