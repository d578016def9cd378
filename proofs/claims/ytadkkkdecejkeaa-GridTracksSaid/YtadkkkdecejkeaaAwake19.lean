/- The sanity check of package widgetrylaw19: Tracks of one fixed track and one fraction. -/
import Derived.Test.YtadkkkdecejkeaaDem
import Derived.Test.YtadkkkdecejkeaaEqualI
import Derived.Test.YtadkkkdecejkeaaTail
import Derived.Handy
namespace Go.Proofs.Ytadkkkdecejkeaa
open Go.RowKit
attribute [local go_sem ↓] Go.wp_at_zero Go.wp_at_succ
set_option linter.unusedVariables false
set_option linter.unusedSimpArgs false

theorem lit_recs {c e : Nat} {w : World} {cs : Array Value} (l : List Rec) (h : cs = (recCells l).toArray) (hw : wide c l) (hm : l.length ≤ maxLen) (n : Nat) (hn : n = l.length) :
    IsRecs c (w.alloc (.cells cs e)) (.slice (some ⟨w.heap.size, 0, none⟩) n n) l := by
  subst h hn
  refine ⟨_, _, rfl, Nat.le_refl _, hm, fun _ => ⟨w.heap.size, 0, rfl, by simp, fun i hi j hj => ?_⟩⟩
  have hb := heap_alloc_new w (.cells (recCells l).toArray e)
  rw [cell_of_row _ _ _ _ _ (0, 0) hb]
  have := recCells_at l hw i hi j hj
  simpa using this
def t19 : List Rec := [[0, 30], [2, 1]]
def f19 : List Rec := [[0, 0, 1048576, 1, 0]]
theorem awake19_facts : flexErr 60 0 f19 = 0 ∧ resL 60 0 f19 = [60] ∧ plL 2 [1, 2] = [[0, 0, 1], [1, 0, 2]] ∧ fxTo t19 2 2 = [30, 0] ∧ mxTo [30, 0] (mxTo [30, 0] [30, 0] 2) 2 = [30, 0] ∧ sumTo [30, 0] 2 = 30 := by decide +kernel
theorem t19_ok : tracksOk t19 := by
  intro i hi
  have : i = 0 ∨ i = 1 := by simp [t19] at hi; omega
  rcases this with rfl | rfl <;> decide +kernel
theorem sum19_bd : ∀ k, k ≤ ([30, 0] : List Int).length → -4611686018427387904 ≤ sumTo [30, 0] k ∧ sumTo [30, 0] k ≤ 4611686018427387904 := by
  intro k hk
  have h : k = 0 ∨ k = 1 ∨ k = 2 := by simp at hk; omega
  rcases h with rfl | rfl | rfl <;> decide
theorem sum0_bd : ∀ k, k ≤ ([] : List Int).length → -4611686018427387904 ≤ sumTo [] k ∧ sumTo [] k ≤ 4611686018427387904 := by
  intro k hk
  have h : k = 0 := by simpa using hk
  subst h; decide
theorem info_flex : (Try.prog.info? 60).map (fun i => (i.zero, i.size, i.bytes)) = some (some (.agg #[.int .i64 0, .int .i64 0, .int .i64 0, .int .i64 0, .int .i64 0]), 5, 40) := by kernel_rfl

set_option maxHeartbeats 20000000 in
set_option maxRecDepth 100000 in
theorem tracks19 (v : Value) (w : World) (hv : IsRecs 2 w v t19) : Calls Try.prog 16 #[.int .i64 100, .int .i64 10, v, .slice none 0 0] w fun e w' => ∃ u, e = .returned (.tuple #[u, .int .i64 0]) ∧ IsInts w' u [30, 60] ∧ Below w.heap.size w w' := by
  obtain ⟨i0, hi0, hz0, hz1, hz2⟩ := info_parts info_int1
  obtain ⟨j0, ji0, jz0, jz1, jz2⟩ := info_parts info_flex
  have HV := Lib.hid hv
  obtain ⟨a, cap, rfl, h1, h2, h3⟩ := hv
  obtain ⟨b, off, rfl, hlt, hcell⟩ := h3 (by simp [t19])
  rw [show t19.length = 2 from rfl] at HV h1 ⊢
  have HT3 : Hid (∀ W, Below w.heap.size w W → (0 < 2 → ∃ b' off', some (⟨b, off, none⟩ : Addr) = some ⟨b', off', none⟩ ∧ b' < W.heap.size ∧ ∀ i, i < 2 → ∀ j, j < 2 → W.cell? ⟨b', off' + i * 2 + j, none⟩ = some (.int .i64 (gf t19 i j)))) := fun W hW _ => ⟨b, off, rfl, Nat.lt_of_lt_of_le hlt hW.size, fun i hi j hj => (hW.cell (p := ⟨b, off + i * 2 + j, none⟩) hlt).trans (hcell i hi j hj)⟩
  have HC : Hid (∀ W, Below w.heap.size w W → W.cell? ⟨b, off, none⟩ = some (.int .i64 0) ∧ W.cell? ⟨b, off + 1, none⟩ = some (.int .i64 30) ∧ W.cell? ⟨b, off + 2, none⟩ = some (.int .i64 2) ∧ W.cell? ⟨b, off + 3, none⟩ = some (.int .i64 1)) := fun W hW => by
    have g := fun i (hi : i < 2) j (hj : j < 2) => (hW.cell (p := ⟨b, off + i * 2 + j, none⟩) hlt).trans (hcell i hi j hj)
    exact ⟨g 0 (by omega) 0 (by omega), g 0 (by omega) 1 (by omega), g 1 (by omega) 0 (by omega), g 1 (by omega) 1 (by omega)⟩
  have HBB := Lib.hid hlt
  clear h3 hcell hlt
  go_enter Try.func16, Try.ntmps16
  go_wp2_with fail
  refine (gvalid_none _ 100 10 t19 _ HV.out (by decide) t19_ok (by decide) (by decide)).mono ?_
  rintro e w1 ⟨rfl, hb1⟩
  have HB1 := Lib.hid hb1
  clear hb1
  go_wp2_with fail
  refine (demands_none _ cap 2 10 t19 w1 h1 rfl (by omega) (HT3.out w1 HB1.out)).mono ?_
  rintro e w2 ⟨L, M, rfl, hL, hM, hlm, hl0, hm0, hb2⟩
  rw [awake19_facts.2.2.2.1] at hL
  rw [awake19_facts.2.2.2.1, awake19_facts.2.2.2.2.1] at hM
  have HL := Lib.hid hL
  have HM := Lib.hid hM
  have HLM := Lib.hid hlm
  have HB2 : Hid (Below w.heap.size w w2) := HB1.out.trans (hb2.mono HB1.out.size)
  have HL0 : Hid (w.heap.size ≤ L) := Nat.le_trans HB1.out.size hl0
  have HLI : Hid (IsInts w2 (.slice (some ⟨L, 0, none⟩) 2 2) [30, 0]) := HL.out.isInts (by decide)
  clear hL hM hlm hl0 hm0 hb2
  go_wp2_with fail
  refine (gsum_any _ [30, 0] _ HLI.out sum19_bd).mono ?_
  rw [show sumTo [30, 0] ([30, 0] : List Int).length = 30 from awake19_facts.2.2.2.2.2]
  rintro e w' ⟨rfl, rfl⟩
  obtain ⟨k0, k1, k2, k3⟩ := HC.out w2 HB2.out
  go_wp2_with fail
  clear k0 k1 k2 k3
  have HLB : Hid (∀ W, Below w2.heap.size w2 W → OwnI W L [30, 0]) := fun W hW => HL.out.of_below hW HL.out.lt
  have HB2S : Hid (∀ W, Below w2.heap.size w2 W → Below w.heap.size w W) := fun W hW => HB2.out.trans (hW.mono HB2.out.size)
  go_loopw [15, 16, 17, 61] (fun au we fr i wr => au = .slice none 0 0 ∧ we = .slice none 0 0 ∧ Below w2.heap.size w2 wr ∧ ((i = .int .i64 0 ∧ fr = .slice none 0 0) ∨ (i = .int .i64 1 ∧ fr = .slice none 0 0) ∨ (i = .int .i64 2 ∧ IsInts wr fr [1]))) (fun _ _ _ i _ => 2 - (intOf i).toNat)
  case atStart => exact ⟨rfl, rfl, Below.refl _ _, .inl ⟨rfl, rfl⟩⟩
  case round =>
    obtain ⟨rfl, rfl, hb, ⟨rfl, rfl⟩ | ⟨rfl, rfl⟩ | ⟨rfl, hfr⟩⟩ := hrel
    · have HB := Lib.hid hb
      have HBA : Hid (∀ o, Below w2.heap.size w2 (wr.alloc o)) := fun o => HB.out.alloc HB.out.size _
      obtain ⟨k0, k1, k2, k3⟩ := HC.out wr (HB2S.out _ hb)
      clear hb
      go_wp2_with fail
      go_roundw
      case rel => exact ⟨rfl, rfl, HBA.out _, .inr (.inl ⟨by go_num, rfl⟩)⟩
      case measure => simp [intOf]
    · have HB := Lib.hid hb
      have HBA : Hid (∀ o, Below w2.heap.size w2 (wr.alloc o)) := fun o => HB.out.alloc HB.out.size _
      obtain ⟨k0, k1, k2, k3⟩ := HC.out wr (HB2S.out _ hb)
      clear hb
      go_wp2_with (at_builtin; refine wpList_append_lies _ rfl _ _ 26 rfl w2.heap.size 3 i0 _ 1 8 Try.underlying26 hi0 hz0 hz1 hz2 rfl (by omega) _ 0 [] rfl (World.ownsRow_nil _ _ _ _) ⟨wr.heap.size + 1, 0, none⟩ 1 1 [.int .i64 1] rfl rfl (World.news_of_block (cs := #[.int .i64 1]) (t := 3) (fr := (0, 0)) (by have := heap_alloc_new (wr.alloc (.cells #[.int .i64 2, .int .i64 1] 42)) (.cells #[.int .i64 1] 3); rwa [World.size_alloc] at this)) (by simp [Value.oneCell']) (by omega) (by unfold maxLen; omega) (by omega) (by have := HB.out.size; simp; omega) _ rfl ?_; intro gg cap' w6 hown6 hgrow6 hat6 hlt6; have HOW6 := Lib.hid hown6; have HB6 : Hid (Below w2.heap.size w2 w6) := ((HBA.out _).alloc (by have := HB.out.size; simp; omega) _).grown hgrow6 (by have := HB.out.size; simp; omega) (fun q hq => by cases hq); clear hown6 hgrow6 hat6 hlt6)
      have HI6 : Hid (IsInts w6 (.slice (some ⟨gg, 0, none⟩) (0 + 1) cap') [1]) := ownsRow_isInts (xs := [1]) HOW6.out
      go_roundw
      case rel => exact ⟨rfl, rfl, HB6.out, .inr (.inr ⟨by go_num, HI6.out⟩)⟩
      case measure => simp [intOf]
    · have HB := Lib.hid hb
      have HFR := Lib.hid hfr
      clear hb hfr
      go_wp2_with (go_at_call 30; refine (gsum_any _ [] _ (IsInts.nil _) sum0_bd).mono ?_; rw [show sumTo [] ([] : List Int).length = 0 from rfl]; rintro e w' ⟨rfl, rfl⟩)
      obtain ⟨w3, rfl⟩ : ∃ x : World, x = wr := ⟨_, rfl⟩
      have HBB3 := HB
      go_loopw [107] (fun i wx => i = .int .i64 0 ∧ wx = w3) (fun _ _ => 0)
      case atStart => exact ⟨rfl, rfl⟩
      case round =>
        obtain ⟨rfl, hwx⟩ := hrel
        subst hwx
        go_wp2_with fail
        go_loopw [22, 126] (fun re i wx => Below w2.heap.size w2 wx ∧ IsInts wx u17 [1] ∧ ((i = .int .i64 0 ∧ re = .int .i64 90) ∨ (i = .int .i64 1 ∧ re = .int .i64 60) ∨ (i = .int .i64 2 ∧ re = .int .i64 60))) (fun _ i _ => 2 - (intOf i).toNat)
        case atStart => exact ⟨HB.out, HFR.out, .inl ⟨rfl, rfl⟩⟩
        case round =>
          clear HB HFR HBB3
          obtain ⟨hb, hfr, ⟨rfl, rfl⟩ | ⟨rfl, rfl⟩ | ⟨rfl, rfl⟩⟩ := hrel
          · have HB := Lib.hid hb
            have HFR := Lib.hid hfr
            have HBA : Hid (∀ o, Below w2.heap.size w2 (wr.alloc o)) := fun o => HB.out.alloc HB.out.size _
            have HFA : Hid (∀ o, IsInts (wr.alloc o) u17 [1]) := fun o => HFR.out.of_below ((Below.refl _ _).alloc (Nat.le_refl _) _)
            obtain ⟨k0, k1, k2, k3⟩ := HC.out wr (HB2S.out _ hb)
            have cl := (HLB.out wr hb).cell (i := 0) (by decide)
            rw [show gz [30, 0] 0 = 30 from rfl] at cl
            have cl2 : ∀ o, (wr.alloc o).cell? ⟨L, 0, none⟩ = some (.int .i64 30) := fun o => (HLB.out _ (HBA.out o)).cell (i := 0) (by decide)
            clear hb hfr
            go_wp2_with fail
            go_roundw
            case rel => exact ⟨HBA.out _, HFA.out _, .inr (.inl ⟨by go_num, by go_num⟩)⟩
            case measure => simp [intOf]
          · have HB := Lib.hid hb
            have HFR := Lib.hid hfr
            have HBA : Hid (∀ o, Below w2.heap.size w2 (wr.alloc o)) := fun o => HB.out.alloc HB.out.size _
            have HFA : Hid (∀ o, IsInts (wr.alloc o) u17 [1]) := fun o => HFR.out.of_below ((Below.refl _ _).alloc (Nat.le_refl _) _)
            obtain ⟨k0, k1, k2, k3⟩ := HC.out wr (HB2S.out _ hb)
            clear hb hfr
            go_wp2_with fail
            go_roundw
            case rel => exact ⟨HBA.out _, HFA.out _, .inr (.inr ⟨by go_num, rfl⟩)⟩
            case measure => simp [intOf]
          · have HB := Lib.hid hb
            have HFR := Lib.hid hfr
            obtain ⟨fa, fc, rfl, f1, f2, f3⟩ := hfr
            obtain ⟨fb, fo, rfl, flt, fcell⟩ := f3 (by decide)
            rw [show ([1] : List Int).length = 1 from rfl] at HFR ⊢
            have c1 := fcell 0 (by decide)
            rw [show gz [1] 0 = 1 from rfl, Nat.add_zero] at c1
            have HC1 := Lib.hid c1
            have HFL := Lib.hid flt
            clear hb f3 fcell flt c1
            obtain ⟨w4, rfl⟩ : ∃ x : World, x = wr := ⟨_, rfl⟩
            go_wp2_with fail
            go_loopw [25, 143] (fun fl i wx => Below w4.heap.size w4 wx ∧ ((i = .int .i64 0 ∧ fl = .slice none 0 0) ∨ (i = .int .i64 1 ∧ IsRecs 5 wx fl f19))) (fun _ i _ => 1 - (intOf i).toNat)
            case atStart => exact ⟨Below.refl _ _, .inl ⟨rfl, rfl⟩⟩
            case round =>
              obtain ⟨hb, ⟨rfl, rfl⟩ | ⟨rfl, hfl⟩⟩ := hrel
              · have HB4 := Lib.hid hb
                have HBW : Hid (Below w2.heap.size w2 wr) := HB.out.trans (hb.mono HB.out.size)
                obtain ⟨k0, k1, k2, k3⟩ := HC.out wr (HB2S.out _ HBW.out)
                have c1 := (hb.cell (p := ⟨fb, fo, none⟩) HFL.out).trans HC1.out
                have cl := (HLB.out wr HBW.out).cell (i := 1) (by decide)
                rw [show gz [30, 0] 1 = 0 from rfl] at cl
                clear hb k0 k1 k2
                go_wp2_with fail
                refine wp_region_T (S := (fun w' => w'.cell? ⟨L, 1, none⟩ = some (.int .i64 0) ∧ w'.cell? ⟨b, off + 3, none⟩ = some (.int .i64 1))) 14 (by kernel_rfl) (⟨cl, k3⟩) (fun hHeld => ?_)
                refine wpAnyT_take (i := 0) (v := ?_) rfl (by decide +kernel) (by decide +kernel) (by decide +kernel) (by decide +kernel) (by decide +kernel) (fun _ _ _ h => h) (Or.inl ⟨by rfl, ?_⟩) (by assumption) ?_
                rotate_left
                · intro w hSw; (try dsimp only at hSw); first | (go_simp; done) | (go_simp; with_reducible rfl)
                try simp only [Act.put, List.getElem_toArray, List.getElem_cons_succ, List.getElem_cons_zero, List.setIfInBounds_toArray, List.set_cons_zero, List.set_cons_succ]
                refine wpAnyT_take (i := 1) (v := ?_) rfl (by decide +kernel) (by decide +kernel) (by decide +kernel) (by decide +kernel) (by decide +kernel) (fun _ _ _ h => h) (Or.inl ⟨by rfl, ?_⟩) (by assumption) ?_
                rotate_left
                · intro w hSw; (try dsimp only at hSw); first | (go_simp; done) | (go_simp; with_reducible rfl)
                try simp only [Act.put, List.getElem_toArray, List.getElem_cons_succ, List.getElem_cons_zero, List.setIfInBounds_toArray, List.set_cons_zero, List.set_cons_succ]
                refine wpAnyT_take (i := 2) (v := ?_) rfl (by decide +kernel) (by decide +kernel) (by decide +kernel) (by decide +kernel) (by decide +kernel) (fun _ _ _ h => h) (Or.inl ⟨by rfl, ?_⟩) (by assumption) ?_
                rotate_left
                · intro w hSw; (try dsimp only at hSw); first | (go_simp; done) | (go_simp; with_reducible rfl)
                try simp only [Act.put, List.getElem_toArray, List.getElem_cons_succ, List.getElem_cons_zero, List.setIfInBounds_toArray, List.set_cons_zero, List.set_cons_succ]
                refine wpAnyT_take (i := 3) (v := ?_) rfl (by decide +kernel) (by decide +kernel) (by decide +kernel) (by decide +kernel) (by decide +kernel) (fun _ _ _ h => h) (Or.inl ⟨by rfl, ?_⟩) (by assumption) ?_
                rotate_left
                · intro w hSw; (try dsimp only at hSw); first | (go_simp; done) | (go_simp; with_reducible rfl)
                try simp only [Act.put, List.getElem_toArray, List.getElem_cons_succ, List.getElem_cons_zero, List.setIfInBounds_toArray, List.set_cons_zero, List.set_cons_succ]
                refine wpAnyT_take (i := 4) (v := ?_) rfl (by decide +kernel) (by decide +kernel) (by decide +kernel) (by decide +kernel) (by decide +kernel) (fun _ _ _ h => h) (Or.inl ⟨by rfl, ?_⟩) (by assumption) ?_
                rotate_left
                · intro w hSw; (try dsimp only at hSw); first | (go_simp; done) | (go_simp; with_reducible rfl)
                try simp only [Act.put, List.getElem_toArray, List.getElem_cons_succ, List.getElem_cons_zero, List.setIfInBounds_toArray, List.set_cons_zero, List.set_cons_succ]
                refine wpAnyT_take (i := 5) (v := ?_) rfl (by decide +kernel) (by decide +kernel) (by decide +kernel) (by decide +kernel) (by decide +kernel) (fun _ _ _ h => h) (Or.inl ⟨by rfl, ?_⟩) (by assumption) ?_
                rotate_left
                · intro w hSw; (try dsimp only at hSw); first | (go_simp; done) | (go_simp; with_reducible rfl)
                try simp only [Act.put, List.getElem_toArray, List.getElem_cons_succ, List.getElem_cons_zero, List.setIfInBounds_toArray, List.set_cons_zero, List.set_cons_succ]
                refine wpAnyT_take (i := 6) (v := ?_) rfl (by decide +kernel) (by decide +kernel) (by decide +kernel) (by decide +kernel) (by decide +kernel) (fun _ _ _ h => h) (Or.inl ⟨by rfl, ?_⟩) (by assumption) ?_
                rotate_left
                · intro w hSw; (try dsimp only at hSw); first | (go_simp; done) | (go_simp; with_reducible rfl)
                try simp only [Act.put, List.getElem_toArray, List.getElem_cons_succ, List.getElem_cons_zero, List.setIfInBounds_toArray, List.set_cons_zero, List.set_cons_succ]
                refine wpAnyT_take (i := 7) (v := ?_) rfl (by decide +kernel) (by decide +kernel) (by decide +kernel) (by decide +kernel) (by decide +kernel) (fun _ _ _ h => h) (Or.inl ⟨by rfl, ?_⟩) (by assumption) ?_
                rotate_left
                · intro w hSw; (try dsimp only at hSw); first | (go_simp; done) | (go_simp; with_reducible rfl)
                try simp only [Act.put, List.getElem_toArray, List.getElem_cons_succ, List.getElem_cons_zero, List.setIfInBounds_toArray, List.set_cons_zero, List.set_cons_succ]
                refine wpAnyT_take (i := 8) (v := ?_) rfl (by decide +kernel) (by decide +kernel) (by decide +kernel) (by decide +kernel) (by decide +kernel) (fun _ _ _ h => h) (Or.inl ⟨by rfl, ?_⟩) (by assumption) ?_
                rotate_left
                · intro w hSw; (try dsimp only at hSw); first | (go_simp; done) | (go_simp; with_reducible rfl)
                try simp only [Act.put, List.getElem_toArray, List.getElem_cons_succ, List.getElem_cons_zero, List.setIfInBounds_toArray, List.set_cons_zero, List.set_cons_succ]
                refine wpAnyT_take (i := 9) (v := ?_) rfl (by decide +kernel) (by decide +kernel) (by decide +kernel) (by decide +kernel) (by decide +kernel) (fun _ _ _ h => h) (Or.inl ⟨by rfl, ?_⟩) (by assumption) ?_
                rotate_left
                · intro w hSw; (try dsimp only at hSw); first | (go_simp; done) | (go_simp; with_reducible rfl)
                try simp only [Act.put, List.getElem_toArray, List.getElem_cons_succ, List.getElem_cons_zero, List.setIfInBounds_toArray, List.set_cons_zero, List.set_cons_succ]
                refine wpAnyT_take (i := 10) (v := ?_) rfl (by decide +kernel) (by decide +kernel) (by decide +kernel) (by decide +kernel) (by decide +kernel) (fun _ _ _ h => h) (Or.inl ⟨by rfl, ?_⟩) (by assumption) ?_
                rotate_left
                · intro w hSw; (try dsimp only at hSw); first | (go_simp; done) | (go_simp; with_reducible rfl)
                try simp only [Act.put, List.getElem_toArray, List.getElem_cons_succ, List.getElem_cons_zero, List.setIfInBounds_toArray, List.set_cons_zero, List.set_cons_succ]
                refine wpAnyT_take (i := 11) (v := ?_) rfl (by decide +kernel) (by decide +kernel) (by decide +kernel) (by decide +kernel) (by decide +kernel) (fun _ _ _ h => h) (Or.inl ⟨by rfl, ?_⟩) (by assumption) ?_
                rotate_left
                · intro w hSw; (try dsimp only at hSw); first | (go_simp; done) | (go_simp; with_reducible rfl)
                try simp only [Act.put, List.getElem_toArray, List.getElem_cons_succ, List.getElem_cons_zero, List.setIfInBounds_toArray, List.set_cons_zero, List.set_cons_succ]
                have HKB : Hid (∀ W, Below w4.heap.size w4 W → W.cell? ⟨L, 1, none⟩ = some (.int .i64 0) ∧ W.cell? ⟨b, off + 3, none⟩ = some (.int .i64 1)) := fun W hW => by
                  have h2 := HB.out.trans (hW.mono HB.out.size)
                  exact ⟨(HLB.out W h2).cell (i := 1) (by decide), (HC.out W (HB2S.out _ h2)).2.2.2⟩
                refine wpAnyT_one (i := 12) (by kernel_rfl) rfl (fun K hK => ?_)
                go_simp
                refine hK.out _ _ ?_ (fun hHeld2 => ?_)
                · (try dsimp only); exact HKB.out _ (HB4.out.alloc HB4.out.size _).drew
                clear hK K hHeld
                have hHeld := hHeld2
                clear hHeld2
                try simp only [Act.put, List.getElem_toArray, List.getElem_cons_succ, List.getElem_cons_zero, List.setIfInBounds_toArray, List.set_cons_zero, List.set_cons_succ]
                refine wpAnyT_one (i := 13) (by kernel_rfl) rfl (fun K hK => ?_)
                (refine step_append_lies _ (by rfl) _ _ _ (by rfl) w4.heap.size 60 j0 _ 5 40 Try.underlying58 ji0 jz0 jz1 jz2 rfl (by omega) _ 0 [] (by rfl) (World.ownsRow_nil _ _ _ _) ⟨wr.heap.size, 0, none⟩ 1 1 [.int .i64 0, .int .i64 0, .int .i64 1048576, .int .i64 1, .int .i64 0] (by rfl) (by rfl) (World.news_of_block (cs := #[.int .i64 0, .int .i64 0, .int .i64 1048576, .int .i64 1, .int .i64 0]) (t := 60) (fr := (0, 0)) (by exact heap_alloc_new wr _)) (by simp [Value.oneCell']) (by omega) (by unfold maxLen; omega) (by omega) (by have := HB4.out.size; simp; omega) (wr.heap.size + 1) (by simp) ?_; intro gg cap' w6 hown6 hgrow6 hat6 hlt6; have HOW6 := Lib.hid hown6; have HB6 : Hid (Below w4.heap.size w4 w6) := ((HB4.out.alloc HB4.out.size _).drew).grown hgrow6 (by have := HB4.out.size; simp; omega) (fun q hq => by cases hq))
                refine hK.out _ _ ?_ (fun hHeld2 => ?_)
                · (try dsimp only); exact HKB.out _ HB6.out
                clear hK K hHeld
                have hHeld := hHeld2
                clear hHeld2
                try simp only [Act.put, List.getElem_toArray, List.getElem_cons_succ, List.getElem_cons_zero, List.setIfInBounds_toArray, List.set_cons_zero, List.set_cons_succ]
                clear hown6 hgrow6 hat6 hlt6
                refine wpAnyT_last (i := 14) (by kernel_rfl) (by kernel_rfl) rfl (by kernel_rfl) (fun K hK => ?_)
                go_simp
                refine hK.out _ _ ?_
                clear hK K
                try simp only [Act.put, List.getElem_toArray, List.getElem_cons_succ, List.getElem_cons_zero, List.setIfInBounds_toArray, List.set_cons_zero, List.set_cons_succ]
                clear hHeld
                have HR6 : Hid (IsRecs 5 w6 (.slice (some ⟨gg, 0, none⟩) (0 + 1) cap') f19) := ownsRow_isRecs (l := f19) HOW6.out rfl (by intro r hr; simp [f19] at hr; subst hr; rfl)
                go_wp2
                go_roundw
                case rel => exact ⟨HB6.out, .inr ⟨by go_num, HR6.out⟩⟩
                case measure => simp [intOf]
              · have HB4 := Lib.hid hb
                have HFX := Lib.hid hfl
                clear hb hfl
                go_wp2_with (first | (go_at_call 26; refine (clamp_any _ _ _ _).mono ?_; rw [show clampZ 60 0 1048576 = 60 from by decide]; rintro e w' ⟨rfl, rfl⟩) | fail)
                refine (bres_any _ 60 0 f19 _ HFX.out).mono ?_
                rintro e w5 ⟨v, he, hv5, hb5⟩
                rw [awake19_facts.1] at he
                rw [awake19_facts.2.1] at hv5
                subst he
                have HB5 : Hid (Below w4.heap.size w4 w5) := HB4.out.trans (hb5.mono HB4.out.size)
                have HB52 : Hid (Below w2.heap.size w2 w5) := HB.out.trans (HB5.out.mono HB.out.size)
                obtain ⟨va, vc, rfl, v1, v2, v3⟩ := hv5
                obtain ⟨vb, vo, rfl, vlt, vcell⟩ := v3 (by decide)
                have cv := vcell 0 (by decide)
                rw [show gz [60] 0 = 60 from rfl, Nat.add_zero] at cv
                rw [show ([60] : List Int).length = 1 from rfl]
                have HCV := Lib.hid cv
                have HVL := Lib.hid vlt
                clear hb5 v3 vcell vlt cv v1 v2
                go_wp2_with fail
                go_loopw [174] (fun i wx => (i = .int .i64 0 ∧ wx = w5) ∨ (i = .int .i64 1 ∧ OwnI wx L [30, 60] ∧ Below w.heap.size w wx)) (fun i _ => 1 - (intOf i).toNat)
                case atStart => exact .inl ⟨rfl, rfl⟩
                case round =>
                  obtain ⟨rfl, hwx⟩ | ⟨rfl, hl6, hb6⟩ := hrel
                  · subst hwx
                    have c1 := (HB5.out.cell (p := ⟨fb, fo, none⟩) HFL.out).trans HC1.out
                    have cv := HCV.out
                    have hl5 := HLB.out _ HB52.out
                    have cl := hl5.cell (i := 1) (by decide)
                    have fl := hl5.free 1
                    have HL6 : Hid (OwnI (wr.setCell ⟨L, 1, none⟩ (.int .i64 60)) L [30, 60]) := hl5.set 1 60
                    have HB6 : Hid (Below w.heap.size w (wr.setCell ⟨L, 1, none⟩ (.int .i64 60))) := (HB2S.out _ HB52.out).setCell (p := ⟨L, 1, none⟩) HL0.out _
                    clear hl5
                    go_wp2_with fail
                    go_roundw
                    case rel => exact .inr ⟨by go_num, HL6.out, HB6.out⟩
                    case measure => simp [intOf]
                  · have HL6 := Lib.hid hl6
                    have HB6 := Lib.hid hb6
                    clear hl6 hb6
                    go_wp2_with fail
                    go_ret2
                    exact ⟨_, rfl, HL6.out.isInts (by decide), HB6.out⟩
set_option maxHeartbeats 4000000 in
theorem awake_any (w : World) : Calls Try.prog 10 #[] w (True_ w) := by
  have HL : Hid (IsRecs 2 (w.alloc (.cells #[.int .i64 0, .int .i64 30, .int .i64 2, .int .i64 1] 42)) (.slice (some ⟨w.heap.size, 0, none⟩) 2 2) t19) :=
    lit_recs t19 rfl (by intro r hr; simp [t19] at hr; rcases hr with rfl | rfl <;> rfl) (by decide) 2 rfl
  have HB0 : Hid (Below w.heap.size w (w.alloc (.cells #[.int .i64 0, .int .i64 30, .int .i64 2, .int .i64 1] 42))) := (Below.refl _ _).alloc (Nat.le_refl _) _
  go_enter Try.func10, Try.ntmps10
  go_wp2_with fail
  refine (tracks19 _ _ HL.out).mono ?_
  rintro e w1 ⟨v, rfl, hv, hb1⟩
  have HV := Lib.hid hv
  have HB1 := Lib.hid (HB0.out.trans (hb1.mono HB0.out.size))
  clear hv hb1
  go_wp2_with fail
  have HB2 : Hid (Below w.heap.size w (w1.alloc (.cells #[.int .i64 30, .int .i64 60] 3))) := HB1.out.alloc HB1.out.size _
  have HV2 : Hid (IsInts (w1.alloc (.cells #[.int .i64 30, .int .i64 60] 3)) v [30, 60]) := HV.out.of_below ((Below.refl _ _).alloc (Nat.le_refl _) _)
  have HI2 : Hid (IsInts (w1.alloc (.cells #[.int .i64 30, .int .i64 60] 3)) (.slice (some ⟨w1.heap.size, 0, none⟩) 2 2) [30, 60]) := lit_ints [30, 60] rfl (by decide) 2 rfl
  refine (equal_any _ _ [30, 60] [30, 60] _ HV2.out HI2.out).mono ?_
  rw [eqL_self]
  rintro e w2 ⟨rfl, d, rfl⟩
  obtain ⟨W2, hW2⟩ : ∃ W, w1.alloc (.cells #[.int .i64 30, .int .i64 60] 3) = W := ⟨_, rfl⟩
  rw [hW2] at HB2 HV2 ⊢
  clear hW2
  go_wp2_with fail
  have HB4 : Hid (Below w.heap.size w ((W2.drewN d).alloc (.cells #[.int .i64 1, .int .i64 2] 3))) := (Below_drewN HB2.out d).alloc HB2.out.size _
  have HI4 : Hid (IsInts ((W2.drewN d).alloc (.cells #[.int .i64 1, .int .i64 2] 3)) (.slice (some ⟨W2.heap.size, 0, none⟩) 2 2) [1, 2]) := lit_ints (w := W2.drewN d) [1, 2] rfl (by decide) 2 rfl
  refine (place_any _ 2 [1, 2] _ (by exact HI4.out)).mono ?_
  rintro e w5 ⟨u, rfl, hu, hb5⟩
  rw [awake19_facts.2.2.1] at hu
  obtain ⟨ua, uc, rfl, -, -, -⟩ := hu
  rw [show ([[0, 0, 1], [1, 0, 2]] : List Rec).length = 2 from rfl]
  have HB5 : Hid (Below w.heap.size w w5) := HB4.out.trans (Below.mono hb5 HB4.out.size)
  clear hb5
  go_wp2
  go_ret
  exact ⟨rfl, HB5.out⟩
end Go.Proofs.Ytadkkkdecejkeaa

