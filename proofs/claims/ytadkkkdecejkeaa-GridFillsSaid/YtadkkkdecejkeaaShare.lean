/- Share of package fixed and of its reference: what they return. -/
import Derived.Test.YtadkkkdecejkeaaMem
import Derived.Deep.QuietTactic
import Derived.BigQuiet
import Derived.BigRegion
import Derived.Deep.DeepCutAuto
import Derived.Handy
namespace Go.Proofs.Ytadkkkdecejkeaa
open Go.RowKit

/-- What a call of Share leaves. -/
def Shared (total : Int) (ws : List Int) (w : World) (e : Ending) (w' : World) : Prop :=
  ∃ v, e = .returned (.tuple #[v, .int .i64 (shareErr total ws)]) ∧ IsInts w' v (shareParts total ws) ∧ Below w.heap.size w w'

/-- A slice of blocks from B on (or of none). -/
def freshV (B : Nat) (v : Value) : Prop := ∀ a m c, v = .slice (some a) m c → B ≤ a.block
theorem freshV.nil (B m c : Nat) : freshV B (.slice none m c) := fun a m c h => by cases h
theorem freshV.mk {B g o m c : Nat} (h : B ≤ g) : freshV B (.slice (some ⟨g, o, none⟩) m c) := fun a m c e => by cases e; exact h
/-- The same, and the parts lie in a block of the call's own. -/
def SharedN (total : Int) (ws : List Int) (w : World) (e : Ending) (w' : World) : Prop :=
  ∃ v, e = .returned (.tuple #[v, .int .i64 (shareErr total ws)]) ∧ IsInts w' v (shareParts total ws) ∧ Below w.heap.size w w' ∧ freshV w.heap.size v
theorem SharedN.shared {total : Int} {ws : List Int} {w w' : World} {e : Ending} (h : SharedN total ws w e w') : Shared total ws w e w' := by
  obtain ⟨v, h1, h2, h3, -⟩ := h
  exact ⟨v, h1, h2, h3⟩
theorem SharedN.no {total : Int} {ws : List Int} {w : World} {c : Int} (h : shareErr total ws = c) (hc : c ≠ 0) :
    SharedN total ws w (.returned (.tuple #[.slice none 0 0, .int .i64 c])) w :=
  ⟨_, by rw [h], by rw [shareParts, if_pos (by omega)]; exact IsInts.nil w, Below.refl _ _, freshV.nil _ _ _⟩

theorem shareErr_zero {total : Int} {ws : List Int} (hn : ws.length ≤ 100) (h0 : 0 ≤ total) (h1 : total ≤ 1073741824) (hg : goodTo ws ws.length) : shareErr total ws = 0 := by
  unfold shareErr
  rw [if_neg (by omega), if_neg (by omega), if_neg (by rw [not_bad_of hg]; simp)]
theorem shareErr_bad {total : Int} {ws : List Int} {k n : Nat} (hw : ws.length = n) (hn : n ≤ 100) (hk : k < n) (h : gz ws k < 0 ∨ 2147483648 < gz ws k) : shareErr total ws = 1 := by
  unfold shareErr
  rw [if_neg (by omega), bad_of (by omega) h]
  simp

set_option maxHeartbeats 1000000 in
set_option maxRecDepth 100000 in
theorem share_pos (b off cap n : Nat) (total : Int) (ws : List Int) (w : World) (HN : Hid (ws.length = n)) (hn : n ≤ 100) (hp : 0 < n) (h0 : 0 ≤ total) (h1 : total ≤ 1073741824)
    (HC : Hid (∀ i, i < n → w.cell? ⟨b, off + i, none⟩ = some (.int .i64 (gz ws i)))) :
    Calls Try.prog 31 #[.int .i64 total, .slice (some ⟨b, off, none⟩) n cap] w (SharedN total ws w) := by
  go_enter Try.func31, Try.ntmps31
  go_wp2
  go_loop [6, 27] (fun s i => ∃ k : Nat, k ≤ n ∧ i = .int .i64 k ∧ s = .int .i64 (sumTo ws k) ∧ goodTo ws k) (fun _ i => n - (intOf i).toNat)
  case atStart => exact ⟨0, Nat.zero_le _, rfl, rfl, goodTo_zero _⟩
  case round =>
    obtain ⟨k, hk, rfl, rfl, hg⟩ := hrel
    have hsb := sumTo_bd hg
    by_cases hlt : k < n
    · have hck := HC.out k hlt
      by_cases hx0 : gz ws k < 0
      · go_wp2
        go_ret2
        exact SharedN.no (shareErr_bad HN.out hn hlt (.inl hx0)) (by omega)
      · by_cases hx1 : 2147483648 < gz ws k
        · go_wp2
          go_ret2
          exact SharedN.no (shareErr_bad HN.out hn hlt (.inr hx1)) (by omega)
        · go_wp2
          go_round
          case rel => exact ⟨k + 1, by omega, by go_num, rfl, goodTo_succ hg (by omega) (by omega)⟩
          case measure => simp [intOf]; omega
    · obtain rfl : k = n := by omega
      have hmk := make_ints k (by omega)
      by_cases hs : sumTo ws k = 0
      · go_wp2
        go_ret2
        have he : shareErr total ws = 0 := shareErr_zero (by rw [HN.out]; exact hn) h0 h1 (by rw [HN.out]; exact hg)
        have hfin : shareParts total ws = List.replicate k 0 := by
          unfold shareParts
          rw [if_neg (by rw [he]; simp), HN.out, if_pos hs]
        refine ⟨.slice (some ⟨w.heap.size, 0, none⟩) k k, by rw [he]; rfl, ?_, (Below.refl _ _).alloc (Nat.le_refl _) _, freshV.mk (Nat.le_refl _)⟩
        have := (OwnI.made w k).isInts (by rw [List.length_replicate]; unfold maxLen; omega)
        rw [List.length_replicate] at this
        rw [hfin]; exact this
      · have hs' : (sumTo ws k == 0) = false := by simpa using hs
        have hlb := leftTo_bd hg h0 (by omega : 0 < sumTo ws k) (fun j hj => le_sumTo hg hj)
        have HLB := Lib.hid hlb
        clear hlb
        go_wp2
        go_loopw [11, 53] (fun left i wr => ∃ j : Nat, j ≤ k ∧ i = .int .i64 j ∧ left = .int .i64 (leftTo total (sumTo ws k) ws j) ∧ OwnI wr w.heap.size (stage (parts0 total (sumTo ws k) ws) j) ∧
            OwnI wr (w.heap.size + 1) (stage (rests0 total (sumTo ws k) ws) j) ∧ Below w.heap.size w wr) (fun _ i _ => k - (intOf i).toNat)
        case atStart =>
          refine ⟨0, Nat.zero_le _, rfl, rfl, ?_, ?_, ?_⟩
          · rw [stage_zero, parts0, List.length_map, HN.out]
            exact (OwnI.made w k).alloc _
          · rw [stage_zero, rests0, List.length_map, HN.out]
            have := OwnI.made (w.alloc (.cells (madeCells #[.int .i64 0] k) 3)) k
            rwa [World.size_alloc] at this
          · exact ((Below.refl _ _).alloc (Nat.le_refl _) _).alloc (by simp) _
        case round =>
          obtain ⟨j, hj, rfl, rfl, ho1, ho2, hbl⟩ := hrel
          by_cases hjk : j < k
          · have hcj := (hbl.cell (p := ⟨b, off + j, none⟩) (World.block_lt_of_cell? w _ (HC.out j hjk))).trans (HC.out j hjk)
            have hgj := hg j hjk
            have hm := mul_bd h0 hgj.1 h1 hgj.2
            have hq := quot_bd h0 hgj.1 (by omega : 0 < sumTo ws k) (le_sumTo hg hjk)
            have hl := HLB.out j (by omega)
            have hjt := mul_bd (a := (j : Int)) (m := 100) (by omega) h0 (by omega) h1
            have hp1 := ho1.cell (i := j) (by rw [length_stage, parts0, List.length_map, HN.out]; exact hjk)
            have hp2 := ho2.cell (i := j) (by rw [length_stage, rests0, List.length_map, HN.out]; exact hjk)
            have hf1 := ho1.free j
            have hf2 := ho2.free j
            go_wp2
            go_region
            go_wp2
            go_roundw
            case rel =>
              refine ⟨j + 1, by omega, by go_num, rfl, ?_, ?_, ?_⟩
              · rw [← stage_set _ _ (by rw [parts0, List.length_map, HN.out]; exact hjk), parts0, gz_map _ _ _ (by rw [HN.out]; exact hjk)]
                exact ((ho1.set j _).set_other (by omega) _ _).drew
              · rw [← stage_set _ _ (by rw [rests0, List.length_map, HN.out]; exact hjk), rests0, gz_map _ _ _ (by rw [HN.out]; exact hjk)]
                exact ((ho2.set_other (by omega) _ _).set j _).drew
              · exact ((hbl.setCell (Nat.le_refl _) _).setCell (Nat.le_succ _) _).drew
            case measure => simp [intOf]; omega
          · obtain rfl : j = k := by omega
            go_wp2
            have e1 : stage (parts0 total (sumTo ws j) ws) j = parts0 total (sumTo ws j) ws := by
              have := stage_all (parts0 total (sumTo ws j) ws); rwa [parts0, List.length_map, HN.out] at this
            have e2 : stage (rests0 total (sumTo ws j) ws) j = rests0 total (sumTo ws j) ws := by
              have := stage_all (rests0 total (sumTo ws j) ws); rwa [rests0, List.length_map, HN.out] at this
            rw [e1] at ho1
            rw [e2] at ho2
            clear e1 e2
            have hl := HLB.out j (Nat.le_refl _)
            have hq : allTo (parts0 total (sumTo ws j) ws) 1073741824 := by
              intro i hi
              rw [parts0, List.length_map, HN.out] at hi
              rw [parts0, gz_map _ _ _ (by rw [HN.out]; exact hi)]
              have := quot_bd h0 (hg i hi).1 (by omega : 0 < sumTo ws j) (le_sumTo hg hi)
              omega
            have hlp : (parts0 total (sumTo ws j) ws).length = j := by rw [parts0, List.length_map, HN.out]
            have hlr : (rests0 total (sumTo ws j) ws).length = j := by rw [rests0, List.length_map, HN.out]
            obtain ⟨S, hS⟩ : ∃ S, sumTo ws j = S := ⟨_, rfl⟩
            obtain ⟨L, hL⟩ : ∃ L, leftTo total (sumTo ws j) ws j = L := ⟨_, rfl⟩
            obtain ⟨P0, hP0⟩ : ∃ P0, parts0 total (sumTo ws j) ws = P0 := ⟨_, rfl⟩
            obtain ⟨R0, hR0⟩ : ∃ R0, rests0 total (sumTo ws j) ws = R0 := ⟨_, rfl⟩
            have HF : Hid (shareParts total ws = roundsP L.toNat P0 R0) := by
              have he := shareErr_zero (total := total) (by rw [HN.out]; exact hn) h0 h1 (by rw [HN.out]; exact hg)
              unfold shareParts
              rw [if_neg (by rw [he]; simp), HN.out, if_neg hs, hL, hP0, hR0]
              exact rfl
            rw [hL] at hl ⊢
            rw [hP0] at ho1 hq hlp
            rw [hR0] at ho2 hlr
            rw [hS] at hsb hs hs' ⊢
            clear hmk hk hlt hjk HLB hL hP0 hR0 hS
            obtain ⟨w2, rfl⟩ : ∃ x : World, x = wr := ⟨_, rfl⟩
            go_loopw [11] (fun left wr => ∃ (d : Nat) (p r : List Int), d ≤ L.toNat ∧ left = .int .i64 (L - d) ∧ OwnI wr w.heap.size p ∧ OwnI wr (w.heap.size + 1) r ∧ Below w.heap.size w wr ∧
              Hid (p.length = j ∧ r.length = j ∧ allTo p (1073741824 + d) ∧ roundsP L.toNat P0 R0 = roundsP (L.toNat - d) p r)) (fun left _ => (intOf left).toNat)
            case atStart => exact ⟨0, P0, R0, Nat.zero_le _, by simp, ho1, ho2, hbl, hlp, hlr, by simpa using hq, rfl⟩
            case round => 
              clear ho1 ho2 hbl hlr hlp hq
              obtain ⟨d, p, r, hd, rfl, ho1, ho2, hbl, HR⟩ := hrel
              by_cases hdl : (d : Int) < L
              · have hlr' := HR.out.2.1
                have HLR := Lib.hid hlr'
                clear hlr'
                go_wp2
                go_loopw [14, 87] (fun bst i wi => ∃ (q : Nat) (nd : Nat), q ≤ j ∧ i = .int .i64 q ∧ bst = .int .i64 (best r q) ∧ wi = wr.drewN nd) (fun _ i _ => j - (intOf i).toNat)
                case atStart => exact ⟨0, 0, Nat.zero_le _, rfl, rfl, rfl⟩
                case round =>
                  rename_i wi
                  obtain ⟨q, nd, hq, rfl, rfl, rfl⟩ := hrel
                  have hbj := best_lt r hq hp
                  by_cases hqj : q < j
                  · have c1 := ho2.cell (i := q) (by rw [HLR.out]; exact hqj)
                    have c2 := ho2.cell (i := best r q) (by rw [HLR.out]; exact hbj)
                    by_cases hb1 : gz r (best r q) < gz r q
                    · have hbe : best r (q + 1) = q := by rw [best, if_pos hb1]
                      have HBE := Lib.hid hbe
                      clear hbe
                      go_wp2
                      go_quiet (fail)
                      go_wp2
                      go_roundw
                      case rel => exact ⟨q + 1, nd + nq, by omega, by go_num, by rw [HBE.out], rfl⟩
                      case measure => simp [intOf]; omega
                    · have hbe : best r (q + 1) = best r q := by rw [best, if_neg hb1]
                      have HBE := Lib.hid hbe
                      clear hbe
                      go_wp2
                      go_quiet (fail)
                      go_wp2
                      go_roundw
                      case rel => exact ⟨q + 1, nd + nq, by omega, by go_num, by rw [HBE.out], rfl⟩
                      case measure => simp [intOf]; omega
                  · obtain rfl : q = j := by omega
                    have hpb := HR.out.2.2.1 (best r q) (by rw [HR.out.1]; exact hbj)
                    have c1 := ho1.cell (i := best r q) (by rw [HR.out.1]; exact hbj)
                    have c2 := ho2.cell (i := best r q) (by rw [HLR.out]; exact hbj)
                    have f1 := ho1.free (best r q)
                    have f2 := ho2.free (best r q)
                    go_wp2
                    go_roundw
                    case rel =>
                      refine ⟨d + 1, giveP p r, giveR r, by omega, by go_num, ?_, ?_, ?_, ?_⟩
                      · have := ((ho1.drewN nd).set (best r q) (gz p (best r q) + 1)).set_other (g' := w.heap.size + 1) (by omega) (best r q) (.int .i64 (-1))
                        rw [giveP, HLR.out]; exact this
                      · have := ((ho2.drewN nd).set_other (g' := w.heap.size) (by omega) (best r q) (.int .i64 (gz p (best r q) + 1))).set (best r q) (-1)
                        rw [giveR, HLR.out]; exact this
                      · exact ((below_drewN hbl nd).setCell (Nat.le_refl _) _).setCell (Nat.le_succ _) _
                      · refine ⟨by rw [length_giveP]; exact HR.out.1, by rw [length_giveR]; exact HR.out.2.1, ?_, ?_⟩
                        · have := allTo_giveP (r := r) HR.out.2.2.1
                          rwa [show (1073741824 + (d : Int) + 1) = 1073741824 + ((d + 1 : Nat) : Int) from by omega] at this
                        · rw [HR.out.2.2.2, show L.toNat - d = (L.toNat - (d + 1)) + 1 from by omega, roundsP]
                    case measure => simp [intOf]; omega
              · go_wp2
                go_ret2
                have e0 : L.toNat - d = 0 := by omega
                have hfin : shareParts total ws = p := by rw [HF.out, HR.out.2.2.2, e0, roundsP]
                have he : shareErr total ws = 0 := shareErr_zero (by rw [HN.out]; exact hn) h0 h1 (by rw [HN.out]; exact hg)
                refine ⟨.slice (some ⟨w.heap.size, 0, none⟩) j j, by rw [he]; rfl, ?_, hbl, freshV.mk (Nat.le_refl _)⟩
                have := ho1.isInts (by rw [HR.out.1]; unfold maxLen; omega)
                rw [HR.out.1] at this
                rw [hfin]; exact this

set_option maxHeartbeats 400000 in
theorem share_long (a : Option Addr) (n cap : Nat) (total : Int) (ws : List Int) (w : World) (HN : Hid (ws.length = n)) (hn : 100 < n) (hm : n ≤ maxLen) :
    Calls Try.prog 31 #[.int .i64 total, .slice a n cap] w (SharedN total ws w) := by
  unfold maxLen at hm
  have hn' : (100 : Int) < (n : Int) := by omega
  go_enter Try.func31, Try.ntmps31
  go_wp2
  go_ret2
  exact SharedN.no (by unfold shareErr; rw [if_pos (by rw [HN.out]; exact hn)]) (by omega)

set_option maxHeartbeats 400000 in
theorem share_range (a : Option Addr) (n cap : Nat) (total : Int) (ws : List Int) (w : World) (HN : Hid (ws.length = n)) (hn : n ≤ 100) (ht : total < 0 ∨ 1073741824 < total) :
    Calls Try.prog 31 #[.int .i64 total, .slice a n cap] w (SharedN total ws w) := by
  have he : shareErr total ws = 1 := by unfold shareErr; rw [if_neg (by rw [HN.out]; omega), if_pos ht]
  have HE := Lib.hid he
  clear he
  by_cases h0 : total < 0
  · clear ht
    go_enter Try.func31, Try.ntmps31
    go_wp2
    go_ret2
    exact SharedN.no HE.out (by omega)
  · have h1 : 1073741824 < total := by omega
    clear ht
    go_enter Try.func31, Try.ntmps31
    go_wp2
    go_ret2
    exact SharedN.no HE.out (by omega)

set_option maxHeartbeats 400000 in
theorem share_none (a : Option Addr) (cap : Nat) (total : Int) (w : World) (h0 : 0 ≤ total) (h1 : total ≤ 1073741824) :
    Calls Try.prog 31 #[.int .i64 total, .slice a 0 cap] w (SharedN total [] w) := by
  have hmk : ∀ w : World, (Instr.makeSlice 26 (.int .i64 0) (.int .i64 0)).run Try.prog w = .ok (.slice (some ⟨w.heap.size, 0, none⟩) 0 0) (w.alloc (.cells (madeCells #[.int .i64 0] 0) 3)) :=
    make_ints 0 (by omega)
  go_enter Try.func31, Try.ntmps31
  go_wp2
  refine wp_loop_rounds 1 ?_
  rw [rounds_succ]
  go_wp2
  go_ret2
  have he : shareErr total [] = 0 := shareErr_zero (by simp) h0 h1 (goodTo_zero _)
  have hfin : shareParts total [] = List.replicate 0 0 := by
    unfold shareParts
    rw [if_neg (by rw [he]; simp), if_pos (by rfl)]
    rfl
  refine ⟨.slice (some ⟨w.heap.size, 0, none⟩) 0 0, by rw [he]; rfl, ?_, (Below.refl _ _).alloc (Nat.le_refl _) _, freshV.mk (Nat.le_refl _)⟩
  have := (OwnI.made w 0).isInts (by simp)
  rw [hfin]; exact this

/-- SHARE OF PACKAGE fixed: for every total and every list of weights. -/
theorem share_new (v : Value) (total : Int) (ws : List Int) (w : World) (hv : IsInts w v ws) :
    Calls Try.prog 31 #[.int .i64 total, v] w (SharedN total ws w) := by
  obtain ⟨a, cap, rfl, h1, h2, h3⟩ := hv
  by_cases hn : 100 < ws.length
  · exact share_long a _ cap total ws w (Lib.hid rfl) hn (by omega)
  · by_cases ht : total < 0 ∨ 1073741824 < total
    · exact share_range a _ cap total ws w (Lib.hid rfl) (by omega) ht
    · by_cases hp : 0 < ws.length
      · obtain ⟨b, off, rfl, _, hc⟩ := h3 hp
        exact share_pos b off cap _ total ws w (Lib.hid rfl) (by omega) hp (by omega) (by omega) (Lib.hid hc)
      · obtain rfl : ws = [] := by cases ws with | nil => rfl | cons => simp at hp
        exact share_none a cap total w (by omega) (by omega)
theorem share_any (v : Value) (total : Int) (ws : List Int) (w : World) (hv : IsInts w v ws) :
    Calls Try.prog 31 #[.int .i64 total, v] w (Shared total ws w) := (share_new v total ws w hv).mono fun _ _ h => h.shared
end Go.Proofs.Ytadkkkdecejkeaa
