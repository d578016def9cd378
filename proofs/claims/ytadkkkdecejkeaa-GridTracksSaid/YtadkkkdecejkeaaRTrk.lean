/- Tracks of the reference of package grid: without tracks, and for all arguments. -/
import Derived.Test.YtadkkkdecejkeaaRTracks
namespace Go.Proofs.Ytadkkkdecejkeaa
open Go.RowKit
attribute [local go_sem ↓] Go.wp_at_zero Go.wp_at_succ
set_option linter.unusedVariables false
set_option linter.unusedSimpArgs false

theorem run_append_zero {P : Program} (w : World) (t ty e : TypeId) (i : TypeInfo) (ht : P.underlying t = some (.slice e)) (hi : P.info? e = some i) (a : Option Addr) (c : Nat) :
    (Builtin.append_ #[t, t] ty #[.slice none 0 0, .slice a 0 c]).run P w = .ok (.slice none 0 0) w := by
  cases a <;> simp [Builtin.append_, run_underlying ht, sizeOf, typeInfo, hi, Builtin.lenOf, Builtin.firstCells, loadCells, loadCellsFrom]
theorem wpList_append_zero {P : Program} {w : World} {ops : Array Oper} {rest : List Oper} {o : Oper} {a : Act} {Q : Exit → Act → World → Prop} (hgd : o.guard = none) (s x : Operand) (t : TypeId)
    (ho : o.op = .call { callee := .builtin .append, args := #[s, x], argTypes := #[t, t] }) (e : TypeId) (i : TypeInfo) (ht : P.underlying t = some (.slice e)) (hi : P.info? e = some i)
    (b : Option Addr) (c : Nat) (hs : a.eval s = .slice none 0 0) (hx : a.eval x = .slice b 0 c) (h : wpList P ops Q rest (a.put o.dst (.slice none 0 0)) w) : wpList P ops Q (o :: rest) a w := by
  refine wpList_plain hgd fun K hK => ?_
  have hrun := run_append_zero (P := P) w t o.type e i ht hi b c
  unfold Oper.wp
  simp [execOp, ho, resolve, invoke, builtin, hs, hx, hrun, Result.andThen]
  exact hK _ _ h
set_option maxHeartbeats 20000000 in
set_option maxRecDepth 100000 in
theorem rtracks_zero (a ia : Option Addr) (cap icap q : Nat) (av gp : Int) (it : List Rec) (w : World) (HQ : Hid (it.length = q)) (hv : IsRecs 2 w (.slice a 0 cap) []) (hi : InRecs 4 w (.slice ia q icap) it) (hE : gErr av gp [] it = 0) :
    Calls Try.prog 20 #[.int .i64 av, .int .i64 gp, .slice a 0 cap, .slice ia q icap] w (Tracked av gp [] it w) := by
  obtain ⟨i0, hi0, hz0, hz1, hz2⟩ := info_parts info_int1
  have HV := Lib.hid hv
  have HI := Lib.hid hi
  have HE := Lib.hid hE
  obtain ⟨e1, e2, e3, e4, e5, e6⟩ := gErr_ok hE
  have HAV := Lib.hid (lenB_iff.1 e3)
  have HGP := Lib.hid (lenB_iff.1 e4)
  obtain ⟨hav0, hav1⟩ := HAV.out
  have hl0 : (leastL [] it gp).length = 0 := leastL_len _ _ _
  have HL0 : Hid (leastL [] it gp = []) := List.eq_nil_of_length_eq_zero hl0
  have HRES : Hid (trkL av gp [] it = []) := by
    show _ = _
    unfold trkL
    rw [if_pos hE]
    refine List.eq_nil_of_length_eq_zero ?_
    rw [putAt_len, grown_len, hl0]
  have HFE : Hid (flexErr av 0 [] = 0) := flexErr_ok (av := av) (gp := 0) (by simp) (by simp [lenB]; omega) (fun j hj => by simp at hj)
  clear hv hi hE e1 e2 e3 e4 e5 e6 hl0
  go_enter Try.func20, Try.ntmps20
  go_wp2_with fail
  refine (rcheck_any _ _ av gp [] it _ HV.out HI.out).mono ?_
  rw [HE.out]
  rintro e w1 ⟨rfl, hb1⟩
  have HV1 := Lib.hid (HV.out.of_below hb1)
  have HI1 := Lib.hid (HI.out.1.of_below hb1)
  have HB1 := Lib.hid hb1
  clear hb1
  go_wp2_with fail
  refine (demands_of a ia cap 0 icap q av gp [] it _ (Lib.hid rfl) HQ HV1.out HI1.out HE.out).2.mono ?_
  rintro e w2 ⟨L, M, rfl, hL, hM, hne, hlo, hmo, hb2⟩
  have HB2 : Hid (Below w.heap.size w w2) := HB1.out.trans (hb2.mono HB1.out.size)
  rw [HL0.out] at hL
  have HSI : Hid (IsInts w2 (.slice (some ⟨L, 0, none⟩) 0 0) []) := hL.isInts (by unfold maxLen; simp)
  have HTOT : Hid (Calls Try.prog 35 #[.int .i64 gp, .slice (some ⟨L, 0, none⟩) 0 0] w2 fun e w' => e = .returned (.int .i64 0) ∧ w2 = w') := Lib.hid (by
    have h := rtotal_any _ gp _ w2 HSI.out (fun k hk => by simp at hk) (by simp) HGP.out
    simpa [sumTo] using h)
  have HSM : Hid (Calls Try.prog 17 #[.slice none 0 0] w2 fun e w' => e = .returned (.int .i64 0) ∧ w2 = w') := Lib.hid (by
    have h := rsum_any (.slice none 0 0) [] w2 (IsInts.nil _) (fun k hk => by
      have : k = 0 := by simpa using hk
      subst this; decide)
    simpa [sumTo] using h)
  clear hL hM hne hlo hmo hb2 HV1 HI1 HB1 HV HI
  have hw4 : IntKind.i64.wrap av = av := IntWalk.i64_in _ (by omega)
  go_wp2_with first | (at_builtin; refine wpList_append_zero _ rfl _ _ 26 rfl 3 i0 Try.underlying26 hi0 (some ⟨L, 0, none⟩) 0 rfl rfl ?_) | (go_at_call 35; refine HTOT.out.mono ?_; rintro e w' ⟨rfl, rfl⟩)
  go_loopw [15, 16] (fun u i wr => u = .slice none 0 0 ∧ i = .int .i64 0 ∧ wr = w2) (fun _ _ _ => 0)
  case atStart => exact ⟨rfl, rfl, rfl⟩
  case round =>
    obtain ⟨rfl, rfl, rfl⟩ := hrel
    obtain ⟨w3, rfl⟩ : ∃ x : World, x = wr := ⟨_, rfl⟩
    go_upto_if 74 with fail
    go_cut [] (fun wx => wx = w3)
    case first =>
      by_cases hf : 0 < av
      · have d0 : decide (0 < av) = true := by simpa using hf
        have d1 : ¬ av < 0 := by omega
        have d2 : decide (av < 0) = false := by simpa using d1
        go_wp2_with (go_at_call 17; refine HSM.out.mono ?_; rintro e w' ⟨rfl, rfl⟩)
        go_loopw [18, 19] (fun u i wr => u = .int .i64 0 ∧ i = .int .i64 0 ∧ wr = w3) (fun _ _ _ => 0)
        case atStart => exact ⟨rfl, rfl, rfl⟩
        case round =>
          obtain ⟨rfl, rfl, rfl⟩ := hrel
          go_wp2
          go_meet
          rfl
      · have d0 : decide (0 < av) = false := by simpa using hf
        go_wp2
        go_meet
        rfl
    case rest =>
      obtain rfl := hcut
      obtain ⟨w3, rfl⟩ : ∃ x : World, x = wc := ⟨_, rfl⟩
      go_wp2_with fail
      go_loopw [20, 21, 22] (fun s u i wr => s = .int .i64 av ∧ u = .slice none 0 0 ∧ i = .int .i64 0 ∧ wr = w3) (fun _ _ _ _ => 0)
      case atStart => exact ⟨rfl, rfl, rfl, rfl⟩
      case round =>
        obtain ⟨rfl, rfl, rfl, rfl⟩ := hrel
        obtain ⟨w3, rfl⟩ : ∃ x : World, x = wr := ⟨_, rfl⟩
        go_upto_region 34 with fail
        go_cut [] (fun wx => Below w3.heap.size w3 wx)
        case first =>
          by_cases d1 : 0 < av
          · go_wp2_with fail
            refine (rres_new _ _ _ [] _ (IsRecs.nil 5 _)).mono ?_
            rw [ResolvedN_eq HFE.out]
            rintro e w7 ⟨v7, rfl, hv7, hb7, hf7⟩
            go_wp2
            go_meet
            exact hb7
          · obtain rfl : av = 0 := by omega
            go_wp2_with fail
            refine (rres_new _ _ _ [] _ (IsRecs.nil 5 _)).mono ?_
            rw [ResolvedN_eq HFE.out]
            rintro e w7 ⟨v7, rfl, hv7, hb7, hf7⟩
            go_wp2
            go_meet
            exact hb7
        case rest =>
          obtain ⟨w7, rfl⟩ : ∃ x : World, x = wc := ⟨_, rfl⟩
          have hb7 := hcut
          have HB7 : Hid (Below w.heap.size w w7) := HB2.out.trans (hb7.mono HB2.out.size)
          clear hb7 hcut
          go_wp2_with fail
          go_loopw [25, 26] (fun u i wr => u = .int .i64 0 ∧ i = .int .i64 0 ∧ wr = w7) (fun _ _ _ => 0)
          case atStart => exact ⟨rfl, rfl, rfl⟩
          case round =>
            obtain ⟨rfl, rfl, rfl⟩ := hrel
            go_wp2
            go_ret2
            exact ⟨.slice none 0 0, by rw [HE.out]; rfl, by rw [HRES.out]; exact IsInts.nil _, HB7.out⟩
theorem rtracks_any (v vi : Value) (av gp : Int) (l it : List Rec) (w : World) (hv : IsRecs 2 w v l) (hi : InRecs 4 w vi it) : Calls Try.prog 20 #[.int .i64 av, .int .i64 gp, v, vi] w (Tracked av gp l it w) := by
  by_cases hE : gErr av gp l it = 0
  · have hv2 := hv
    have hi2 := hi
    obtain ⟨a, cap, rfl, h1, h2, h3⟩ := hv
    obtain ⟨⟨ia, icap, rfl, g1, g2, -⟩, -⟩ := hi
    by_cases hn : 0 < l.length
    · obtain ⟨b, off, rfl, -, -⟩ := h3 hn
      exact rtracks_ok b off ia cap _ icap _ av gp l it w hn (Lib.hid rfl) (Lib.hid rfl) hv2 hi2 hE
    · obtain rfl : l = [] := List.eq_nil_of_length_eq_zero (by omega)
      exact rtracks_zero a ia cap icap _ av gp it w (Lib.hid rfl) hv2 hi2 hE
  · exact rtracks_no v vi av gp l it w hv hi hE
end Go.Proofs.Ytadkkkdecejkeaa

