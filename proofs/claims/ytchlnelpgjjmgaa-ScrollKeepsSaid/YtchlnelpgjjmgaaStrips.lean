/- Rows (api.Strip): what it means that a slice of them reads as a list; the predicate of strips. -/
import Derived.Test.YtchlnelpgjjmgaaScrollC
namespace Go.Proofs.Ytchlnelpgjjmgaa
open Go.RowKit

/-- A row: its key and its height. -/
abbrev Strip := ByteArray × Int
def gk (l : List Strip) (i : Nat) : ByteArray := (l.getD i (ByteArray.empty, 0)).1
def gh (l : List Strip) (i : Nat) : Int := (l.getD i (ByteArray.empty, 0)).2

/-- The slice v reads as the list l of rows. -/
def IsStrips (w : World) (v : Value) (l : List Strip) : Prop :=
  ∃ a cap, v = .slice a l.length cap ∧ l.length ≤ cap ∧ cap ≤ maxLen ∧
    (0 < l.length → ∃ b off, a = some ⟨b, off, none⟩ ∧ b < w.heap.size ∧ ∀ i, i < l.length →
      w.cell? ⟨b, off + i * 2, none⟩ = some (.string (gk l i)) ∧ w.cell? ⟨b, off + i * 2 + 1, none⟩ = some (.int .i64 (gh l i)))

theorem IsStrips.of_below {w w' : World} {v : Value} {l : List Strip} (h : IsStrips w v l) (hb : Below w.heap.size w w') : IsStrips w' v l := by
  obtain ⟨a, cap, hv, h1, h2, h3⟩ := h
  refine ⟨a, cap, hv, h1, h2, fun hp => ?_⟩
  obtain ⟨b, off, ha, hlt, hc⟩ := h3 hp
  exact ⟨b, off, ha, Nat.lt_of_lt_of_le hlt hb.size, fun i hi => ⟨(hb.cell (p := ⟨b, off + i * 2, none⟩) hlt).trans (hc i hi).1, (hb.cell (p := ⟨b, off + i * 2 + 1, none⟩) hlt).trans (hc i hi).2⟩⟩

set_option maxHeartbeats 400000 in
theorem strips1_any (k : ByteArray) (x : Int) (w : World) :
    Calls Try.prog 36 #[.agg #[.string k, .int .i64 x]] w fun e w' => e = .returned (.bool (noHeight x)) ∧ Below w.heap.size w w' := by
  go_enter Try.func36, Try.ntmps36
  go_wp2_with fail
  refine (heights_lit [x] (!noHeight x) (by simp) _ rfl (one_len _) _ rfl _ (by simp)).mono ?_
  rintro e w' ⟨rfl, rfl⟩
  go_wp2
  go_ret
  exact ⟨ret_bool (by simp), below_two _ _ _⟩

/-- Where no row up to k has a bad height. -/
def goodRows (l : List Strip) (k : Nat) : Prop := ∀ j, j < k → heightZ (gh l j)
def rowsOk (l : List Strip) : Bool := l.all fun s => decide (heightZ s.2)
theorem rowsOk_iff (l : List Strip) : rowsOk l = true ↔ goodRows l l.length := by
  simp only [rowsOk, List.all_eq_true, decide_eq_true_eq]
  constructor
  · intro h j hj
    have := h l[j] (List.getElem_mem hj)
    simpa [gh, hj] using this
  · intro h x hx
    obtain ⟨j, hj, rfl⟩ := List.mem_iff_getElem.1 hx
    have := h j hj
    simpa [gh, hj] using this
def FoundS (l : List Strip) (w : World) (e : Ending) (w' : World) : Prop :=
  ∃ n : Int, e = .returned (.int .i64 n) ∧ (goodRows l l.length ↔ n < 0) ∧ Below w.heap.size w w'

set_option maxHeartbeats 400000 in
theorem strips_index (v : Value) (l : List Strip) (w : World) (hv : IsStrips w v l) :
    Calls Try.prog 38 #[v, .func (.func 36) #[] #[]] w (FoundS l w) := by
  obtain ⟨a, cap, rfl, h1, h2, h3⟩ := hv
  obtain ⟨n, hn⟩ : ∃ n, l.length = n := ⟨_, rfl⟩
  rw [hn] at h1 h3 ⊢
  have H3 := Lib.hid h3
  have HN := Lib.hid hn
  clear h3 hn
  unfold maxLen at h2
  go_enter Try.func38, Try.ntmps38
  go_wp2
  go_loopw [8] (fun i wr => ∃ k : Nat, k ≤ n ∧ i = .int .i64 k ∧ goodRows l k ∧ Below w.heap.size w wr) (fun i _ => n - (intOf i).toNat)
  case atStart => exact ⟨0, Nat.zero_le _, rfl, fun _ h => absurd h (Nat.not_lt_zero _), Below.refl _ _⟩
  case round =>
    obtain ⟨k, hk, rfl, hno, hbl⟩ := hrel
    by_cases hkn : k < n
    · obtain ⟨b, off, rfl, hlt, hcell⟩ := H3.out (by omega)
      have hck1 := (hbl.cell (p := ⟨b, off + k * 2, none⟩) hlt).trans (hcell k hkn).1
      have hck2 := (hbl.cell (p := ⟨b, off + k * 2 + 1, none⟩) hlt).trans (hcell k hkn).2
      clear hcell
      by_cases hp : heightZ (gh l k)
      · have HP : Hid (noHeight (gh l k) = false) := (noHeight_iff _).2 hp
        have HQ := Lib.hid hp
        clear hp
        go_wp2_with fail
        refine (strips1_any _ _ _).mono ?_
        rw [HP.out]
        rintro e w' ⟨rfl, hb'⟩
        go_wp2
        go_roundw
        case rel => exact ⟨k + 1, by omega, by go_num, fun j hj => by
          by_cases c : j = k
          · subst c; exact HQ.out
          · exact hno j (by omega), hbl.trans (hb'.mono hbl.size)⟩
        case measure => simp [intOf]; omega
      · have HP : Hid (noHeight (gh l k) = true) := noHeight_true hp
        have HQ := Lib.hid hp
        clear hp
        go_wp2_with fail
        refine (strips1_any _ _ _).mono ?_
        rw [HP.out]
        rintro e w' ⟨rfl, hb'⟩
        go_wp2
        go_ret
        exact ⟨k, rfl, ⟨fun h => absurd (h k (by rw [HN.out]; exact hkn)) HQ.out, fun h => by omega⟩, hbl.trans (hb'.mono hbl.size)⟩
    · obtain rfl : k = n := by omega
      go_wp2
      go_ret
      exact ⟨-1, rfl, ⟨fun _ => by omega, fun _ => by rw [HN.out]; exact hno⟩, hbl⟩

set_option maxHeartbeats 400000 in
theorem strips_contains (v : Value) (l : List Strip) (w : World) (hv : IsStrips w v l) :
    Calls Try.prog 35 #[v, .func (.func 36) #[] #[]] w fun e w' => e = .returned (.bool (!rowsOk l)) ∧ Below w.heap.size w w' := by
  go_enter Try.func35, Try.ntmps35
  go_wp2_with fail
  refine (strips_index _ l _ hv).mono ?_
  rintro e w' ⟨n, rfl, hn, hb⟩
  rw [← rowsOk_iff] at hn
  have H := Lib.hid hn
  clear hn
  go_wp2
  go_ret
  refine ⟨ret_bool ?_, hb⟩
  have := H.out
  cases hr : rowsOk l with
  | true => rw [hr] at this; simp at this; simp; exact this
  | false => rw [hr] at this; simp at this; simp; exact this

set_option maxHeartbeats 400000 in
theorem strips_any (v : Value) (l : List Strip) (w : World) (hv : IsStrips w v l) :
    Calls Try.prog 25 #[v] w fun e w' => e = .returned (.bool (decide (l.length ≤ 10000) && rowsOk l)) ∧ Below w.heap.size w w' := by
  have HV := Lib.hid hv
  obtain ⟨a, cap, rfl, h1, h2, h3⟩ := hv
  clear h3
  unfold maxLen at h2
  by_cases hl : l.length ≤ 10000
  · have hl' : (l.length : Int) ≤ 10000 := by omega
    have hd : decide (l.length ≤ 10000) = true := by simpa using hl
    rw [hd]
    clear hd
    go_enter Try.func25, Try.ntmps25
    go_wp2_with fail
    refine (strips_contains _ l _ HV.out).mono ?_
    rintro e w' ⟨rfl, hb⟩
    go_wp2
    go_ret
    exact ⟨ret_bool (by simp), hb⟩
  · have hl' : (10000 : Int) < (l.length : Int) := by omega
    have hd : decide (l.length ≤ 10000) = false := by simpa using hl
    rw [hd]
    clear hd
    go_enter Try.func25, Try.ntmps25
    go_wp2_with fail
    go_ret
    exact ⟨ret_bool (by simp), Below.refl _ _⟩
end Go.Proofs.Ytchlnelpgjjmgaa
