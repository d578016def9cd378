/- Tokens of a theme, and Lookup on both sides. -/
import Derived.Test.YtcjhefkipghloaaName
import Derived.Test.YtcjhefkipghloaaOpenRows
import Derived.ChangeSame
namespace Go.Proofs.Ytcjhefkipghloaa
open Go.RowKit Go.ChangeShapes Go.WideShapes Go.ChangeAt Go.Deep
set_option linter.unusedVariables false
set_option linter.unusedSimpArgs false

/-- A token: its name and its four values. -/
structure Tok where
  name : ByteArray
  light : Int
  dark : Int
  hlight : Int
  hdark : Int
def tok0 : Tok := ⟨ByteArray.empty, 0, 0, 0, 0⟩
def gt (l : List Tok) (i : Nat) : Tok := l.getD i tok0
def TokAt (w : World) (b o : Nat) (t : Tok) : Prop :=
  w.cell? ⟨b, o, none⟩ = some (.string t.name) ∧ w.cell? ⟨b, o + 1, none⟩ = some (.int .i64 t.light) ∧ w.cell? ⟨b, o + 2, none⟩ = some (.int .i64 t.dark) ∧ w.cell? ⟨b, o + 3, none⟩ = some (.int .i64 t.hlight) ∧ w.cell? ⟨b, o + 4, none⟩ = some (.int .i64 t.hdark)
theorem TokAt.kept {w w' : World} {b o B : Nat} {t : Tok} (h : TokAt w b o t) (hb : Below B w w') (hg : b < B) : TokAt w' b o t := by
  obtain ⟨c0, c1, c2, c3, c4⟩ := h
  have k : ∀ p, w'.cell? ⟨b, p, none⟩ = w.cell? ⟨b, p, none⟩ := fun p => hb.cell (p := ⟨b, p, none⟩) hg
  exact ⟨(k _).trans c0, (k _).trans c1, (k _).trans c2, (k _).trans c3, (k _).trans c4⟩
/-- The slice v reads as the list l of tokens. -/
def IsToks (w : World) (v : Value) (l : List Tok) : Prop :=
  ∃ a cap, v = .slice a l.length cap ∧ l.length ≤ cap ∧ cap ≤ maxLen ∧ (0 < l.length → ∃ b off, a = some ⟨b, off, none⟩ ∧ b < w.heap.size ∧ ∀ i, i < l.length → TokAt w b (off + i * 5) (gt l i))
theorem IsToks.of_below {w w' : World} {v : Value} {l : List Tok} (h : IsToks w v l) (hb : Below w.heap.size w w') : IsToks w' v l := by
  obtain ⟨a, cap, hv, h1, h2, h3⟩ := h
  refine ⟨a, cap, hv, h1, h2, fun hp => ?_⟩
  obtain ⟨b, off, ha, hlt, hc⟩ := h3 hp
  exact ⟨b, off, ha, Nat.lt_of_lt_of_le hlt hb.size, fun i hi => (hc i hi).kept hb hlt⟩
def namesOk (l : List Tok) : Prop := ∀ i, (gt l i).name.size ≤ maxLen

def Tok.pick (t : Tok) (dark high : Bool) : Int := if high && dark then t.hdark else if high then t.hlight else if dark then t.dark else t.light
def lookZ (l : List Tok) (dark high : Bool) (s : ByteArray) : Int × Bool :=
  match l.find? (fun t => decide (t.name = s)) with
  | none => (0, false)
  | some t => (t.pick dark high, true)
def noTok (l : List Tok) (s : ByteArray) (k : Nat) : Prop := ∀ i, i < k → (gt l i).name ≠ s
theorem look_hit {l : List Tok} {dark high : Bool} {s : ByteArray} : ∀ {k : Nat}, noTok l s k → k < l.length → (gt l k).name = s → lookZ l dark high s = ((gt l k).pick dark high, true) := by
  induction l with
  | nil => intro k _ h; simp at h
  | cons t l ih =>
    intro k hn hk he
    cases k with
    | zero =>
      have e : gt (t :: l) 0 = t := rfl
      rw [e] at he ⊢
      simp [lookZ, List.find?, he]
    | succ k =>
      have e : gt (t :: l) (k + 1) = gt l k := rfl
      have h0 : t.name ≠ s := hn 0 (by omega)
      rw [e] at he ⊢
      have := ih (k := k) (fun i hi => hn (i + 1) (by omega)) (by simpa using hk) he
      rw [← this]
      simp [lookZ, List.find?, h0]
theorem look_none {l : List Tok} {dark high : Bool} {s : ByteArray} (h : noTok l s l.length) : lookZ l dark high s = (0, false) := by
  induction l with
  | nil => rfl
  | cons t l ih =>
    have h0 : t.name ≠ s := h 0 (by simp)
    rw [← ih (fun i hi => h (i + 1) (by simpa using hi))]
    simp [lookZ, List.find?, h0]
theorem bytes_ne {x y : ByteArray} (h : x ≠ y) : (x.toList == y.toList) = false := by
  rw [beq_eq_false_iff_ne, Ne, ByteArray.toList_eq, ByteArray.toList_eq]
  exact fun e => h (ByteArray.ext (Array.toList_inj.mp e))

/-- The call returns the pair r; of what was there nothing has turned. -/
def Looks (r : Int × Bool) (w : World) (e : Ending) (w' : World) : Prop := e = .returned (.tuple #[.int .i64 r.1, .bool r.2]) ∧ Below w.heap.size w w'
theorem below_2 {w : World} (a b : Obj) : Below w.heap.size w ((w.alloc a).alloc b) := ((Below.refl _ _).alloc (Nat.le_refl _) _).alloc (by simp) _

set_option maxHeartbeats 2000000 in
set_option maxRecDepth 100000 in
theorem look_any (v : Value) (l : List Tok) (dk hi : Bool) (sc : Int) (s : ByteArray) (w : World) (hv : IsToks w v l) :
    Calls Try.prog 17 #[.agg #[v], .agg #[.bool dk, .bool hi, .int .i64 sc], .string s] w (Looks (lookZ l dk hi s) w) := by
  obtain ⟨a, cap, rfl, h1, h2, h3⟩ := hv
  obtain ⟨n, hn⟩ : ∃ n, l.length = n := ⟨_, rfl⟩
  rw [hn] at h1 h3 ⊢
  have H3 := Lib.hid h3
  have HN := Lib.hid hn
  clear h3 hn
  unfold maxLen at h2
  have hb0 : Below w.heap.size w ((w.alloc (.cells #[.slice a n cap] 32)).alloc (.cells #[.bool dk, .bool hi, .int .i64 sc] 23)) := below_2 _ _
  have m0 : ((w.alloc (.cells #[.slice a n cap] 32)).alloc (.cells #[.bool dk, .bool hi, .int .i64 sc] 23)).cell? ⟨w.heap.size, 0, none⟩ = some (.slice a n cap) := by go_simp
  have m1 : ((w.alloc (.cells #[.slice a n cap] 32)).alloc (.cells #[.bool dk, .bool hi, .int .i64 sc] 23)).cell? ⟨w.heap.size + 1, 0, none⟩ = some (.bool dk) := by go_simp
  have m2 : ((w.alloc (.cells #[.slice a n cap] 32)).alloc (.cells #[.bool dk, .bool hi, .int .i64 sc] 23)).cell? ⟨w.heap.size + 1, 1, none⟩ = some (.bool hi) := by go_simp
  have hsz : ((w.alloc (.cells #[.slice a n cap] 32)).alloc (.cells #[.bool dk, .bool hi, .int .i64 sc] 23)).heap.size = w.heap.size + 2 := by simp
  have HB0 := Lib.hid hb0
  have HM := Lib.hid (And.intro m0 (And.intro m1 (And.intro m2 hsz)))
  clear hb0 m0 m1 m2 hsz
  go_enter Try.func17, Try.ntmps17
  go_wp2_with fail
  obtain ⟨W, hW⟩ : ∃ W, ((w.alloc (.cells #[.slice a n cap] 32)).alloc (.cells #[.bool dk, .bool hi, .int .i64 sc] 23)) = W := ⟨_, rfl⟩
  rw [hW] at HB0 HM ⊢
  clear hW
  go_loopw [13] (fun i wr => ∃ k : Nat, k ≤ n ∧ i = .int .i64 k ∧ Hid (noTok l s k) ∧ Below W.heap.size W wr) (fun i _ => n - (intOf i).toNat)
  case atStart => exact ⟨0, Nat.zero_le _, rfl, fun i hi => absurd hi (Nat.not_lt_zero _), Below.refl _ _⟩
  case round =>
    obtain ⟨k, hk, rfl, HO, hbl⟩ := hrel
    have HB := Lib.hid hbl
    have hs1 : w.heap.size < W.heap.size := by have := HM.out.2.2.2; omega
    have hs2 : w.heap.size + 1 < W.heap.size := by have := HM.out.2.2.2; omega
    have m0 := (hbl.cell (p := ⟨w.heap.size, 0, none⟩) hs1).trans HM.out.1
    have m1 := (hbl.cell (p := ⟨w.heap.size + 1, 0, none⟩) hs2).trans HM.out.2.1
    have m2 := (hbl.cell (p := ⟨w.heap.size + 1, 1, none⟩) hs2).trans HM.out.2.2.1
    have m1a : ∀ o, (wr.alloc o).cell? ⟨w.heap.size + 1, 0, none⟩ = some (.bool dk) := fun o => (World.cell?_alloc_lt wr o ⟨w.heap.size + 1, 0, none⟩ (Nat.lt_of_lt_of_le hs2 hbl.size)).trans m1
    have m2a : ∀ o, (wr.alloc o).cell? ⟨w.heap.size + 1, 1, none⟩ = some (.bool hi) := fun o => (World.cell?_alloc_lt wr o ⟨w.heap.size + 1, 1, none⟩ (Nat.lt_of_lt_of_le hs2 hbl.size)).trans m2
    clear hs1 hs2
    by_cases hkn : k < n
    · obtain ⟨b, off, rfl, hlt, hcell⟩ := H3.out (by omega)
      have hoff := (((hcell k hkn).kept HB0.out hlt).kept hbl (Nat.lt_of_lt_of_le hlt HB0.out.size))
      obtain ⟨t, ht⟩ : ∃ t, gt l k = t := ⟨_, rfl⟩
      have HT := Lib.hid ht
      have hkn' : (k : Int) < (n : Int) := by omega
      rw [ht] at hoff
      obtain ⟨nm, t1, t2, t3, t4⟩ := t
      obtain ⟨c0, c1, c2, c3, c4⟩ := hoff
      simp only at c0 c1 c2 c3 c4
      clear hcell hbl ht
      by_cases he : nm = s
      · subst he
        have HR : Hid (lookZ l dk hi nm = ((⟨nm, t1, t2, t3, t4⟩ : Tok).pick dk hi, true)) := by
          show _ = _
          rw [look_hit HO.out (by rw [HN.out]; exact hkn) (by rw [HT.out]), HT.out]
        cases dk <;> cases hi
        all_goals
          go_wp2
          go_ret2
          exact ⟨by rw [HR.out]; rfl, HB0.out.trans ((HB.out.alloc HB.out.size _).mono HB0.out.size)⟩
      · have hne := bytes_ne he
        have HOn : Hid (noTok l s (k + 1)) := fun i hi => by
          by_cases ci : i = k
          · subst ci; rw [HT.out]; exact he
          · exact HO.out i (by omega)
        clear he
        go_wp2
        go_roundw
        case rel => exact ⟨k + 1, by omega, by go_num, HOn.out, HB.out.alloc HB.out.size _⟩
        case measure => simp [intOf]; omega
    · obtain rfl : k = n := by omega
      have HR := Lib.hid (look_none (dark := dk) (high := hi) (show noTok l s l.length by rw [HN.out]; exact HO.out))
      clear hbl
      go_wp2
      go_ret2
      exact ⟨by rw [HR.out]; rfl, HB0.out.trans (HB.out.mono HB0.out.size)⟩

set_option maxHeartbeats 2000000 in
set_option maxRecDepth 100000 in
theorem rlook_any (v : Value) (l : List Tok) (dk hi : Bool) (sc : Int) (s : ByteArray) (w : World) (hv : IsToks w v l) :
    Calls Try.prog 18 #[.agg #[v], .agg #[.bool dk, .bool hi, .int .i64 sc], .string s] w (Looks (lookZ l dk hi s) w) := by
  obtain ⟨a, cap, rfl, h1, h2, h3⟩ := hv
  obtain ⟨n, hn⟩ : ∃ n, l.length = n := ⟨_, rfl⟩
  rw [hn] at h1 h3 ⊢
  have H3 := Lib.hid h3
  have HN := Lib.hid hn
  clear h3 hn
  unfold maxLen at h2
  have hb0 : Below w.heap.size w ((w.alloc (.cells #[.slice a n cap] 32)).alloc (.cells #[.bool dk, .bool hi, .int .i64 sc] 23)) := below_2 _ _
  have m0 : ((w.alloc (.cells #[.slice a n cap] 32)).alloc (.cells #[.bool dk, .bool hi, .int .i64 sc] 23)).cell? ⟨w.heap.size, 0, none⟩ = some (.slice a n cap) := by go_simp
  have m1 : ((w.alloc (.cells #[.slice a n cap] 32)).alloc (.cells #[.bool dk, .bool hi, .int .i64 sc] 23)).cell? ⟨w.heap.size + 1, 0, none⟩ = some (.bool dk) := by go_simp
  have m2 : ((w.alloc (.cells #[.slice a n cap] 32)).alloc (.cells #[.bool dk, .bool hi, .int .i64 sc] 23)).cell? ⟨w.heap.size + 1, 1, none⟩ = some (.bool hi) := by go_simp
  have hsz : ((w.alloc (.cells #[.slice a n cap] 32)).alloc (.cells #[.bool dk, .bool hi, .int .i64 sc] 23)).heap.size = w.heap.size + 2 := by simp
  have HB0 := Lib.hid hb0
  have HM := Lib.hid (And.intro m0 (And.intro m1 (And.intro m2 hsz)))
  clear hb0 m0 m1 m2 hsz
  go_enter Try.func18, Try.ntmps18
  go_wp2_with fail
  obtain ⟨W, hW⟩ : ∃ W, ((w.alloc (.cells #[.slice a n cap] 32)).alloc (.cells #[.bool dk, .bool hi, .int .i64 sc] 23)) = W := ⟨_, rfl⟩
  rw [hW] at HB0 HM ⊢
  clear hW
  go_loopw [8] (fun i wr => ∃ k : Nat, k ≤ n ∧ i = .int .i64 k ∧ Hid (noTok l s k) ∧ Below W.heap.size W wr) (fun i _ => n - (intOf i).toNat)
  case atStart => exact ⟨0, Nat.zero_le _, rfl, fun i hi => absurd hi (Nat.not_lt_zero _), Below.refl _ _⟩
  case round =>
    obtain ⟨k, hk, rfl, HO, hbl⟩ := hrel
    have HB := Lib.hid hbl
    have hs1 : w.heap.size < W.heap.size := by have := HM.out.2.2.2; omega
    have hs2 : w.heap.size + 1 < W.heap.size := by have := HM.out.2.2.2; omega
    have m0 := (hbl.cell (p := ⟨w.heap.size, 0, none⟩) hs1).trans HM.out.1
    have m1 := (hbl.cell (p := ⟨w.heap.size + 1, 0, none⟩) hs2).trans HM.out.2.1
    have m2 := (hbl.cell (p := ⟨w.heap.size + 1, 1, none⟩) hs2).trans HM.out.2.2.1
    have m1a : ∀ o, (wr.alloc o).cell? ⟨w.heap.size + 1, 0, none⟩ = some (.bool dk) := fun o => (World.cell?_alloc_lt wr o ⟨w.heap.size + 1, 0, none⟩ (Nat.lt_of_lt_of_le hs2 hbl.size)).trans m1
    have m2a : ∀ o, (wr.alloc o).cell? ⟨w.heap.size + 1, 1, none⟩ = some (.bool hi) := fun o => (World.cell?_alloc_lt wr o ⟨w.heap.size + 1, 1, none⟩ (Nat.lt_of_lt_of_le hs2 hbl.size)).trans m2
    clear hs1 hs2
    by_cases hkn : k < n
    · obtain ⟨b, off, rfl, hlt, hcell⟩ := H3.out (by omega)
      have hoff := (((hcell k hkn).kept HB0.out hlt).kept hbl (Nat.lt_of_lt_of_le hlt HB0.out.size))
      obtain ⟨t, ht⟩ : ∃ t, gt l k = t := ⟨_, rfl⟩
      have HT := Lib.hid ht
      have hkn' : (k : Int) < (n : Int) := by omega
      rw [ht] at hoff
      obtain ⟨nm, t1, t2, t3, t4⟩ := t
      obtain ⟨c0, c1, c2, c3, c4⟩ := hoff
      simp only at c0 c1 c2 c3 c4
      clear hcell hbl ht
      by_cases he : nm = s
      · subst he
        have HR : Hid (lookZ l dk hi nm = ((⟨nm, t1, t2, t3, t4⟩ : Tok).pick dk hi, true)) := by
          show _ = _
          rw [look_hit HO.out (by rw [HN.out]; exact hkn) (by rw [HT.out]), HT.out]
        cases dk <;> cases hi
        all_goals
          go_wp2
          go_ret2
          exact ⟨by rw [HR.out]; rfl, HB0.out.trans ((HB.out.alloc HB.out.size _).mono HB0.out.size)⟩
      · have hne := bytes_ne he
        have HOn : Hid (noTok l s (k + 1)) := fun i hi => by
          by_cases ci : i = k
          · subst ci; rw [HT.out]; exact he
          · exact HO.out i (by omega)
        clear he
        go_wp2
        go_roundw
        case rel => exact ⟨k + 1, by omega, by go_num, HOn.out, HB.out.alloc HB.out.size _⟩
        case measure => simp [intOf]; omega
    · obtain rfl : k = n := by omega
      have HR := Lib.hid (look_none (dark := dk) (high := hi) (show noTok l s l.length by rw [HN.out]; exact HO.out))
      clear hbl
      go_wp2
      go_ret2
      exact ⟨by rw [HR.out]; rfl, HB0.out.trans (HB.out.mono HB0.out.size)⟩
end Go.Proofs.Ytcjhefkipghloaa
