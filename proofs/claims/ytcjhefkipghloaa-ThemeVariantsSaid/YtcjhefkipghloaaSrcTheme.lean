/- The reader's Theme: a theme of at most three tokens with their own names (printed by wip/tgen.py). -/
import Derived.Test.YtcjhefkipghloaaValT
import Derived.Test.YtcjhefkipghloaaTail
import Derived.Deep.AppendLies
namespace Go.Proofs.Ytcjhefkipghloaa
open Go.RowKit
set_option linter.unusedVariables false
set_option linter.unusedSimpArgs false

def nm3 : Nat → ByteArray
  | 0 => ⟨#[105, 110, 107]⟩
  | 1 => ⟨#[112, 97, 112, 101, 114]⟩
  | _ => ⟨#[115, 112, 97, 99, 101]⟩
/-- The tokens that the reader makes. -/
def toksOk (l : List Tok) : Prop := l.length ≤ 3 ∧ ∀ i, i < l.length → (gt l i).name = nm3 i ∧ (gt l i).vals = true
def tokCells (l : List Tok) : List Value := l.flatMap fun t => [.string t.name, .int .i64 t.light, .int .i64 t.dark, .int .i64 t.hlight, .int .i64 t.hdark]
theorem tokCells_append (a b : List Tok) : tokCells (a ++ b) = tokCells a ++ tokCells b := by simp [tokCells]
theorem tokCells_len (l : List Tok) : (tokCells l).length = l.length * 5 := by
  induction l with
  | nil => rfl
  | cons t l ih => simp [tokCells] at ih ⊢; omega
theorem tokCells_at (l : List Tok) : ∀ i, i < l.length → ∀ j, j < 5 → (tokCells l)[i * 5 + j]? = ([.string (gt l i).name, .int .i64 (gt l i).light, .int .i64 (gt l i).dark, .int .i64 (gt l i).hlight, .int .i64 (gt l i).hdark] : List Value)[j]? := by
  induction l with
  | nil => intro i h; simp at h
  | cons s t ih =>
    intro i hi j hj
    have e : tokCells (s :: t) = [.string s.name, .int .i64 s.light, .int .i64 s.dark, .int .i64 s.hlight, .int .i64 s.hdark] ++ tokCells t := rfl
    rw [e]
    cases i with
    | zero =>
      rw [List.getElem?_append_left (by simp; omega)]
      simp [gt]
    | succ i =>
      have e1 : (i + 1) * 5 + j = 5 + (i * 5 + j) := by omega
      rw [e1, List.getElem?_append_right (by simp)]
      have e2 : 5 + (i * 5 + j) - ([Value.string s.name, .int .i64 s.light, .int .i64 s.dark, .int .i64 s.hlight, .int .i64 s.hdark] : List Value).length = i * 5 + j := by simp
      rw [e2, ih i (by simpa using hi) j hj]
      rfl
theorem ownsRow_isToks {w : World} {base : Nat} {v : Value} {n : Nat} {l : List Tok} (h : w.ownsRow base 35 5 v n (tokCells l)) (hn : n = l.length) : IsToks w v l := by
  subst hn
  obtain ⟨h1, h2⟩ := h
  rcases h2 with ⟨rfl, h0⟩ | ⟨g, cap, cur, rfl, _, hg, hcp, hm, hsz, htake⟩
  · exact ⟨none, 0, by rw [h0], by omega, by unfold maxLen; simp, fun hp => by omega⟩
  · refine ⟨_, cap, rfl, hcp, hm, fun _ => ⟨g, 0, rfl, lt_of_block hg, fun i hi => ?_⟩⟩
    have key : ∀ j, j < 5 → w.cell? ⟨g, 0 + i * 5 + j, none⟩ = ([.string (gt l i).name, .int .i64 (gt l i).light, .int .i64 (gt l i).dark, .int .i64 (gt l i).hlight, .int .i64 (gt l i).hdark] : List Value)[j]? := fun j hj => by
      have := tokCells_at l i hi j hj
      rw [← htake, List.getElem?_take, if_pos (by omega)] at this
      simp only [Array.getElem?_toList] at this
      rw [cell_of_row w g _ cur 35 (0, 0) hg]
      simpa using this
    exact ⟨key 0 (by omega), key 1 (by omega), key 2 (by omega), key 3 (by omega), key 4 (by omega)⟩
theorem info_tok : (Try.prog.info? 35).map (fun i => (i.zero, i.size, i.bytes)) = some (some (.agg #[.string ⟨#[]⟩, .int .i64 0, .int .i64 0, .int .i64 0, .int .i64 0]), 5, 48) := by kernel_rfl
theorem toksOk_snoc {l : List Tok} {t : Tok} (h : toksOk l) (hl : l.length < 3) (hn : t.name = nm3 l.length) (hv : t.vals = true) : toksOk (l ++ [t]) := by
  refine ⟨by simp; omega, fun i hi => ?_⟩
  by_cases c : i < l.length
  · have e : gt (l ++ [t]) i = gt l i := by simp [gt, List.getElem?_append, c]
    rw [e]; exact h.2 i c
  · have : i = l.length := by simp at hi; omega
    subst this
    have e : gt (l ++ [t]) l.length = t := by simp [gt]
    rw [e]; exact ⟨hn, hv⟩

/-- The reader of block g has given a theme. -/
def SrcToks (g : Nat) (w : World) (e : Ending) (w' : World) : Prop := ∃ u l, e = .returned (.agg #[u]) ∧ IsToks w' u l ∧ toksOk l ∧ SrcOk w' g ∧ w.grownBy w' (some g)


/-- What holds of the world while the reader makes a theme; B: the first block of the call. -/
def ThB (g B : Nat) (w : World) (v : Value) (w' : World) : Prop :=
  SrcOk w' g ∧ w.grownBy w' (some g) ∧ w'.heap[B]? = some (.cells #[.slice none 0 0] 32 (0, 0)) ∧ w'.heap[B + 1]? = some (.cells #[v] 32 (0, 0)) ∧
    w'.heap[B + 2]? = some (.cells #[.string (nm3 0), .string (nm3 1), .string (nm3 2)] 9 (0, 0)) ∧ B + 3 ≤ w'.heap.size ∧ w.heap.size = B
theorem ThB.turn {g B : Nat} {w w1 w2 : World} {v : Value} (h : ThB g B w v w1) (hg : w1.grownBy w2 (some g)) (hs : SrcOk w2 g) (hB : g < B) : ThB g B w v w2 := by
  obtain ⟨h1, h2, h3, h4, h5, h6, h7⟩ := h
  have := hg.size
  exact ⟨hs, grownBy_trans h2 hg, (hg.block _ (lt_of_block h3) (fun e => by have := Option.some.inj e; omega)).trans h3, (hg.block _ (lt_of_block h4) (fun e => by have := Option.some.inj e; omega)).trans h4, (hg.block _ (lt_of_block h5) (fun e => by have := Option.some.inj e; omega)).trans h5, by omega, h7⟩
theorem ThB.alloc {g B : Nat} {w w1 : World} {v : Value} (h : ThB g B w v w1) (o : Obj) : ThB g B w v (w1.alloc o) := by
  obtain ⟨h1, h2, h3, h4, h5, h6, h7⟩ := h
  have hb : Below w1.heap.size w1 (w1.alloc o) := (Below.refl _ _).alloc (Nat.le_refl _) _
  have hl := h1.lt
  exact ⟨h1.kept (hb.mono (by omega)), grownBy_trans h2 (grownBy_of_below hb (Nat.le_refl _) _), (hb.block _ (lt_of_block h3)).trans h3, (hb.block _ (lt_of_block h4)).trans h4, (hb.block _ (lt_of_block h5)).trans h5, by simp; omega, h7⟩
theorem ThB.app {g B : Nat} {w w1 w2 : World} {v : Value} {row : Option Nat} (h : ThB g B w v w1) (hg : w1.grownBy w2 row) (hr : ∀ q, row = some q → B + 3 ≤ q) (hB : g < B) : ThB g B w v w2 := by
  obtain ⟨h1, h2, h3, h4, h5, h6, h7⟩ := h
  have := hg.size
  have hb : Below (g + 1) w1 w2 := ⟨hg.os, hg.tape, hg.output, hg.size, fun k hk => hg.block k (by omega) (fun e => by have := hr k e.symm; omega)⟩
  have hl := h1.lt
  refine ⟨h1.kept hb, ⟨hg.os.trans h2.os, hg.tape.trans h2.tape, hg.output.trans h2.output, Nat.le_trans h2.size hg.size, fun j hj hn => ?_⟩, (hg.block _ (lt_of_block h3) (fun e => by have := hr _ e.symm; omega)).trans h3, (hg.block _ (lt_of_block h4) (fun e => by have := hr _ e.symm; omega)).trans h4, (hg.block _ (lt_of_block h5) (fun e => by have := hr _ e.symm; omega)).trans h5, by omega, h7⟩
  exact (hg.block j (Nat.lt_of_lt_of_le hj h2.size) (fun e => by have := hr _ e.symm; omega)).trans (h2.block j hj hn)
theorem ThB.drew {g B : Nat} {w w1 : World} {v : Value} (h : ThB g B w v w1) : ThB g B w v w1.drew := ⟨h.1, grownBy_drewN h.2.1 1, h.2.2⟩
theorem ThB.cell1 {g B : Nat} {w w1 : World} {v : Value} (h : ThB g B w v w1) : w1.cell? ⟨B + 1, 0, none⟩ = some v := by
  rw [cell_of_row w1 _ 0 _ _ (0, 0) h.2.2.2.1]; rfl
theorem ThB.cell2 {g B : Nat} {w w1 : World} {v : Value} (h : ThB g B w v w1) {k : Nat} (hk : k < 3) : w1.cell? ⟨B + 2, k, none⟩ = some (.string (nm3 k)) := by
  rw [cell_of_row w1 _ k _ _ (0, 0) h.2.2.2.2.1]
  match k, hk with
  | 0, _ => rfl
  | 1, _ => rfl
  | 2, _ => rfl
theorem ThB.store {g B : Nat} {w w1 : World} {v : Value} (h : ThB g B w v w1) (u : Value) (hB : g < B) : ThB g B w u (w1.setCell ⟨B + 1, 0, none⟩ u) := by
  obtain ⟨h1, h2, h3, h4, h5, h6, h7⟩ := h
  have hb : Below (B + 1) w1 (w1.setCell ⟨B + 1, 0, none⟩ u) := (Below.refl (B + 1) w1).setCell (p := ⟨B + 1, 0, none⟩) (Nat.le_refl _) u
  refine ⟨h1.kept (hb.mono (by omega)), ⟨hb.os.trans h2.os, hb.tape.trans h2.tape, hb.output.trans h2.output, Nat.le_trans h2.size hb.size, fun k hk hn => (hb.block k (by omega)).trans (h2.block k hk hn)⟩, (hb.block _ (by omega)).trans h3, ?_, ?_, ?_, h7⟩
  · simp [World.setCell, h4, Array.getElem?_modify]
  · rw [Below.heap_setCell _ _ _ _ (by simp)]; exact h5
  · have := hb.size; omega
theorem ThB.fin {g B : Nat} {w w1 : World} {v : Value} (h : ThB g B w v w1) (u : Value) (hB : g < B) : SrcOk (w1.setCell ⟨B, 0, none⟩ u) g ∧ w.grownBy (w1.setCell ⟨B, 0, none⟩ u) (some g) := by
  obtain ⟨h1, h2, h3, h4, h5, h6, h7⟩ := h
  have hb : Below B w1 (w1.setCell ⟨B, 0, none⟩ u) := (Below.refl B w1).setCell (p := ⟨B, 0, none⟩) (Nat.le_refl _) u
  exact ⟨h1.kept (hb.mono (by omega)), hb.os.trans h2.os, hb.tape.trans h2.tape, hb.output.trans h2.output, Nat.le_trans h2.size hb.size, fun k hk hn => (hb.block k (by omega)).trans (h2.block k hk hn)⟩
theorem ThB.fr0 {g B : Nat} {w w1 : World} {v : Value} (h : ThB g B w v w1) : w1.frozen? ⟨B, 0, none⟩ = false ∧ w1.cell? ⟨B, 0, none⟩ = some (.slice none 0 0) ∧ w1.frozen? ⟨B + 1, 0, none⟩ = false :=
  ⟨by simp [World.frozen?, h.2.2.1], by rw [cell_of_row w1 _ 0 _ _ (0, 0) h.2.2.1]; rfl, by simp [World.frozen?, h.2.2.2.1]⟩
theorem own_turn {B g k : Nat} {v : Value} {xs : List Value} {w1 w2 : World} (h : w1.ownsRow (B + 3) 35 5 v k xs) (hg : w1.grownBy w2 (some g)) (hB : g < B) : w2.ownsRow (B + 3) 35 5 v k xs :=
  h.kept hg (.inr fun e => by have := (h.lt g e).1; omega)

theorem own_form {w : World} {base e sz k : Nat} {v : Value} {xs : List Value} (h : w.ownsRow base e sz v k xs) : ∃ a c, v = .slice a k c := by
  rcases h.2 with ⟨rfl, rfl⟩ | ⟨g, cap, cur, rfl, _⟩
  · exact ⟨_, _, rfl⟩
  · exact ⟨_, _, rfl⟩

set_option maxHeartbeats 8000000 in
set_option maxRecDepth 100000 in
theorem srcTheme_any (g : Nat) (w : World) (hs : SrcOk w g) : Calls Try.prog 22 #[.pointer (some ⟨g, 0, none⟩)] w (SrcToks g w) := by
  obtain ⟨i0, hi0, hz0, hz1, hz2⟩ := info_parts info_tok
  have hgl := hs.lt
  have HGL := Lib.hid hgl
  have HS := Lib.hid hs
  clear hs hgl
  go_enter Try.func22, Try.ntmps22
  go_wp2_with fail
  obtain ⟨W, hW⟩ : ∃ W, (((w.alloc (.cells #[.slice none 0 0] 32)).alloc (.cells #[.slice none 0 0] 32)).alloc (.cells #[.string ⟨#[105, 110, 107]⟩, .string ⟨#[112, 97, 112, 101, 114]⟩, .string ⟨#[115, 112, 97, 99, 101]⟩] 9)) = W := ⟨_, rfl⟩
  have hT : ThB g w.heap.size w (.slice none 0 0) W := by
    have hb : Below w.heap.size w W := by rw [← hW]; exact (((Below.refl _ _).alloc (Nat.le_refl _) _).alloc (by simp) _).alloc (by simp; omega) _
    refine ⟨HS.out.kept (hb.mono (by have := HGL.out; omega)), grownBy_of_below hb (Nat.le_refl _) _, ?_, ?_, ?_, ?_, rfl⟩
    all_goals rw [← hW]
    · rw [Below.heap_alloc _ _ _ (by simp; omega), Below.heap_alloc _ _ _ (by simp)]; exact heap_alloc_new w _
    · rw [Below.heap_alloc _ _ _ (by simp)]
      have := heap_alloc_new (w.alloc (.cells #[.slice none 0 0] 32)) (.cells #[.slice none 0 0] 32)
      rwa [World.size_alloc] at this
    · have := heap_alloc_new ((w.alloc (.cells #[.slice none 0 0] 32)).alloc (.cells #[.slice none 0 0] 32)) (.cells #[.string ⟨#[105, 110, 107]⟩, .string ⟨#[112, 97, 112, 101, 114]⟩, .string ⟨#[115, 112, 97, 99, 101]⟩] 9)
      rwa [World.size_alloc, World.size_alloc] at this
    · simp
  rw [hW]
  have HT := Lib.hid hT
  clear hT hW
  go_loopw [5] (fun i wr => ∃ (k : Nat) (l : List Tok) (v : Value), k ≤ 3 ∧ i = .int .i64 k ∧ Hid (l.length = k) ∧ toksOk l ∧ ThB g w.heap.size w v wr ∧ wr.ownsRow (w.heap.size + 3) 35 5 v k (tokCells l)) (fun i _ => 3 - (intOf i).toNat)
  case atStart => exact ⟨0, [], _, Nat.zero_le _, rfl, by show _ = _; rfl, ⟨Nat.zero_le _, fun i hi => absurd hi (Nat.not_lt_zero _)⟩, HT.out, World.ownsRow_nil _ _ _ _⟩
  case round =>
    obtain ⟨k, l, v, hk, rfl, HK, HL, hT, hO⟩ := hrel
    obtain ⟨va, vc, rfl⟩ := own_form hO
    have HT1 := Lib.hid hT
    have HO1 := Lib.hid hO
    have HLL : Hid (toksOk l) := HL
    clear hT hO HL
    have HTT : Hid (∀ w2 : World, wr.grownBy w2 (some g) → SrcOk w2 g → ThB g w.heap.size w (.slice va k vc) w2) := fun w2 hg hs => HT1.out.turn hg hs HGL.out
    go_wp2_with (go_at_call 34; refine (srcN_any g _ _ HT1.out.1 (by omega) (by omega)).mono ?_; rintro e w2 ⟨z, z0, z1, rfl, hs2, hg2⟩; have HT2 := Lib.hid (HTT.out w2 hg2 hs2); have HO2 := Lib.hid (own_turn (by exact HO1.out) hg2 HGL.out); have c1 := HT2.out.cell1; have f0 := HT2.out.fr0.1; have c0 := HT2.out.fr0.2.1; clear hs2 hg2)
    · have hlt : (k : Int) < z := by assumption
      have hk3 : k < 3 := by omega
      have hk3' : (k : Int) < 3 := by omega
      have hk0 : (0 : Int) ≤ (k : Int) := by omega
      clear c1 f0 c0
      refine wp_region_T (S := (fun w' => w'.cell? ⟨w.heap.size + 1, 0, none⟩ = some (.slice va k vc) ∧ w'.cell? ⟨w.heap.size + 2, k, none⟩ = some (.string (nm3 k)) ∧ ThB g w.heap.size w (.slice va k vc) w')) 19 (by kernel_rfl) (⟨HT2.out.cell1, HT2.out.cell2 hk3, HT2.out.drew⟩) (fun hHeld => ?_)
      refine wpAnyT_take (i := 0) (v := ?_) rfl (by decide +kernel) (by decide +kernel) (by decide +kernel) (by decide +kernel) (by decide +kernel) (fun _ _ _ h => h) (Or.inl ⟨by rfl, ?_⟩) (by assumption) ?_
      rotate_left
      · intro w hSw; (try dsimp only at hSw); first | (go_simp; done) | (go_simp; with_reducible rfl)
      try simp only [Act.put, List.setIfInBounds_toArray, List.set_cons_zero, List.set_cons_succ]
      refine wpAnyT_take (i := 1) (v := ?_) rfl (by decide +kernel) (by decide +kernel) (by decide +kernel) (by decide +kernel) (by decide +kernel) (fun _ _ _ h => h) (Or.inl ⟨by rfl, ?_⟩) (by assumption) ?_
      rotate_left
      · intro w hSw; (try dsimp only at hSw); first | (go_simp; done) | (go_simp; with_reducible rfl)
      try simp only [Act.put, List.setIfInBounds_toArray, List.set_cons_zero, List.set_cons_succ]
      refine wpAnyT_take (i := 2) (v := ?_) rfl (by decide +kernel) (by decide +kernel) (by decide +kernel) (by decide +kernel) (by decide +kernel) (fun _ _ _ h => h) (Or.inl ⟨by rfl, ?_⟩) (by assumption) ?_
      rotate_left
      · intro w hSw; (try dsimp only at hSw); first | (go_simp; done) | (go_simp; with_reducible rfl)
      try simp only [Act.put, List.setIfInBounds_toArray, List.set_cons_zero, List.set_cons_succ]
      refine wpAnyT_take (i := 3) (v := ?_) rfl (by decide +kernel) (by decide +kernel) (by decide +kernel) (by decide +kernel) (by decide +kernel) (fun _ _ _ h => h) (Or.inl ⟨by rfl, ?_⟩) (by assumption) ?_
      rotate_left
      · intro w hSw; (try dsimp only at hSw); first | (go_simp; done) | (go_simp; with_reducible rfl)
      try simp only [Act.put, List.setIfInBounds_toArray, List.set_cons_zero, List.set_cons_succ]
      refine wpAnyT_take (i := 4) (v := ?_) rfl (by decide +kernel) (by decide +kernel) (by decide +kernel) (by decide +kernel) (by decide +kernel) (fun _ _ _ h => h) (Or.inl ⟨by rfl, ?_⟩) (by assumption) ?_
      rotate_left
      · intro w hSw; (try dsimp only at hSw); first | (go_simp; done) | (go_simp; with_reducible rfl)
      try simp only [Act.put, List.setIfInBounds_toArray, List.set_cons_zero, List.set_cons_succ]
      refine wpAnyT_take (i := 5) (v := ?_) rfl (by decide +kernel) (by decide +kernel) (by decide +kernel) (by decide +kernel) (by decide +kernel) (fun _ _ _ h => h) (Or.inl ⟨by rfl, ?_⟩) (by assumption) ?_
      rotate_left
      · intro w hSw; (try dsimp only at hSw); first | (go_simp; done) | (go_simp; with_reducible rfl)
      try simp only [Act.put, List.setIfInBounds_toArray, List.set_cons_zero, List.set_cons_succ]
      refine wpAnyT_take (i := 6) (v := ?_) rfl (by decide +kernel) (by decide +kernel) (by decide +kernel) (by decide +kernel) (by decide +kernel) (fun _ _ _ h => h) (Or.inl ⟨by rfl, ?_⟩) (by assumption) ?_
      rotate_left
      · intro w hSw; (try dsimp only at hSw); first | (go_simp; done) | (go_simp; with_reducible rfl)
      try simp only [Act.put, List.setIfInBounds_toArray, List.set_cons_zero, List.set_cons_succ]
      refine wpAnyT_take (i := 8) (v := ?_) rfl (by decide +kernel) (by decide +kernel) (by decide +kernel) (by decide +kernel) (by decide +kernel) (fun _ _ _ h => h) (Or.inl ⟨by rfl, ?_⟩) (by assumption) ?_
      rotate_left
      · intro w hSw; (try dsimp only at hSw); first | (go_simp; done) | (go_simp; with_reducible rfl)
      try simp only [Act.put, List.setIfInBounds_toArray, List.set_cons_zero, List.set_cons_succ]
      refine wpAnyT_take (i := 11) (v := ?_) rfl (by decide +kernel) (by decide +kernel) (by decide +kernel) (by decide +kernel) (by decide +kernel) (fun _ _ _ h => h) (Or.inl ⟨by rfl, ?_⟩) (by assumption) ?_
      rotate_left
      · intro w hSw; (try dsimp only at hSw); first | (go_simp; done) | (go_simp; with_reducible rfl)
      try simp only [Act.put, List.setIfInBounds_toArray, List.set_cons_zero, List.set_cons_succ]
      refine wpAnyT_take (i := 13) (v := ?_) rfl (by decide +kernel) (by decide +kernel) (by decide +kernel) (by decide +kernel) (by decide +kernel) (fun _ _ _ h => h) (Or.inl ⟨by rfl, ?_⟩) (by assumption) ?_
      rotate_left
      · intro w hSw; (try dsimp only at hSw); first | (go_simp; done) | (go_simp; with_reducible rfl)
      try simp only [Act.put, List.setIfInBounds_toArray, List.set_cons_zero, List.set_cons_succ]
      refine wpAnyT_one (i := 7) (by kernel_rfl) rfl (fun K hK => ?_)
      go_simp
      (refine (srcN_any g _ _ hHeld.2.2.1 (by omega) (by omega)).mono ?_; rintro e w3 ⟨z1, z1a, z1b, rfl, hs3, hg3⟩; have HO3 := Lib.hid (own_turn (by exact HO2.out) hg3 HGL.out))
      refine hK.out _ _ ?_ (fun hHeld2 => ?_)
      · (try dsimp only); exact ⟨(ThB.turn hHeld.2.2 hg3 hs3 HGL.out).cell1, (ThB.turn hHeld.2.2 hg3 hs3 HGL.out).cell2 hk3, ThB.turn hHeld.2.2 hg3 hs3 HGL.out⟩
      clear hK K hHeld
      have hHeld := hHeld2
      clear hHeld2
      try simp only [Act.put, List.setIfInBounds_toArray, List.set_cons_zero, List.set_cons_succ]
      clear hs3 hg3
      refine wpAnyT_one (i := 9) (by kernel_rfl) rfl (fun K hK => ?_)
      go_simp
      (refine (srcN_any g _ _ hHeld.2.2.1 (by omega) (by omega)).mono ?_; rintro e w4 ⟨z2, z2a, z2b, rfl, hs4, hg4⟩; have HO4 := Lib.hid (own_turn (by exact HO3.out) hg4 HGL.out))
      refine hK.out _ _ ?_ (fun hHeld2 => ?_)
      · (try dsimp only); exact ⟨(ThB.turn hHeld.2.2 hg4 hs4 HGL.out).cell1, (ThB.turn hHeld.2.2 hg4 hs4 HGL.out).cell2 hk3, ThB.turn hHeld.2.2 hg4 hs4 HGL.out⟩
      clear hK K hHeld
      have hHeld := hHeld2
      clear hHeld2
      try simp only [Act.put, List.setIfInBounds_toArray, List.set_cons_zero, List.set_cons_succ]
      clear hs4 hg4
      have hx : IntKind.i64.wrap (z2 - 1) = z2 - 1 := IntWalk.i64_in _ (by omega)
      refine wpAnyT_take (i := 10) (v := ?_) rfl (by decide +kernel) (by decide +kernel) (by decide +kernel) (by decide +kernel) (by decide +kernel) (fun _ _ _ h => h) (Or.inl ⟨by rfl, ?_⟩) (by assumption) ?_
      rotate_left
      · intro w hSw; (try dsimp only at hSw); first | (go_simp; done) | (go_simp; with_reducible rfl)
      try simp only [Act.put, List.setIfInBounds_toArray, List.set_cons_zero, List.set_cons_succ]
      refine wpAnyT_one (i := 12) (by kernel_rfl) rfl (fun K hK => ?_)
      go_simp
      (refine (srcN_any g _ _ hHeld.2.2.1 (by omega) (by omega)).mono ?_; rintro e w5 ⟨z3, z3a, z3b, rfl, hs5, hg5⟩; have HO5 := Lib.hid (own_turn (by exact HO4.out) hg5 HGL.out))
      refine hK.out _ _ ?_ (fun hHeld2 => ?_)
      · (try dsimp only); exact ⟨(ThB.turn hHeld.2.2 hg5 hs5 HGL.out).cell1, (ThB.turn hHeld.2.2 hg5 hs5 HGL.out).cell2 hk3, ThB.turn hHeld.2.2 hg5 hs5 HGL.out⟩
      clear hK K hHeld
      have hHeld := hHeld2
      clear hHeld2
      try simp only [Act.put, List.setIfInBounds_toArray, List.set_cons_zero, List.set_cons_succ]
      clear hs5 hg5
      refine wpAnyT_one (i := 14) (by kernel_rfl) rfl (fun K hK => ?_)
      go_simp
      (refine (srcN_any g _ _ hHeld.2.2.1 (by omega) (by omega)).mono ?_; rintro e w6 ⟨z4, z4a, z4b, rfl, hs6, hg6⟩; have HO6 := Lib.hid (own_turn (by exact HO5.out) hg6 HGL.out))
      refine hK.out _ _ ?_ (fun hHeld2 => ?_)
      · (try dsimp only); exact ⟨(ThB.turn hHeld.2.2 hg6 hs6 HGL.out).cell1, (ThB.turn hHeld.2.2 hg6 hs6 HGL.out).cell2 hk3, ThB.turn hHeld.2.2 hg6 hs6 HGL.out⟩
      clear hK K hHeld
      have hHeld := hHeld2
      clear hHeld2
      try simp only [Act.put, List.setIfInBounds_toArray, List.set_cons_zero, List.set_cons_succ]
      clear hs6 hg6
      refine wpAnyT_take (i := 15) (v := ?_) rfl (by decide +kernel) (by decide +kernel) (by decide +kernel) (by decide +kernel) (by decide +kernel) (fun _ _ _ h => h) (Or.inl ⟨by rfl, ?_⟩) (by assumption) ?_
      rotate_left
      · intro w hSw; (try dsimp only at hSw); first | (go_simp; done) | (go_simp; with_reducible rfl)
      try simp only [Act.put, List.setIfInBounds_toArray, List.set_cons_zero, List.set_cons_succ]
      have HT6 := Lib.hid hHeld.2.2
      refine wpAnyT_one (i := 16) (by kernel_rfl) rfl (fun K hK => ?_)
      go_simp
      refine hK.out _ _ ?_ (fun hHeld2 => ?_)
      · (try dsimp only); (exact ⟨(HT6.out.alloc _).cell1, (HT6.out.alloc _).cell2 hk3, HT6.out.alloc _⟩)
      clear hK K hHeld
      have hHeld := hHeld2
      clear hHeld2
      try simp only [Act.put, List.setIfInBounds_toArray, List.set_cons_zero, List.set_cons_succ]
      refine wpAnyT_one (i := 17) (by kernel_rfl) rfl (fun K hK => ?_)
      (refine step_append_lies _ (by rfl) _ _ _ (by rfl) (w.heap.size + 3) 35 i0 _ 5 48 Try.underlying30 hi0 hz0 hz1 hz2 rfl (by omega) (.slice va k vc) k (tokCells l) (by rfl) (HO6.out.alloc _) ⟨w6.heap.size, 0, none⟩ 1 1 [.string (nm3 k), .int .i64 z1, .int .i64 (z2 - 1), .int .i64 z3, .int .i64 z4] (by rfl) (by rfl) (World.news_of_block (cs := #[.string (nm3 k), .int .i64 z1, .int .i64 (z2 - 1), .int .i64 z3, .int .i64 z4]) (t := 35) (fr := (0, 0)) (heap_alloc_new w6 _)) (by simp [Value.oneCell']) (by omega) (by unfold maxLen; omega) (by omega) (by have := HT6.out.2.2.2.2.2.1; simp; omega) (w6.heap.size + 1) (by simp) ?_; intro gg cap' w7 hown7 hgrow7 hat7 hlt7; have HT7 : Hid (ThB g w.heap.size w (.slice va k vc) w7) := ThB.app (HT6.out.alloc _) hgrow7 (fun q hq => (HO6.out.lt q hq).1) HGL.out)
      refine hK.out _ _ ?_ (fun hHeld2 => ?_)
      · (try dsimp only); exact ⟨HT7.out.cell1, HT7.out.cell2 hk3, HT7.out⟩
      clear hK K hHeld
      have hHeld := hHeld2
      clear hHeld2
      try simp only [Act.put, List.setIfInBounds_toArray, List.set_cons_zero, List.set_cons_succ]
      have HO7 := Lib.hid hown7
      clear hown7 hgrow7 hat7 hlt7
      refine wpAnyT_take (i := 18) (v := ?_) rfl (by decide +kernel) (by decide +kernel) (by decide +kernel) (by decide +kernel) (by decide +kernel) (fun _ _ _ h => h) (Or.inl ⟨by rfl, ?_⟩) (by assumption) ?_
      rotate_left
      · intro w hSw; (try dsimp only at hSw); first | (go_simp; done) | (go_simp; with_reducible rfl)
      try simp only [Act.put, List.setIfInBounds_toArray, List.set_cons_zero, List.set_cons_succ]
      have f1 := HT7.out.fr0.2.2
      refine wpAnyT_last (i := 19) (by kernel_rfl) (by kernel_rfl) rfl (by kernel_rfl) (fun K hK => ?_)
      go_simp
      refine hK.out _ _ ?_
      clear hK K
      try simp only [Act.put, List.setIfInBounds_toArray, List.set_cons_zero, List.set_cons_succ]
      have HO8 : Hid ((w7.setCell ⟨w.heap.size + 1, 0, none⟩ (.slice (some ⟨gg, 0, none⟩) (k + 1) cap')).ownsRow (w.heap.size + 3) 35 5 (.slice (some ⟨gg, 0, none⟩) (k + 1) cap') (k + 1) (tokCells (l ++ [⟨nm3 k, z1, z2 - 1, z3, z4⟩]))) := by
        show World.ownsRow _ _ _ _ _ _ _
        rw [tokCells_append]
        exact HO7.out.kept (grownBy_set w7 (w.heap.size + 1) 0 _) (.inr fun e => by have := (HO7.out.lt _ e).1; omega)
      have HT8 := Lib.hid (HT7.out.store (.slice (some ⟨gg, 0, none⟩) (k + 1) cap') HGL.out)
      have HL8 : Hid (toksOk (l ++ [⟨nm3 k, z1, z2 - 1, z3, z4⟩])) := toksOk_snoc HLL.out (by rw [HK.out]; exact hk3) (by rw [HK.out]) (by simp [Tok.vals, valB]; omega)
      have HK8 : Hid ((l ++ [(⟨nm3 k, z1, z2 - 1, z3, z4⟩ : Tok)]).length = k + 1) := by show _ = _; rw [List.length_append, HK.out]; rfl
      clear hHeld f1
      go_wp2
      go_roundw
      case rel => exact ⟨k + 1, _, _, by omega, by go_num, HK8, HL8.out, HT8.out, HO8.out⟩
      case measure => simp [intOf]; omega
    · have HF := Lib.hid (HT2.out.fin (.slice va k vc) HGL.out)
      have HI : Hid (IsToks (w2.setCell ⟨w.heap.size, 0, none⟩ (.slice va k vc)) (.slice va k vc) l) := ownsRow_isToks (base := w.heap.size + 3) (HO2.out.kept (grownBy_set w2 w.heap.size 0 (.slice va k vc)) (.inr fun e => by have := (HO2.out.lt _ e).1; omega)) HK.out.symm
      have hfin : SrcToks g w (.returned (.agg #[.slice va k vc])) (w2.setCell ⟨w.heap.size, 0, none⟩ (.slice va k vc)) := ⟨.slice va k vc, l, rfl, HI.out, HLL.out, HF.out.1, HF.out.2⟩
      have c0' : (w2.setCell ⟨w.heap.size, 0, none⟩ (.slice va k vc)).cell? ⟨w.heap.size, 0, none⟩ = some (.slice va k vc) := by go_simp
      exact bodyPost_ret (v := .agg #[.slice va k vc]) (by simp [results, Try.results22, go_sem, c0']) rfl hfin
end Go.Proofs.Ytcjhefkipghloaa

