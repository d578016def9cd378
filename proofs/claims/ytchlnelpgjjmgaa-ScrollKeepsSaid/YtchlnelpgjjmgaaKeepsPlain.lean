/- Plain mathematics of the law ScrollKeeps: the rows that it builds, and what Keep answers to them. -/
import Derived.Test.YtchlnelpgjjmgaaRefKeep
import Derived.Test.YtchlnelpgjjmgaaKeepAny
namespace Go.Proofs.Ytchlnelpgjjmgaa
set_option linter.unusedVariables false
set_option linter.unusedSimpArgs false
open Go.RowKit

def keyA (i : Nat) : ByteArray := ⟨#[UInt8.ofNat (65 + i)]⟩
def keyN (i : Nat) : ByteArray := ⟨#[110, 101, 119, UInt8.ofNat (97 + i)]⟩
def rowsA (hs : List Int) (k : Nat) : List Strip := (List.range k).map fun i => (keyA i, 1 + gz hs i % 64)
def rowsN (bs : List Int) (k : Nat) : List Strip := (List.range k).map fun i => (keyN i, gz bs i % 64)
theorem rowsA_len (hs : List Int) (k : Nat) : (rowsA hs k).length = k := by simp [rowsA]
theorem rowsN_len (hs : List Int) (k : Nat) : (rowsN hs k).length = k := by simp [rowsN]
theorem rowsA_succ (hs : List Int) (k : Nat) : rowsA hs (k + 1) = rowsA hs k ++ [(keyA k, 1 + gz hs k % 64)] := by simp [rowsA, List.range_succ]
theorem rowsN_succ (hs : List Int) (k : Nat) : rowsN hs (k + 1) = rowsN hs k ++ [(keyN k, gz hs k % 64)] := by simp [rowsN, List.range_succ]
theorem rowsA_gk {hs : List Int} {k i : Nat} (h : i < k) : gk (rowsA hs k) i = keyA i := by simp [gk, rowsA, h]
theorem rowsA_gh {hs : List Int} {k i : Nat} (h : i < k) : gh (rowsA hs k) i = 1 + gz hs i % 64 := by simp [gh, rowsA, h]
theorem rowsN_gk {hs : List Int} {k i : Nat} (h : i < k) : gk (rowsN hs k) i = keyN i := by simp [gk, rowsN, h]
theorem rowsN_gh {hs : List Int} {k i : Nat} (h : i < k) : gh (rowsN hs k) i = gz hs i % 64 := by simp [gh, rowsN, h]
theorem keyA_inj {i j : Nat} (hi : i < 40) (hj : j < 40) (h : keyA i = keyA j) : i = j := by
  simp only [keyA, ByteArray.mk.injEq, Array.mk.injEq, List.cons.injEq, and_true] at h
  have := congrArg UInt8.toNat h
  simp at this
  omega
theorem keyA_ne_N (i j : Nat) : keyN j ≠ keyA i := by
  intro h
  simp [keyA, keyN] at h

theorem gk_app_l {a b : List Strip} {i : Nat} (h : i < a.length) : gk (a ++ b) i = gk a i := by simp [gk, List.getElem?_append_left h]
theorem gh_app_l {a b : List Strip} {i : Nat} (h : i < a.length) : gh (a ++ b) i = gh a i := by simp [gh, List.getElem?_append_left h]
theorem gk_app_r {a b : List Strip} {i : Nat} (h : a.length ≤ i) : gk (a ++ b) i = gk b (i - a.length) := by simp [gk, List.getElem?_append_right h]
theorem gh_app_r {a b : List Strip} {i : Nat} (h : a.length ≤ i) : gh (a ++ b) i = gh b (i - a.length) := by simp [gh, List.getElem?_append_right h]
theorem gk_drop (a : List Strip) (g i : Nat) : gk (a.drop g) i = gk a (g + i) := by simp [gk, List.getElem?_drop]
theorem gh_drop (a : List Strip) (g i : Nat) : gh (a.drop g) i = gh a (g + i) := by simp [gh, List.getElem?_drop]

/-- The list with the new rows. -/
def rowsB (hs bs : List Int) (n m g : Nat) : List Strip := rowsN bs m ++ (rowsA hs n).drop g
theorem rowsB_len {hs bs : List Int} {n m g : Nat} (hg : g ≤ n) : (rowsB hs bs n m g).length = m + (n - g) := by simp [rowsB, rowsA_len, rowsN_len]
theorem rowsB_gk_lo {hs bs : List Int} {n m g i : Nat} (h : i < m) : gk (rowsB hs bs n m g) i = keyN i := by
  rw [rowsB, gk_app_l (by rw [rowsN_len]; exact h), rowsN_gk h]
theorem rowsB_gk_hi {hs bs : List Int} {n m g i : Nat} (h : m ≤ i) (hi : i < m + (n - g)) : gk (rowsB hs bs n m g) i = keyA (g + (i - m)) := by
  rw [rowsB, gk_app_r (by rw [rowsN_len]; exact h), rowsN_len, gk_drop, rowsA_gk (by omega)]
theorem rowsB_gh {hs bs : List Int} {n m g : Nat} (hg : g ≤ n) {i : Nat} (hi : i < m + (n - g)) : 0 ≤ gh (rowsB hs bs n m g) i ∧ gh (rowsB hs bs n m g) i ≤ 64 := by
  by_cases h : i < m
  · rw [rowsB, gh_app_l (by rw [rowsN_len]; exact h), rowsN_gh h]; omega
  · rw [rowsB, gh_app_r (by rw [rowsN_len]; omega), rowsN_len, gh_drop, rowsA_gh (by omega)]; omega

theorem firstTo_none {l : List Strip} {s : ByteArray} : ∀ {k : Nat}, (∀ i, i < k → gk l i ≠ s) → firstTo l s k = none
  | 0, _ => rfl
  | k + 1, h => by
    have ih := firstTo_none (k := k) (fun i hi => h i (by omega))
    simp only [firstTo]
    rw [ih, if_neg (by simp), if_neg (h k (by omega))]
theorem firstTo_some {l : List Strip} {s : ByteArray} {j : Nat} (h1 : gk l j = s) (h2 : ∀ i, i < j → gk l i ≠ s) : ∀ k, j < k → firstTo l s k = some j
  | 0, h => by omega
  | k + 1, h => by
    simp only [firstTo]
    by_cases c : j < k
    · rw [firstTo_some h1 h2 k c, if_pos (by simp)]
    · have : j = k := by omega
      subst this
      rw [firstTo_none h2, if_neg (by simp), if_pos h1]

/-- Where the first row that ends behind the offset is found in the new list, it is the anchor. -/
theorem anchor_at {l old : List Strip} {o : Int} {F N : Nat} (hF : F < N) (hs : (firstIx l (gk old F)).isSome = true) (ho : o < topTo old (F + 1)) (hno : ∀ j, j < F → ¬ o < topTo old (j + 1)) :
    ∀ (f k : Nat) (acc : Option Nat), k ≤ F → k + f = N → anchorGo l old o f k acc = some F
  | 0, k, acc, h1, h2 => by omega
  | f + 1, k, acc, h1, h2 => by
    by_cases c : k = F
    · subst c; exact anchor_stop hs (by omega) ho
    · by_cases d : (firstIx l (gk old k)).isSome = true
      · rw [anchor_hit d (by omega) (hno k (by omega))]
        exact anchor_at hF hs ho hno f (k + 1) _ (by omega) (by omega)
      · rw [anchor_miss (by simpa using d) (by omega)]
        exact anchor_at hF hs ho hno f (k + 1) _ (by omega) (by omega)

theorem goodA {hs : List Int} {n : Nat} : goodRows (rowsA hs n) (rowsA hs n).length := by
  intro j hj
  rw [rowsA_len] at hj
  rw [rowsA_gh hj]
  exact ⟨by omega, by omega⟩
theorem goodB {hs bs : List Int} {n m g : Nat} (hg : g ≤ n) : goodRows (rowsB hs bs n m g) (rowsB hs bs n m g).length := by
  intro j hj
  rw [rowsB_len hg] at hj
  have := rowsB_gh (hs := hs) (bs := bs) hg hj
  exact ⟨by omega, by omega⟩
theorem keyA_size (i : Nat) : (keyA i).size = 1 := rfl
theorem keyN_size (i : Nat) : (keyN i).size = 4 := rfl
theorem keysA (hs : List Int) (n : Nat) : keysOk (rowsA hs n) := by
  intro j
  by_cases h : j < n
  · rw [rowsA_gk h, keyA_size]; unfold maxLen; omega
  · have : gk (rowsA hs n) j = ByteArray.empty := by simp [gk, rowsA, h]
    rw [this]; unfold maxLen; simp
theorem keysB (hs bs : List Int) {n m g : Nat} (hg : g ≤ n) : keysOk (rowsB hs bs n m g) := by
  intro j
  by_cases h : j < m
  · rw [rowsB_gk_lo h, keyN_size]; unfold maxLen; omega
  · by_cases h2 : j < m + (n - g)
    · rw [rowsB_gk_hi (by omega) h2, keyA_size]; unfold maxLen; omega
    · have : gk (rowsB hs bs n m g) j = ByteArray.empty := by
        have hl := rowsB_len (hs := hs) (bs := bs) (m := m) hg
        simp [gk, List.getElem?_eq_none (show (rowsB hs bs n m g).length ≤ j by omega)]
      rw [this]; unfold maxLen; simp

/-- What the law asks of Keep. -/
theorem keeps_facts {hs bs : List Int} {n m g F : Nat} {o : Int} (hn : n ≤ 40) (hm : m ≤ 20) (hF : F < n) (hg : g ≤ F) (ho : 0 ≤ o ∧ o < 65536) (h1 : topTo (rowsA hs n) F ≤ o) (h2 : o < topTo (rowsA hs n) (F + 1)) :
    keepA (rowsA hs n) (rowsB hs bs n m g) o = topTo (rowsB hs bs n m g) (m + (F - g)) + o - topTo (rowsA hs n) F ∧ keepA (rowsA hs n) (rowsA hs n) o = o := by
  have hgn : g ≤ n := by omega
  have hno : ∀ j, j < F → ¬ o < topTo (rowsA hs n) (j + 1) := by
    intro j hj hlt
    have := topTo_mono (l := rowsA hs n) goodA (j + 1) F (by omega) (by rw [rowsA_len]; omega)
    omega
  have hk : gk (rowsA hs n) F = keyA F := rowsA_gk hF
  have fA : firstIx (rowsA hs n) (keyA F) = some F := by
    rw [firstIx, rowsA_len]
    refine firstTo_some hk (fun i hi => ?_) n hF
    rw [rowsA_gk (by omega)]
    intro h
    have := keyA_inj (by omega) (by omega) h
    omega
  have fB : firstIx (rowsB hs bs n m g) (keyA F) = some (m + (F - g)) := by
    rw [firstIx, rowsB_len hgn]
    refine firstTo_some ?_ (fun i hi => ?_) _ (by omega)
    · rw [rowsB_gk_hi (by omega) (by omega)]
      congr 1
      omega
    · by_cases c : i < m
      · rw [rowsB_gk_lo c]; exact keyA_ne_N _ _
      · rw [rowsB_gk_hi (by omega) (by omega)]
        intro h
        have := keyA_inj (by omega) (by omega) h
        omega
  have kA : keepOk (rowsA hs n) (rowsA hs n) o := ⟨by rw [rowsA_len]; omega, goodA, by rw [rowsA_len]; omega, goodA, by constructor <;> omega⟩
  have kB : keepOk (rowsA hs n) (rowsB hs bs n m g) o := ⟨by rw [rowsA_len]; omega, goodA, by rw [rowsB_len hgn]; omega, goodB hgn, by constructor <;> omega⟩
  constructor
  · rw [keepA, if_pos kB, keepZ, rowsA_len, anchor_at (F := F) (N := n) hF (by rw [hk, fB]; rfl) h2 hno n 0 none (by omega) (by omega), valAt, hk, fB]
    rfl
  · rw [keepA, if_pos kA, keepZ, rowsA_len, anchor_at (F := F) (N := n) hF (by rw [hk, fA]; rfl) h2 hno n 0 none (by omega) (by omega), valAt, hk, fA]
    simp only [Option.getD_some]
    omega
end Go.Proofs.Ytchlnelpgjjmgaa
