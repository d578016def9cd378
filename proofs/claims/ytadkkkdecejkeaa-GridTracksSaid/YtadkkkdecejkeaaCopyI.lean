/- The builtin copy between lists of numbers, as a law for the walk and for a region that draws. -/
import Derived.Test.YtadkkkdecejkeaaMem
import Derived.Laws.CopyOwn
namespace Go.Proofs.Ytadkkkdecejkeaa
open Go.RowKit
set_option linter.unusedVariables false
set_option linter.unusedSimpArgs false

/-- n numbers of S laid over X from place off on. -/
def cpI (X : List Int) (off : Nat) (S : List Int) (n : Nat) : List Int := (List.range X.length).map fun i => if off ≤ i ∧ i < off + n then gz S (i - off) else gz X i
theorem cpI_len (X : List Int) (off : Nat) (S : List Int) (n : Nat) : (cpI X off S n).length = X.length := by simp [cpI]
theorem cpI_at {X : List Int} {off : Nat} {S : List Int} {n i : Nat} (h : i < X.length) : gz (cpI X off S n) i = if off ≤ i ∧ i < off + n then gz S (i - off) else gz X i := by simp [cpI, gz, h]
theorem cpI_splice {X : List Int} {off : Nat} {S : List Int} {n : Nat} (hf : off + n ≤ X.length) (hS : n ≤ S.length) :
    splice (X.map (Value.int .i64)) off ((S.take n).map (Value.int .i64)) = (cpI X off S n).map (Value.int .i64) := by
  apply List.ext_getElem?
  intro i
  simp only [splice, List.getElem?_append, List.getElem?_take, List.getElem?_drop, List.length_take, List.length_map, List.getElem?_map, cpI]
  rw [Nat.min_eq_left (by omega : off ≤ X.length), Nat.min_eq_left hS]
  by_cases h1 : i < off
  · rw [if_pos h1, if_pos h1]
    by_cases h2 : i < X.length
    · have e : (List.range X.length)[i]? = some i := by simp [h2]
      rw [e]
      simp only [Option.map_some]
      rw [if_neg (by omega)]
      simp [gz, h2]
    · omega
  · rw [if_neg h1]
    by_cases h2 : i < off + n
    · have e : (List.range X.length)[i]? = some i := List.getElem?_range (by omega)
      rw [if_pos (by omega), if_pos (by omega), e]
      simp only [Option.map_some]
      rw [if_pos (by omega)]
      have h3 : i - off < S.length := by omega
      have e3 : S[i - off]? = some (gz S (i - off)) := by simp [gz, h3]
      rw [e3]; rfl
    · rw [if_neg (by omega)]
      have e : off + n + (i - off - n) = i := by omega
      rw [e]
      by_cases h3 : i < X.length
      · have e : (List.range X.length)[i]? = some i := by simp [h3]
        rw [e]
        simp only [Option.map_some]
        rw [if_neg (by omega)]
        simp [gz, h3]
      · have e : (List.range X.length)[i]? = none := by simp; omega
        have e2 : X[i]? = none := by simp; omega
        rw [e, e2]
        rfl

/-- What a copy asks: the target is owned and known, the source reads as S, n numbers go over and fit. -/
structure CopyFit (w : World) (g off dLen sb so sLen : Nat) (X S : List Int) (n : Nat) : Prop where
  own : OwnI w g X
  src : ∀ i, i < n → w.cell? ⟨sb, so + i, none⟩ = some (.int .i64 (gz S i))
  len : n ≤ S.length
  num : n = Nat.min sLen dLen
  fit : off + n ≤ X.length

theorem CopyFit.src' {w : World} {g off dLen sb so sLen : Nat} {X S : List Int} {n : Nat} (h : CopyFit w g off dLen sb so sLen X S n) :
    ∀ j v, ((S.take n).map (Value.int .i64))[j]? = some v → w.cell? ((⟨sb, so, none⟩ : Addr).add j) = some v := by
  intro j v hj
  simp only [List.getElem?_map, List.getElem?_take] at hj
  by_cases c : j < n
  · rw [if_pos c] at hj
    have hl := h.len
    have hj2 : S[j]? = some (gz S j) := by simp [gz, show j < S.length by omega]
    rw [hj2] at hj
    simp only [Option.map_some, Option.some.injEq] at hj
    subst hj
    have e : (⟨sb, so, none⟩ : Addr).add j = ⟨sb, so + j, none⟩ := by unfold Addr.add; split <;> simp_all
    rw [e]
    exact h.src j c
  · rw [if_neg c] at hj; simp at hj

theorem wpList_copy_ints {w : World} {ops : Array Oper} {rest : List Oper} {o : Oper} {a : Act} {Q : Exit → Act → World → Prop} (hgd : o.guard = none) (d s : Operand)
    (ho : o.op = .call { callee := .builtin .copy, args := #[d, s], argTypes := #[26, 26] })
    (g off dLen dCap sb so sLen sCap : Nat) (hd : a.eval d = .slice (some ⟨g, off, none⟩) dLen dCap) (hs : a.eval s = .slice (some ⟨sb, so, none⟩) sLen sCap)
    (X S : List Int) (n : Nat) (HF : Hid (CopyFit w g off dLen sb so sLen X S n)) (B : Nat) (w0 : World) (hb : Below B w0 w) (hBg : B ≤ g)
    (h : ∀ w', Hid (OwnI w' g (cpI X off S n)) → Hid (Below B w0 w') → wpList Try.prog ops Q rest (a.put o.dst (.int .i64 n)) w') :
    wpList Try.prog ops Q (o :: rest) a w := by
  have hl : ((S.take n).map (Value.int .i64)).length = n := by simp; exact Nat.min_eq_left HF.out.len
  refine wpList_copy_splice hgd d s 26 26 ho 3 Try.underlying26 (by kernel_rfl) _ _ _ _ _ _ hd hs g off (X.map (Value.int .i64)) 3 HF.out.own ((S.take n).map (Value.int .i64)) (by rw [hl]; exact HF.out.num) (fun _ => ⟨rfl, _, rfl, HF.out.src'⟩) (by rw [hl]; simpa using HF.out.fit) (fun v hv => by obtain ⟨_, _, rfl⟩ := List.mem_map.1 hv; rfl) B w0 hb hBg ?_
  intro w' hg hb'
  have e := hg.out
  rw [cpI_splice HF.out.fit HF.out.len] at e
  rw [hl]
  exact h w' (Lib.hid (show OwnI w' g _ from e)) (Lib.hid hb')

theorem step_copy_ints {ops : Array Oper} {o : Oper} {a : Act} {w : World} {K : Act → World → Prop} {Q : Exit → Act → World → Prop} {E : Prop} (hgd : o.guard = none) (d s : Operand)
    (ho : o.op = .call { callee := .builtin .copy, args := #[d, s], argTypes := #[26, 26] })
    (g off dLen dCap sb so sLen sCap : Nat) (hd : a.eval d = .slice (some ⟨g, off, none⟩) dLen dCap) (hs : a.eval s = .slice (some ⟨sb, so, none⟩) sLen sCap)
    (X S : List Int) (n : Nat) (HF : Hid (CopyFit w g off dLen sb so sLen X S n)) (B : Nat) (w0 : World) (hb : Below B w0 w) (hBg : B ≤ g)
    (h : ∀ w', Hid (OwnI w' g (cpI X off S n)) → Hid (Below B w0 w') → K (a.put o.dst (.int .i64 n)) w') :
    if Region.wanted o (yielded ops a.tmps) = true then Oper.wp Try.prog o a w K Q else E := by
  have hl : ((S.take n).map (Value.int .i64)).length = n := by simp; exact Nat.min_eq_left HF.out.len
  refine step_copy_splice hgd d s 26 26 ho 3 Try.underlying26 (by kernel_rfl) _ _ _ _ _ _ hd hs g off (X.map (Value.int .i64)) 3 HF.out.own ((S.take n).map (Value.int .i64)) (by rw [hl]; exact HF.out.num) (fun _ => ⟨rfl, _, rfl, HF.out.src'⟩) (by rw [hl]; simpa using HF.out.fit) (fun v hv => by obtain ⟨_, _, rfl⟩ := List.mem_map.1 hv; rfl) B w0 hb hBg ?_
  intro w' hg hb'
  have e := hg.out
  rw [cpI_splice HF.out.fit HF.out.len] at e
  rw [hl]
  exact h w' (Lib.hid (show OwnI w' g _ from e)) (Lib.hid hb')
end Go.Proofs.Ytadkkkdecejkeaa
