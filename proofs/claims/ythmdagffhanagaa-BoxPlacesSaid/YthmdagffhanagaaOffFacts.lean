/- Plain facts of Offsets and Align: mirrored positions, no overlap, the ends of justified elements. -/
import Derived.Test.YthmdagffhanagaaBoxOff3
import Derived.Test.YthmdagffhanagaaBits
namespace Go.Proofs.Ythmdagffhanagaa
set_option linter.unusedVariables false
theorem more_bd {av gp ju : Int} {s : List Int} (hok : offOk av gp ju s = true) :
    (moreL ju (offFree av gp s) s.length).length = s.length ∧ ∀ k, k < s.length → 0 ≤ gz (moreL ju (offFree av gp s) s.length) k ∧ gz (moreL ju (offFree av gp s) s.length) k ≤ 1073741824 := by
  obtain ⟨hn, ha, hg, hs, hj⟩ := offOk_iff.1 hok
  have hsp := spTo_bd (av := av) (gp := gp) ha.1 ha.2 hg.1 hg.2 hn
  have hsum := lens_sum hs s.length (Nat.le_refl _)
  have hfr : offFree av gp s ≤ 1048576 := by unfold offFree; omega
  unfold moreL
  by_cases hb : betw ju (offFree av gp s) s.length = true
  · rw [if_pos hb]
    obtain ⟨h3, hf, hn1⟩ := betw_iff.1 hb
    obtain ⟨h1, h2, -⟩ := ones_parts (fr := offFree av gp s) (m := s.length - 1) hf hfr (by omega)
    exact ⟨by simp [h1]; omega, fun k _ => snoc_bd (n := s.length) h2 h1 (by omega) k⟩
  · rw [if_neg hb]
    exact ⟨by simp, fun k _ => by rw [gz_replicate]; omega⟩
theorem at0_bd {av gp ju : Int} {s : List Int} (hok : offOk av gp ju s = true) : -1073741824 ≤ at0 ju (offFree av gp s) ∧ at0 ju (offFree av gp s) ≤ 1073741824 := by
  obtain ⟨hn, ha, hg, hs, hj⟩ := offOk_iff.1 hok
  have hsp := spTo_bd (av := av) (gp := gp) ha.1 ha.2 hg.1 hg.2 hn
  have hsum := lens_sum hs s.length (Nat.le_refl _)
  have hfr : offFree av gp s ≤ 1048576 ∧ -1073741824 ≤ offFree av gp s := by unfold offFree; omega
  unfold at0
  split
  · omega
  · split
    · exact floor2_bd (by omega) (by omega)
    · omega
theorem offL_len {av gp ju : Int} {s : List Int} {r : Bool} (hok : offOk av gp ju s = true) : (offL av gp ju s r).length = s.length := by unfold offL; rw [if_pos hok, offTo_len]
theorem offL_at {av gp ju : Int} {s : List Int} {r : Bool} (hok : offOk av gp ju s = true) {i : Nat} (hi : i < s.length) :
    gz (offL av gp ju s r) i = offAt av gp s (moreL ju (offFree av gp s) s.length) (at0 ju (offFree av gp s)) r i := by unfold offL; rw [if_pos hok, offTo_at hi]
theorem mir_facts {av gp ju : Int} {s : List Int} (hok : offOk av gp ju s = true) {i : Nat} (hi : i < s.length) :
    gz (offL av gp ju s true) i = av - gz (offL av gp ju s false) i - gz s i ∧ (-1073741824 ≤ gz (offL av gp ju s false) i ∧ gz (offL av gp ju s false) i ≤ 1073741824 + 2147483648 * 100) ∧ (0 ≤ gz s i ∧ gz s i ≤ 1048576) ∧
      ∀ p, p + 1 = i → gz (offL av gp ju s false) p + gz s p + gp ≤ gz (offL av gp ju s false) i := by
  obtain ⟨hn, ha, hg, hs, hj⟩ := offOk_iff.1 hok
  have hm := more_bd hok
  have hp := posTo_bd (a := at0 ju (offFree av gp s)) hs hg hm.2 (at0_bd hok) i (by omega)
  have hz := lensB_at hs hi
  refine ⟨by rw [offL_at hok hi, offL_at hok hi]; simp only [offAt]; simp; omega, ?_, hz, fun p hpi => ?_⟩
  · rw [offL_at hok hi]; simp only [offAt]; simp; omega
  · rw [offL_at hok hi, offL_at hok (i := p) (by omega)]
    subst hpi
    have := (hm.2 p (by omega)).1
    simp only [offAt, posTo]
    simp; omega
/-- The small sizes of the laws. -/
def smf (xs : List Int) (i : Nat) : Int := gz xs i % 128
def sm (xs : List Int) : List Int := (List.range xs.length).map (smf xs)
theorem sm_len (xs : List Int) : (sm xs).length = xs.length := by simp [sm]
theorem sm_at {xs : List Int} {i : Nat} (h : i < xs.length) : gz (sm xs) i = gz xs i % 128 := by unfold sm; rw [gz_map_range _ h]; rfl
theorem sm_lens (xs : List Int) : lensB (sm xs) = true := by
  apply lensB_yes
  intro k hk
  rw [sm_len] at hk
  rw [sm_at hk, lenB_iff]
  omega
theorem sm_fill (xs : List Int) : fillTo (smf xs) xs.length xs.length = sm xs := fillTo_all _ _
end Go.Proofs.Ythmdagffhanagaa
