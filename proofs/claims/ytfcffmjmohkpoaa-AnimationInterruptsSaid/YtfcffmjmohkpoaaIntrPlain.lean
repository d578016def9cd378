/- Plain mathematics of the law AnimationInterrupts: what takes the place of another animation begins with its value. -/
import Derived.Test.YtfcffmjmohkpoaaSetPlain
import Derived.Test.YtfcffmjmohkpoaaEndsPlain
import Derived.Test.YtfcffmjmohkpoaaPartsPlain
namespace Go.Proofs.Ytfcffmjmohkpoaa
set_option linter.unusedVariables false
set_option linter.unusedSimpArgs false

/-- Place and velocity lie within a weighted bound about the target. -/
def wIn (t B : Int) (s : Int × Int) : Prop := -B ≤ (s.1 - t) + 28 * s.2 ∧ (s.1 - t) + 28 * s.2 ≤ B ∧ -B ≤ (s.1 - t) - 28 * s.2 ∧ (s.1 - t) - 28 * s.2 ≤ B
theorem step_w {t B : Int} {s : Int × Int} (h0 : -32768000 ≤ t) (h1 : t ≤ 32768000) (hB0 : 0 ≤ B) (hB1 : B ≤ 8589934592) (h : wIn t B s) : wIn t (B + B / 170 + 100) (stepZ t 200 240 s) := by
  obtain ⟨x, v⟩ := s
  obtain ⟨a1, a2, a3, a4⟩ := h
  simp only at a1 a2 a3 a4
  obtain ⟨p, hp⟩ : ∃ p, rnd (200 * (t - x)) 1048576 = p := ⟨_, rfl⟩
  obtain ⟨q, hq⟩ : ∃ q, rnd (240 * v) 8192 = q := ⟨_, rfl⟩
  have hsv : stepV t 200 240 (x, v) = v + (p - q) := by unfold stepV; rw [hp, hq]
  have p1 : 2097152 * p ≤ 400 * (t - x) + 1048576 ∧ 400 * (t - x) - 1048576 ≤ 2097152 * p := by
    rw [← hp]; unfold rnd; omega
  have q1 : 16384 * q ≤ 480 * v + 8192 ∧ 480 * v - 8192 ≤ 16384 * q := by
    rw [← hq]; unfold rnd; omega
  clear hp hq
  obtain ⟨u, hu⟩ : ∃ u, x - t = u := ⟨_, rfl⟩
  obtain ⟨D, hD⟩ : ∃ D, B / 170 = D := ⟨_, rfl⟩
  have d1 : 170 * D ≤ B ∧ B < 170 * D + 170 := by omega
  rw [hD]
  have hx : x = u + t := by omega
  subst hx
  clear hu hD
  have e1 : u + t - t = u := by omega
  rw [e1] at a1 a2 a3 a4
  have g1 : u + 29 * (v + p - q) ≤ B + D + 100 := by omega
  have g2 : -(B + D + 100) ≤ u + 29 * (v + p - q) := by omega
  have g3 : u - 27 * (v + p - q) ≤ B + D + 100 := by omega
  have g4 : -(B + D + 100) ≤ u - 27 * (v + p - q) := by omega
  unfold stepZ
  rw [hsv]
  split
  · unfold wIn
    rw [lim_id (by omega) (by omega)]
    simp only
    omega
  · unfold wIn
    have k1 : lim (u + t + (v + (p - q))) 274877906944 = u + t + (v + (p - q)) := lim_id (by omega) (by omega)
    have k2 : lim (v + (p - q)) 17179869184 = v + (p - q) := lim_id (by omega) (by omega)
    simp only [k1, k2]
    omega
def bndW : Nat → Int
  | 0 => 65536000
  | n + 1 => bndW n + bndW n / 170 + 100
theorem bndW_le : ∀ n, 0 ≤ bndW n ∧ bndW n ≤ bndW (n + 1)
  | 0 => by decide
  | n + 1 => by
    have h := bndW_le n
    have e : bndW (n + 1 + 1) = bndW (n + 1) + bndW (n + 1) / 170 + 100 := rfl
    rw [e]; omega
theorem bndW_mono {m : Nat} : ∀ {n : Nat}, m ≤ n → bndW m ≤ bndW n := by
  intro n h
  induction n with
  | zero => obtain rfl : m = 0 := by omega
            exact Int.le_refl _
  | succ n ih =>
    by_cases c : m = n + 1
    · subst c; exact Int.le_refl _
    · exact Int.le_trans (ih (by omega)) (bndW_le n).2
set_option maxRecDepth 100000 in
theorem bndW_600 : bndW 600 ≤ 8589934592 := by decide +kernel
theorem steps_w {t : Int} {s : Int × Int} (h0 : -32768000 ≤ t) (h1 : t ≤ 32768000) (h : wIn t (bndW 0) s) : ∀ n, n ≤ 600 → wIn t (bndW n) (steps t 200 240 n s)
  | 0, _ => h
  | n + 1, hn => by
    rw [steps_succ]
    exact step_w h0 h1 (bndW_le n).1 (Int.le_trans (bndW_mono (by omega)) bndW_600) (steps_w h0 h1 h n (by omega))
/-- Where the law's spring is. -/
theorem spring_far {f t : Int} {n : Nat} (hf : -500 ≤ f ∧ f ≤ 500) (ht : -500 ≤ t ∧ t ≤ 500) (hn : n ≤ 600) :
    -8622702592 ≤ (steps (65536 * t) 200 240 n (65536 * f, 0)).1 ∧ (steps (65536 * t) 200 240 n (65536 * f, 0)).1 ≤ 8622702592 := by
  have h := steps_w (t := 65536 * t) (s := (65536 * f, 0)) (by omega) (by omega) (by unfold wIn; simp only [bndW]; omega) n hn
  have hb := Int.le_trans (bndW_mono hn) bndW_600
  obtain ⟨a1, a2, a3, a4⟩ := h
  omega

/-- The law's two animations and the one that takes the place. -/
def curA (f t : Int) : Anim := ⟨1, 0, 1, f, t, 0, 300, 333, 333, 667, 667, 0, 0, 0, 0, 0⟩
def newA (t : Int) : Anim := ⟨1, 0, 2, 7, t, 0, 0, 0, 0, 0, 0, 200, 240, 458752, 99, 0⟩
/-- What stands in the list behind the interruption. -/
def gotA (V t now X1 X2 : Int) : Anim := ⟨1, 0, 2, V, t, now, 0, 0, 0, 0, 0, 200, 240, X1, X2, now⟩
theorem gotA_err {V t now X1 X2 : Int} (hV : -1048576 ≤ V ∧ V ≤ 1048576) (ht : -500 ≤ t ∧ t ≤ 500) (hn : 0 ≤ now ∧ now ≤ 600) (hS : inS (X1, X2)) : (gotA V t now X1 X2).err = 0 := by
  obtain ⟨a0, a1, b0, b1⟩ := hS
  simp only at a0 a1 b0 b1
  unfold Anim.err gotA
  simp only
  rw [if_neg (show ¬ (2 : Int) = 1 by omega), if_pos trivial, if_pos]
  simp only [Anim.headB, Anim.springB, springB, valueB, Bool.and_eq_true, btw_iff]
  omega
theorem gotA_value {V t now X1 X2 : Int} (he : (gotA V t now X1 X2).err = 0) (ht : -500 ≤ t ∧ t ≤ 500) (hn : 0 ≤ now ∧ now ≤ 600) (hS : inS (X1, X2)) : (gotA V t now X1 X2).value now = rnd X1 65536 := by
  obtain ⟨a0, a1, b0, b1⟩ := hS
  simp only at a0 a1 b0 b1
  unfold Anim.value
  rw [if_pos ⟨he, btw_iff.2 (by omega)⟩]
  have k : (gotA V t now X1 X2).kind = 2 := rfl
  rw [k, if_neg (by omega)]
  have hst : (gotA V t now X1 X2).state now = (X1, X2) := by
    unfold Anim.state gotA
    simp only
    rw [if_neg (by omega), show max 0 (now - now) = 0 by omega, springZ, if_pos (springOk_iff.2 (by omega))]
    rfl
  rw [hst]
theorem setOn_one {a b r : Anim} {now : Int} (ha : a.err = 0) (hk : sameKey a b = true) (hn : 0 ≤ now ∧ now ≤ 600) (hr : (a.after { b with begin_ := now, now := now } now).still = r) (he : r.err = 0) :
    setErr [a] b now = 0 ∧ setOn [a] b now = [r] := by
  have hp : place [a] b = 0 := by simp [place, List.findIdx_cons, hk]
  have hs : settled [a] b now = r := by
    unfold settled
    simp only
    rw [hp, if_pos (by simp)]
    exact hr
  have hE : setErr [a] b now = 0 := by
    unfold setErr
    have hf : firstErr [a] = 0 := by simp [firstErr, ha]
    have hb : btw now 0 1099511627776 = true := btw_iff.2 (by omega)
    rw [if_neg (by simp), if_neg (by rw [hb]; decide), if_neg (by rw [hf]; decide), hs, if_neg (by rw [he]; decide), hp, if_neg (by omega)]
  refine ⟨hE, ?_⟩
  rw [setOn, if_pos hE, hp, if_pos (by simp), hs]
  rfl
theorem intr_spring {f t t2 now : Int} (hf : -500 ≤ f ∧ f ≤ 500) (ht : -500 ≤ t ∧ t ≤ 500) (ht2 : -500 ≤ t2 ∧ t2 ≤ 500) (hn : 0 ≤ now ∧ now < 600) :
    ∃ V X1 X2, (lawA f t 200 240 0).value now = V ∧ setErr [lawA f t 200 240 0] (newA t2) now = 0 ∧ setOn [lawA f t 200 240 0] (newA t2) now = [gotA V t2 now X1 X2] ∧ (gotA V t2 now X1 X2).value now = V ∧ springZ (65536 * f) 0 t 200 240 now = (X1, X2) := by
  have hS0 : inS ((65536 * f, 0) : Int × Int) := by unfold inS; simp only; omega
  have hst : (lawA f t 200 240 0).state now = steps (65536 * t) 200 240 now.toNat (65536 * f, 0) := by
    have := lawB_state (f := f) (t := t) (k := 200) (d := 240) (now := 0) (m := now) (S := (65536 * f, 0)) (by omega) (by omega) (by omega) hS0 (by omega) (by omega) (by omega)
    rw [Int.sub_zero] at this
    exact this
  have hsp : springZ (65536 * f) 0 t 200 240 now = steps (65536 * t) 200 240 now.toNat (65536 * f, 0) := by
    rw [springZ, if_pos (springOk_iff.2 (by omega))]
  have hfar := spring_far (f := f) (t := t) (n := now.toNat) hf ht (by omega)
  have hin := steps_in (65536 * t) 200 240 hS0 now.toNat
  obtain ⟨X, hX⟩ : ∃ X, steps (65536 * t) 200 240 now.toNat (65536 * f, 0) = X := ⟨_, rfl⟩
  rw [hX] at hst hsp hfar hin
  obtain ⟨X1, X2⟩ := X
  have hae : (lawA f t 200 240 0).err = 0 := lawB_ok (S := (65536 * f, 0)) (now := 0) (by omega) (by omega) (by omega) (by omega) hS0 (by omega)
  have hV : (lawA f t 200 240 0).value now = rnd X1 65536 := by
    unfold Anim.value
    rw [if_pos ⟨hae, btw_iff.2 (by omega)⟩]
    have k : (lawA f t 200 240 0).kind = 2 := rfl
    rw [k, if_neg (by omega), hst]
  simp only at hfar
  have hVb : -1048576 ≤ rnd X1 65536 ∧ rnd X1 65536 ≤ 1048576 := by unfold rnd; omega
  have hge := gotA_err (V := rnd X1 65536) (t := t2) (now := now) hVb ht2 (by omega) hin
  obtain ⟨s1, s2⟩ := setOn_one (a := lawA f t 200 240 0) (b := newA t2) (r := gotA (rnd X1 65536) t2 now X1 X2) (now := now) hae rfl (by omega) (by
    unfold Anim.after
    rw [if_pos ⟨rfl, rfl⟩, hV, hst]
    rfl) hge
  exact ⟨rnd X1 65536, X1, X2, hV, s1, s2, gotA_value hge ht2 (by omega) hin, hsp⟩
theorem intr_curve {f t t2 now : Int} (hf : -500 ≤ f ∧ f ≤ 500) (ht : -500 ≤ t ∧ t ≤ 500) (ht2 : -500 ≤ t2 ∧ t2 ≤ 500) (hn : 0 ≤ now ∧ now < 600) :
    ∃ V, (curA f t).value now = V ∧ setErr [curA f t] (newA t2) now = 0 ∧ setOn [curA f t] (newA t2) now = [gotA V t2 now (65536 * V) 0] ∧ (gotA V t2 now (65536 * V) 0).value now = V := by
  have hae : (curA f t).err = 0 := by
    unfold Anim.err curA
    simp only
    rw [if_pos trivial, if_pos]
    simp only [Anim.headB, Anim.curveB, valueB, Bool.and_eq_true, btw_iff]
    refine ⟨⟨⟨⟨⟨?_, ?_⟩, ?_⟩, ?_⟩, ?_⟩, ?_, by decide⟩ <;> omega
  obtain ⟨E, hE⟩ : ∃ E, easeZ 333 333 667 667 (now - 0) 300 = E := ⟨_, rfl⟩
  have hEb := easeZ_bd 333 333 667 667 (now - 0) 300
  rw [hE] at hEb
  have hV : (curA f t).value now = f + rnd ((t - f) * E) 1000 := by
    unfold Anim.value
    rw [if_pos ⟨hae, btw_iff.2 (by omega)⟩]
    have k : (curA f t).kind = 1 := rfl
    rw [k, if_pos rfl]
    show f + rnd ((t - f) * easeZ 333 333 667 667 (now - 0) 300) 1000 = _
    rw [hE]
  have hpr : -14000000 ≤ (t - f) * E ∧ (t - f) * E ≤ 14000000 := by
    by_cases hE0 : 0 ≤ E
    · have := mul_rng (a := t - f) (b := E) (m := 1000) (k := 14000) (by omega) (by omega) hE0 hEb.2
      omega
    · have := mul_rng (a := t - f) (b := -E) (m := 1000) (k := 14000) (by omega) (by omega) (by omega) (by omega)
      rw [Int.mul_neg] at this
      omega
  obtain ⟨V, hVV⟩ : ∃ V, f + rnd ((t - f) * E) 1000 = V := ⟨_, rfl⟩
  rw [hVV] at hV
  have hVb : -1048576 ≤ V ∧ V ≤ 1048576 := by rw [← hVV]; unfold rnd; omega
  have hin : inS ((65536 * V, 0) : Int × Int) := by unfold inS; simp only; omega
  have hge := gotA_err (V := V) (t := t2) (now := now) hVb ht2 (by omega) hin
  obtain ⟨s1, s2⟩ := setOn_one (a := curA f t) (b := newA t2) (r := gotA V t2 now (65536 * V) 0) (now := now) hae rfl (by omega) (by
    unfold Anim.after
    rw [if_neg (fun h => absurd h.1 (show ¬ (1 : Int) = 2 by decide)), hV]
    rfl) hge
  refine ⟨V, hV, s1, s2, ?_⟩
  rw [gotA_value hge ht2 (by omega) hin, Int.mul_comm, rnd_mul (by omega)]
end Go.Proofs.Ytfcffmjmohkpoaa
