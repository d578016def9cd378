/- Plain mathematics of colors: luminance, contrast, readability. No program in sight. -/
import Derived.Test.YtcjhefkipghloaaNumOk
import Derived.Test.YtcjhefkipghloaaScalePlain
namespace Go.Proofs.Ytcjhefkipghloaa

def colorZ (n : Int) : Bool := decide (0 ≤ n) && decide (n ≤ 16777215)
theorem color_iff {n : Int} : colorZ n = true ↔ 0 ≤ n ∧ n ≤ 16777215 := by simp [colorZ]
/-- The weighted squares of the three parts of a color. -/
def partsZ (n : Int) : Int := 2126 * (n / 65536) * (n / 65536) + 7152 * (n / 256 % 256) * (n / 256 % 256) + 722 * (n % 256) * (n % 256)
def lumZ (n : Int) : Int := if colorZ n then floorZ (partsZ n) 650250 else 0
def conZ (a b : Int) : Int := if colorZ a && colorZ b then floorZ ((max (lumZ a) (lumZ b) + 50) * 100) (min (lumZ a) (lumZ b) + 50) else 0
def readZ (n b least : Int) : Int := if (!colorZ n || !colorZ b || decide (least ≤ conZ n b)) then n else if conZ 16777215 b ≤ conZ 0 b then 0 else 16777215
def sizeZ (scale size : Int) : Int := clampZ (if 50 ≤ scale ∧ scale ≤ 400 ∧ 1 ≤ size ∧ size ≤ 1000 then scaleZ size scale 100 else size) 1 1000

theorem sq_bd {x m : Int} (h0 : 0 ≤ x) (h1 : x ≤ m) : 0 ≤ x * x ∧ x * x ≤ m * m := mul_bd h0 h0 h1 h1
theorem partsZ_bd {n : Int} (h0 : 0 ≤ n) (h1 : n ≤ 16777215) : 0 ≤ partsZ n ∧ partsZ n ≤ 650250000 := by
  have a := sq_bd (x := n / 65536) (m := 255) (by omega) (by omega)
  have b := sq_bd (x := n / 256 % 256) (m := 255) (by omega) (by omega)
  have c := sq_bd (x := n % 256) (m := 255) (by omega) (by omega)
  unfold partsZ
  rw [Int.mul_assoc, Int.mul_assoc, Int.mul_assoc]
  omega
theorem floorZ_pos {a b : Int} (hb : 0 < b) (hb1 : b ≤ 1152921504606846976) (h0 : -1152921504606846976 ≤ a) (h1 : a ≤ 1152921504606846976) : floorZ a b = a / b := by
  have hok : numOk a b = true := by simp [numOk]; omega
  rw [floorZ, if_pos hok, if_neg (by omega)]
theorem lumZ_bd (n : Int) : 0 ≤ lumZ n ∧ lumZ n ≤ 1000 := by
  unfold lumZ
  by_cases h : colorZ n = true
  · rw [if_pos h]
    obtain ⟨h0, h1⟩ := color_iff.1 h
    have hp := partsZ_bd h0 h1
    rw [floorZ_pos (by omega) (by omega) (by omega) (by omega)]
    omega
  · rw [if_neg h]; omega
theorem conZ_eq {a b : Int} (ha : colorZ a = true) (hb : colorZ b = true) : conZ a b = (max (lumZ a) (lumZ b) + 50) * 100 / (min (lumZ a) (lumZ b) + 50) := by
  have h1 := lumZ_bd a
  have h2 := lumZ_bd b
  rw [conZ, if_pos (by rw [ha, hb]; rfl), floorZ_pos (by omega) (by omega) (by omega) (by omega)]
/-- The contrast of two luminances. -/
theorem con_of {x y : Int} (hx : 0 ≤ x ∧ x ≤ 1000) (hy : 0 ≤ y ∧ y ≤ 1000) (h : x ≤ y) : 100 ≤ (y + 50) * 100 / (x + 50) ∧ (y + 50) * 100 / (x + 50) ≤ 2100 := by
  have hp : 0 < x + 50 := by omega
  constructor
  · rw [Int.le_ediv_iff_mul_le hp]; omega
  · have : (y + 50) * 100 / (x + 50) < 2101 := by
      rw [Int.ediv_lt_iff_lt_mul hp]; omega
    omega
theorem conZ_bd {a b : Int} (ha : colorZ a = true) (hb : colorZ b = true) : 100 ≤ conZ a b ∧ conZ a b ≤ 2100 := by
  rw [conZ_eq ha hb]
  have h1 := lumZ_bd a
  have h2 := lumZ_bd b
  exact con_of (x := min (lumZ a) (lumZ b)) (y := max (lumZ a) (lumZ b)) (by omega) (by omega) (by omega)
theorem conZ_symm (a b : Int) : conZ a b = conZ b a := by
  unfold conZ
  rw [Bool.and_comm, Int.max_comm, Int.min_comm]
theorem conZ_self {a : Int} (ha : colorZ a = true) : conZ a a = 100 := by
  have h1 := lumZ_bd a
  rw [conZ_eq ha ha, Int.max_self, Int.min_self, Int.mul_comm]
  exact Int.mul_ediv_cancel _ (by omega)
theorem lum_black : lumZ 0 = 0 := by decide
theorem lum_white : lumZ 16777215 = 1000 := by decide
/-- On every background black or white reaches a contrast of 450. -/
theorem black_or_white {b : Int} (hb : colorZ b = true) : 450 ≤ max (conZ 0 b) (conZ 16777215 b) := by
  have h := lumZ_bd b
  rw [conZ_eq (by decide) hb, conZ_eq (by decide) hb, lum_black, lum_white]
  obtain ⟨L, hL⟩ : ∃ L, lumZ b = L := ⟨_, rfl⟩
  rw [hL] at h ⊢
  have e1 : max 0 L = L := by omega
  have e2 : min 0 L = 0 := by omega
  have e3 : max 1000 L = 1000 := by omega
  have e4 : min 1000 L = L := by omega
  rw [e1, e2, e3, e4]
  by_cases c : 175 ≤ L
  · have : 450 ≤ (L + 50) * 100 / (0 + 50) := by omega
    omega
  · have : 450 ≤ (1000 + 50) * 100 / (L + 50) := by
      rw [Int.le_ediv_iff_mul_le (by omega)]; omega
    omega
theorem readZ_color {n b least : Int} (hn : colorZ n = true) : colorZ (readZ n b least) = true := by
  unfold readZ
  split
  · exact hn
  · split <;> decide
theorem readZ_reaches {n b least : Int} (hn : colorZ n = true) (hb : colorZ b = true) (hl : least ≤ 450) : least ≤ conZ (readZ n b least) b := by
  unfold readZ
  rw [hn, hb]
  by_cases c : least ≤ conZ n b
  · rw [if_pos (by simp; exact c)]; exact c
  · rw [if_neg (by simp; omega)]
    have := black_or_white hb
    split <;> omega

theorem scale_in {size scale : Int} (h0 : 50 ≤ scale) (h1 : scale ≤ 400) (h2 : 1 ≤ size) (h3 : size ≤ 1000) : scaleZ size scale 100 = (2 * (size * scale) + 100) / 200 := by
  have hm := mul_bd (a := size) (b := scale) (m := 1000) (k := 400) (by omega) (by omega) h3 h1
  have e : scaleE size scale 100 = 0 := by rw [scaleE, if_neg (by omega)]
  have hok : numOk (size * scale) 100 = true := by simp [numOk]; omega
  rw [scaleZ, if_pos e, roundZ, if_pos hok, if_neg (by omega)]
  omega
/-- A size is from 1 to 1000, and a greater size never becomes smaller. -/
theorem sizeZ_bd (scale size : Int) : 1 ≤ sizeZ scale size ∧ sizeZ scale size ≤ 1000 := by
  unfold sizeZ clampZ
  split
  · omega
  · split <;> omega
theorem clampZ_mono {a b low high : Int} (h : a ≤ b) : clampZ a low high ≤ clampZ b low high := by
  unfold clampZ
  split <;> split <;> (try split) <;> (try split) <;> omega
theorem sizeZ_mono {scale a b : Int} (h : a ≤ b) : sizeZ scale a ≤ sizeZ scale b := by
  by_cases hs : 50 ≤ scale ∧ scale ≤ 400
  · by_cases ha : 1 ≤ a ∧ a ≤ 1000
    · by_cases hb : 1 ≤ b ∧ b ≤ 1000
      · unfold sizeZ
        rw [if_pos ⟨hs.1, hs.2, ha.1, ha.2⟩, if_pos ⟨hs.1, hs.2, hb.1, hb.2⟩, scale_in hs.1 hs.2 ha.1 ha.2, scale_in hs.1 hs.2 hb.1 hb.2]
        have : a * scale ≤ b * scale := Int.mul_le_mul_of_nonneg_right h (by omega)
        exact clampZ_mono (by omega)
      · have hb' : 1000 < b := by omega
        have e : sizeZ scale b = 1000 := by
          unfold sizeZ
          rw [if_neg (by omega)]; unfold clampZ
          rw [if_neg (by omega), if_pos (by omega)]
        rw [e]; exact (sizeZ_bd scale a).2
    · by_cases ha' : a < 1
      · have e : sizeZ scale a = 1 := by
          unfold sizeZ
          rw [if_neg (by omega)]; unfold clampZ
          rw [if_pos (by omega)]
        rw [e]; exact (sizeZ_bd scale b).1
      · have e1 : sizeZ scale a = 1000 := by
          unfold sizeZ
          rw [if_neg (by omega)]; unfold clampZ
          rw [if_neg (by omega), if_pos (by omega)]
        have e2 : sizeZ scale b = 1000 := by
          unfold sizeZ
          rw [if_neg (by omega)]; unfold clampZ
          rw [if_neg (by omega), if_pos (by omega)]
        omega
  · unfold sizeZ
    rw [if_neg (fun z => hs ⟨z.1, z.2.1⟩), if_neg (fun z => hs ⟨z.1, z.2.1⟩)]
    exact clampZ_mono h
end Go.Proofs.Ytcjhefkipghloaa
