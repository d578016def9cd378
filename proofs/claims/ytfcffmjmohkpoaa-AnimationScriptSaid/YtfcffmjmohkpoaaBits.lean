/- Masks: 'n & (2^i - 1)' of an int is 'n % 2^i'. -/
import Derived.WalkKit
namespace Go.Proofs.Ytfcffmjmohkpoaa
theorem i64_mask (n : Int) (i : Nat) (hi : i ≤ 62) : bits .and .i64 n ((2 ^ i - 1 : Nat) : Int) = n % ((2 ^ i : Nat) : Int) := by
  have hle : 2 ^ i ≤ 2 ^ 62 := Nat.pow_le_pow_right (by decide) hi
  have hpos : 0 < 2 ^ i := Nat.two_pow_pos i
  have hm : (BitVec.ofInt 64 ((2 ^ i - 1 : Nat) : Int)).toNat = 2 ^ i - 1 := by
    rw [BitVec.ofInt_natCast, BitVec.toNat_ofNat, Nat.mod_eq_of_lt (by omega)]
  have key : (BitVec.ofInt 64 n &&& BitVec.ofInt 64 ((2 ^ i - 1 : Nat) : Int)).toNat = (n % ((2 ^ 64 : Nat) : Int)).toNat % 2 ^ i := by
    rw [BitVec.toNat_and, BitVec.toNat_ofInt, hm, Nat.and_two_pow_sub_one_eq_mod]
  show IntKind.i64.wrap ((BitVec.ofInt 64 n &&& BitVec.ofInt 64 ((2 ^ i - 1 : Nat) : Int)).toNat : Nat) = n % ((2 ^ i : Nat) : Int)
  rw [key, IntKind.wrap_i64]
  have h1 : (((n % ((2 ^ 64 : Nat) : Int)).toNat % 2 ^ i : Nat) : Int) = n % ((2 ^ i : Nat) : Int) := by
    rw [Int.natCast_emod, Int.toNat_of_nonneg (Int.emod_nonneg _ (by decide))]
    exact Int.emod_emod_of_dvd n (by exact_mod_cast Nat.pow_dvd_pow 2 (by omega))
  rw [h1]
  have h2 : 0 ≤ n % ((2 ^ i : Nat) : Int) := Int.emod_nonneg _ (by omega)
  have h3 : n % ((2 ^ i : Nat) : Int) < ((2 ^ i : Nat) : Int) := Int.emod_lt_of_pos _ (by omega)
  have h4 : ((2 ^ i : Nat) : Int) ≤ 4611686018427387904 := by
    have : (2 : Nat) ^ 62 = 4611686018427387904 := by decide
    omega
  omega
theorem and_3 (n : Int) : bits .and .i64 n 3 = n % 4 := i64_mask n 2 (by decide)
theorem and_7 (n : Int) : bits .and .i64 n 7 = n % 8 := i64_mask n 3 (by decide)
theorem and_15 (n : Int) : bits .and .i64 n 15 = n % 16 := i64_mask n 4 (by decide)
theorem and_31 (n : Int) : bits .and .i64 n 31 = n % 32 := i64_mask n 5 (by decide)
theorem and_63 (n : Int) : bits .and .i64 n 63 = n % 64 := i64_mask n 6 (by decide)
theorem and_127 (n : Int) : bits .and .i64 n 127 = n % 128 := i64_mask n 7 (by decide)
theorem and_255 (n : Int) : bits .and .i64 n 255 = n % 256 := i64_mask n 8 (by decide)
theorem and_511 (n : Int) : bits .and .i64 n 511 = n % 512 := i64_mask n 9 (by decide)
theorem and_1023 (n : Int) : bits .and .i64 n 1023 = n % 1024 := i64_mask n 10 (by decide)
theorem and_4095 (n : Int) : bits .and .i64 n 4095 = n % 4096 := i64_mask n 12 (by decide)
theorem and_65535 (n : Int) : bits .and .i64 n 65535 = n % 65536 := i64_mask n 16 (by decide)
theorem and_16777215 (n : Int) : bits .and .i64 n 16777215 = n % 16777216 := i64_mask n 24 (by decide)
theorem tmod_range (n m : Int) (hm : 0 < m) : -m < n.tmod m ∧ n.tmod m < m := by
  by_cases h : 0 ≤ n
  · have := Int.tmod_nonneg m h
    have := Int.tmod_lt_of_pos n hm
    omega
  · have e1 := Int.neg_tmod (-n) m
    rw [Int.neg_neg] at e1
    have := Int.tmod_nonneg m (show 0 ≤ -n by omega)
    have := Int.tmod_lt_of_pos (-n) hm
    omega
end Go.Proofs.Ytfcffmjmohkpoaa
