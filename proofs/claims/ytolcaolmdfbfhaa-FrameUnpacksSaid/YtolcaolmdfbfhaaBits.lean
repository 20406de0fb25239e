/-
  Masks, plainly. No program is named here.
-/
import Derived.Test.YtolcaolmdfbfhaaBase
namespace Go.Proofs.Ytolcaolmdfbfhaa
set_option linter.unusedSimpArgs false
set_option linter.unusedVariables false
open Go.RowKit

/-- The upper m bits of a number of k + m bits. -/
theorem hi_mask (a k m : Nat) (h : a < 2 ^ (k + m)) : a &&& ((2 ^ m - 1) <<< k) = a / 2 ^ k * 2 ^ k := by
  rw [← Nat.shiftRight_eq_div_pow, ← Nat.shiftLeft_eq]
  apply Nat.eq_of_testBit_eq
  intro i
  rw [Nat.testBit_and, Nat.testBit_shiftLeft, Nat.testBit_shiftLeft, Nat.testBit_shiftRight, Nat.testBit_two_pow_sub_one]
  by_cases hi : i ≥ k
  · rw [show k + (i - k) = i from by omega]
    by_cases hm : i - k < m
    · simp [hi, hm]
    · have : a.testBit i = false := Nat.testBit_lt_two_pow (Nat.lt_of_lt_of_le h (Nat.pow_le_pow_right (by omega) (by omega)))
      simp [this]
  · simp [hi]

theorem i64_andNot_nat (a b : Nat) (ha : a < 9223372036854775808) (hb : b < 9223372036854775808) : bits .andNot .i64 (a : Int) (b : Int) = ((a &&& (18446744073709551615 - b) : Nat) : Int) := by
  have hx : a &&& (18446744073709551615 - b) ≤ a := Nat.and_le_left
  show IntKind.i64.wrap ((BitVec.ofInt 64 (a : Int) &&& ~~~BitVec.ofInt 64 (b : Int)).toNat : Int) = _
  rw [BitVec.toNat_and, BitVec.toNat_not, ofInt_i64 a ha, ofInt_i64 b hb, IntKind.wrap_i64]
  have e : 2 ^ 64 - 1 - b = 18446744073709551615 - b := by omega
  rw [e]
  omega
/-- What is left of a status without the bits that tell something. -/
theorem status_rest {n : Nat} (h : n < 4294967296) : bits .andNot .i64 (n : Int) 16127 = ((n / 16384 * 16384 + n / 256 % 2 * 256 : Nat) : Int) := by
  have e := i64_andNot_nat n 16127 (by omega) (by omega)
  have hM : (18446744073709551615 - 16127 : Nat) = ((2 ^ 50 - 1) <<< 14) ||| 2 ^ 8 := by decide
  have h1 := hi_mask n 14 50 (Nat.lt_of_lt_of_le h (by decide))
  have h2 := nat_bit 8 n
  rw [hM, Nat.and_or_distrib_left, h1, h2, show (2 : Nat) ^ 14 = 16384 from by decide, show (2 : Nat) ^ 8 = 256 from by decide] at e
  rw [nat_join 14 _ _ (by omega) (by omega)] at e
  exact e
end Go.Proofs.Ytolcaolmdfbfhaa
