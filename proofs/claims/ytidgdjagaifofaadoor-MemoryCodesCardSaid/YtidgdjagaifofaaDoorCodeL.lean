/-
  The lowest one of a number taken away: the places of ones, one by one. Plainly.
-/
import Derived.Test.YtidgdjagaifofaaDoorCodeP
import Derived.Lib.TrailingZeros
namespace Go.Proofs.YtidgdjagaifofaaDoor
set_option linter.unusedSimpArgs false
set_option linter.unusedVariables false

theorem low_clear (q m : Nat) : (2 ^ q * (2 * m + 1)) &&& (2 ^ q * (2 * m + 1) - 1) = 2 ^ (q + 1) * m := by
  have hp := Nat.two_pow_pos q
  have e : 2 ^ q * (2 * m + 1) - 1 = 2 ^ q * (2 * m) + (2 ^ q - 1) := by rw [Nat.mul_add, Nat.mul_one]; omega
  rw [e]
  apply Nat.eq_of_testBit_eq
  intro i
  rw [Nat.testBit_and, Nat.testBit_two_pow_mul_add _ (by omega), Nat.testBit_two_pow_mul, Nat.testBit_two_pow_mul]
  by_cases h : i < q
  · have h1 : ¬ i ≥ q := by omega
    have h2 : ¬ i ≥ q + 1 := by omega
    simp [h1, h2]
  · rw [if_neg h]
    have h1 : i ≥ q := by omega
    by_cases h2 : i = q
    · subst h2
      have h3 : ¬ i ≥ i + 1 := by omega
      simp [h3]
    · obtain ⟨j, rfl⟩ : ∃ j, i = q + (j + 1) := ⟨i - q - 1, by omega⟩
      have h3 : q + (j + 1) ≥ q + 1 := by omega
      have e1 : q + (j + 1) - q = j + 1 := by omega
      have e2 : q + (j + 1) - (q + 1) = j := by omega
      rw [e1, e2, Nat.testBit_succ, Nat.testBit_succ, show (2 * m + 1) / 2 = m from by omega, show 2 * m / 2 = m from by omega]
      simp [h3, h1]
/-- A number without its bits below a place. -/
def clrTo (c t : Nat) : Nat := c / 2 ^ t * 2 ^ t
theorem clrTo_zero (c : Nat) : clrTo c 0 = c := by simp [clrTo]
theorem clr_div {c t r : Nat} (h : t ≤ r) : c / 2 ^ r = clrTo c t / 2 ^ r := by
  unfold clrTo
  obtain ⟨d, rfl⟩ : ∃ d, r = t + d := ⟨r - t, by omega⟩
  rw [Nat.pow_add, ← Nat.div_div_eq_div_mul, ← Nat.div_div_eq_div_mul, Nat.mul_div_cancel _ (Nat.two_pow_pos t)]
theorem clr_low {c t q m : Nat} (h : clrTo c t = 2 ^ q * (2 * m + 1)) : t ≤ q := by
  rcases Nat.lt_or_ge q t with h1 | h1
  · exfalso
    obtain ⟨d, rfl⟩ : ∃ d, t = q + (d + 1) := ⟨t - q - 1, by omega⟩
    unfold clrTo at h
    generalize c / 2 ^ (q + (d + 1)) = y at h
    rw [Nat.pow_add, ← Nat.mul_assoc, Nat.mul_comm y, Nat.mul_assoc] at h
    have := Nat.eq_of_mul_eq_mul_left (Nat.two_pow_pos q) h
    rw [Nat.pow_succ, ← Nat.mul_assoc] at this
    omega
  · exact h1
theorem clr_step {c t q m : Nat} (h : clrTo c t = 2 ^ q * (2 * m + 1)) :
    onesTo c (q + 1) = ((onesTo c t).1 + 1, (onesTo c t).2 ^^^ q) ∧ clrTo c (q + 1) = 2 ^ (q + 1) * m ∧ 2 ^ q ≤ c := by
  have htq := clr_low h
  have hq : c / 2 ^ q = 2 * m + 1 := by rw [clr_div htq, h, Nat.mul_div_cancel_left _ (Nat.two_pow_pos q)]
  have hz : ∀ r, t ≤ r → r < q → c.testBit r = false := by
    intro r h1 h2
    rw [Nat.testBit_eq_decide_div_mod_eq, clr_div h1, h]
    obtain ⟨d, rfl⟩ : ∃ d, q = r + (d + 1) := ⟨q - r - 1, by omega⟩
    rw [Nat.pow_add, Nat.mul_assoc, Nat.mul_div_cancel_left _ (Nat.two_pow_pos r), Nat.pow_succ, Nat.mul_comm (2 ^ d) 2, Nat.mul_assoc]
    simp
  refine ⟨?_, ?_, ?_⟩
  · have e := onesTo_skip htq hz
    conv => lhs; unfold onesTo
    rw [if_pos (by rw [hq]; omega), e]
  · unfold clrTo
    rw [Nat.pow_succ, ← Nat.div_div_eq_div_mul, hq, show (2 * m + 1) / 2 = m from by omega, Nat.mul_comm]
  · rcases Nat.lt_or_ge c (2 ^ q) with h1 | h1
    · rw [Nat.div_eq_of_lt h1] at hq
      omega
    · exact h1
theorem clr_end {c t : Nat} (h : clrTo c t = 0) (ht : t ≤ 39) : onesTo c 39 = onesTo c t := by
  refine onesTo_skip ht (fun r h1 h2 => ?_)
  rw [Nat.testBit_eq_decide_div_mod_eq, clr_div h1, h]
  simp
/-- The lowest one: where it is, and what is left. -/
theorem clr_next {c t : Nat} (hc : c < 549755813888) (hx : clrTo c t ≠ 0) : Lib.ctz 64 (clrTo c t) < 39 ∧ onesTo c (Lib.ctz 64 (clrTo c t) + 1) = ((onesTo c t).1 + 1, (onesTo c t).2 ^^^ Lib.ctz 64 (clrTo c t)) ∧
    clrTo c t &&& (clrTo c t - 1) = clrTo c (Lib.ctz 64 (clrTo c t) + 1) ∧ clrTo c (Lib.ctz 64 (clrTo c t) + 1) < clrTo c t := by
  have hle : clrTo c t ≤ c := Nat.div_mul_le_self c (2 ^ t)
  obtain ⟨m, hm, hk⟩ := Lib.ctzFrom_spec 64 (clrTo c t) (by omega) (by omega)
  have e : Lib.ctz 64 (clrTo c t) = Lib.ctzFrom 64 (clrTo c t) := by simp [Lib.ctz, hx]
  rw [← e] at hm hk
  generalize Lib.ctz 64 (clrTo c t) = q at *
  obtain ⟨h1, h2, h3⟩ := clr_step hm
  refine ⟨?_, h1, ?_, ?_⟩
  · rcases Nat.lt_or_ge q 39 with h | h
    · exact h
    · have : 2 ^ 39 ≤ 2 ^ q := Nat.pow_le_pow_right (by decide) h
      have e39 : (2 : Nat) ^ 39 = 549755813888 := by decide
      omega
  · rw [h2, hm, low_clear]
  · rw [h2, hm, Nat.pow_succ, Nat.mul_assoc, Nat.mul_add, Nat.mul_one]
    have := Nat.two_pow_pos q
    omega
theorem clr_le (c t : Nat) : clrTo c t ≤ c := Nat.div_mul_le_self c (2 ^ t)
end Go.Proofs.YtidgdjagaifofaaDoor
