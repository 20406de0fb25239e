/-
  A word's code, and what mends it, plainly. No program is named here.
-/
import Derived.Test.YtidgdjagaifofaaDoorBase
namespace Go.Proofs.YtidgdjagaifofaaDoor
set_option linter.unusedSimpArgs false
set_option linter.unusedVariables false

/-- Has a place a bit of the word? -/
def freeB (p : Nat) : Bool := (p &&& (p - 1)) != 0
/-- The code and what is left of the word, behind so many places. -/
def codeTo (n : Nat) : Nat → Nat × Nat
  | 0 => (0, n)
  | p + 1 => if freeB p then ((codeTo n p).1 ||| (codeTo n p).2 % 2 * 2 ^ p, (codeTo n p).2 / 2) else codeTo n p
theorem bit_lt (x p : Nat) : x % 2 * 2 ^ p < 2 ^ (p + 1) := by
  rw [Nat.pow_succ, Nat.mul_comm (2 ^ p) 2]
  exact Nat.mul_lt_mul_of_pos_right (Nat.mod_lt _ (by decide)) (Nat.two_pow_pos p)
theorem codeTo_lt (n : Nat) : ∀ p, (codeTo n p).1 < 2 ^ p
  | 0 => by simp [codeTo]
  | p + 1 => by
    have ih := codeTo_lt n p
    unfold codeTo
    split
    · refine Nat.or_lt_two_pow (Nat.lt_trans ih ?_) (bit_lt _ _)
      exact Nat.pow_lt_pow_right (by decide) (by omega)
    · exact Nat.lt_trans ih (Nat.pow_lt_pow_right (by decide) (by omega))
theorem codeTo_rest (n : Nat) : ∀ p, (codeTo n p).2 ≤ n
  | 0 => Nat.le_refl _
  | p + 1 => by
    have ih := codeTo_rest n p
    unfold codeTo
    split
    · exact Nat.le_trans (Nat.div_le_self _ _) ih
    · exact ih
theorem testBit_one (b j : Nat) : (b % 2).testBit j = (decide (j = 0) && decide (b % 2 = 1)) := by
  have h : b % 2 = 0 ∨ b % 2 = 1 := by omega
  rcases h with h | h <;> rw [h]
  · simp
  · cases j <;> simp [Nat.testBit_succ]
theorem codeTo_bit (n : Nat) {q : Nat} (hq : freeB q = false) : ∀ p, (codeTo n p).1.testBit q = false
  | 0 => by simp [codeTo]
  | p + 1 => by
    have ih := codeTo_bit n hq p
    unfold codeTo
    split
    · rename_i hp
      simp only [Nat.testBit_or, ih, Bool.false_or, Nat.testBit_mul_two_pow, testBit_one]
      by_cases h1 : p ≤ q
      · by_cases h2 : q - p = 0
        · obtain rfl : q = p := by omega
          rw [hp] at hq
          cases hq
        · simp [h1, h2]
      · simp [h1]
    · exact ih
/-- How many of the bits below a place are 1, and their places, added up by bits. -/
def onesTo (c : Nat) : Nat → Nat × Nat
  | 0 => (0, 0)
  | p + 1 => if c / 2 ^ p % 2 = 1 then ((onesTo c p).1 + 1, (onesTo c p).2 ^^^ p) else onesTo c p
theorem onesTo_le (c : Nat) : ∀ p, (onesTo c p).1 ≤ p
  | 0 => Nat.le_refl _
  | p + 1 => by
    have ih := onesTo_le c p
    unfold onesTo
    split
    · exact Nat.succ_le_succ ih
    · omega
theorem onesTo_lt (c : Nat) : ∀ p, p ≤ 64 → (onesTo c p).2 < 64
  | 0, _ => by show 0 < 64; decide
  | p + 1, h => by
    have ih := onesTo_lt c p (by omega)
    unfold onesTo
    split
    · exact Nat.xor_lt_two_pow (n := 6) ih (by omega)
    · exact ih
theorem div_bit (c p : Nat) : (c / 2 ^ p % 2 = 1) = (c.testBit p = true) := by
  rw [Nat.testBit_eq_decide_div_mod_eq]
  simp
theorem onesTo_congr {c d : Nat} : ∀ p, (∀ q, q < p → c.testBit q = d.testBit q) → onesTo c p = onesTo d p
  | 0, _ => rfl
  | p + 1, h => by
    have ih := onesTo_congr p (fun q hq => h q (by omega))
    have e := h p (by omega)
    unfold onesTo
    simp only [div_bit, e, ih]
theorem onesTo_or {d q : Nat} (hd : d.testBit q = false) : ∀ p, q < p → (onesTo (d ||| 2 ^ q) p).1 = (onesTo d p).1 + 1
  | 0, h => by omega
  | p + 1, h => by
    by_cases e : q = p
    · subst e
      have hc : onesTo (d ||| 2 ^ q) q = onesTo d q := onesTo_congr q (fun r hr => by
        rw [Nat.testBit_or, Nat.testBit_two_pow]
        simp
        omega)
      unfold onesTo
      simp only [div_bit, Nat.testBit_or, Nat.testBit_two_pow, hd, hc]
      simp
    · have ih := onesTo_or hd p (by omega)
      have e2 : (d ||| 2 ^ q).testBit p = d.testBit p := by
        rw [Nat.testBit_or, Nat.testBit_two_pow]
        simp
        omega
      unfold onesTo
      simp only [div_bit, e2]
      split
      · simp only [ih]
      · exact ih
/-- The bits that mend, of a sum of places, set one behind the other. -/
def fixTo (c w : Nat) : Nat → Nat
  | 0 => c
  | i + 1 => if w / 2 ^ i % 2 = 1 then fixTo c w i ||| 2 ^ 2 ^ i else fixTo c w i
theorem fixTo_lt {c w : Nat} (hc : c < 2 ^ 39) : ∀ i, i ≤ 6 → fixTo c w i < 2 ^ 39
  | 0, _ => hc
  | i + 1, h => by
    have ih := fixTo_lt (w := w) hc i (by omega)
    unfold fixTo
    split
    · refine Nat.or_lt_two_pow ih ?_
      refine Nat.pow_lt_pow_right (by decide) ?_
      have : 2 ^ i ≤ 2 ^ 5 := Nat.pow_le_pow_right (by decide) (by omega)
      omega
    · exact ih
theorem fixTo_bit {c w q : Nat} (hc : c.testBit q = false) : ∀ i, (∀ j, j < i → 2 ^ j ≠ q) → (fixTo c w i).testBit q = false
  | 0, _ => hc
  | i + 1, h => by
    have ih := fixTo_bit (w := w) hc i (fun j hj => h j (by omega))
    unfold fixTo
    split
    · rw [Nat.testBit_or, ih, Nat.testBit_two_pow]
      simp
      exact h i (by omega)
    · exact ih
/-- Is the number of ones even, so far? -/
def evenTo (c w : Nat) : Nat → Bool
  | 0 => decide ((onesTo c 39).1 % 2 = 0)
  | i + 1 => if w / 2 ^ i % 2 = 1 then !evenTo c w i else evenTo c w i
theorem pow_inj {i j : Nat} (h : 2 ^ i = 2 ^ j) : i = j := by
  rcases Nat.lt_trichotomy i j with h1 | h1 | h1
  · have := Nat.pow_lt_pow_right (a := 2) (by decide) h1
    omega
  · exact h1
  · have := Nat.pow_lt_pow_right (a := 2) (by decide) h1
    omega
theorem evenTo_eq {c w : Nat} (hc : ∀ i, c.testBit (2 ^ i) = false) : ∀ i, i ≤ 6 → evenTo c w i = decide ((onesTo (fixTo c w i) 39).1 % 2 = 0)
  | 0, _ => rfl
  | i + 1, h => by
    have ih := evenTo_eq (w := w) hc i (by omega)
    unfold evenTo fixTo
    split
    · have h1 : 2 ^ i ≤ 2 ^ 5 := Nat.pow_le_pow_right (by decide) (by omega)
      rw [onesTo_or (fixTo_bit (hc i) i (fun j hj e => by have := pow_inj e; omega)) 39 (by omega), ih]
      rw [Bool.eq_iff_iff]
      simp
      omega
    · exact ih
theorem free_pow : ∀ i, freeB (2 ^ i) = false := by
  intro i
  unfold freeB
  have : 2 ^ i &&& (2 ^ i - 1) = 0 := by
    apply Nat.eq_of_testBit_eq
    intro j
    rw [Nat.testBit_and, Nat.testBit_two_pow, Nat.testBit_two_pow_sub_one]
    simp
    omega
  rw [this]
  rfl
/-- A word's code. -/
def codeW (n : Nat) : Nat := fixTo (codeTo n 39).1 (onesTo (codeTo n 39).1 39).2 6 ||| (onesTo (fixTo (codeTo n 39).1 (onesTo (codeTo n 39).1 39).2 6) 39).1 % 2
def codeOf (n : Int) : Int × Int := if n < 0 ∨ 4294967295 < n then (0, 2) else ((codeW n.toNat : Nat), 0)
theorem codeW_prog (n : Nat) : codeW n = if evenTo (codeTo n 39).1 (onesTo (codeTo n 39).1 39).2 6 then fixTo (codeTo n 39).1 (onesTo (codeTo n 39).1 39).2 6 else fixTo (codeTo n 39).1 (onesTo (codeTo n 39).1 39).2 6 ||| 1 := by
  rw [evenTo_eq (fun i => codeTo_bit n (free_pow i) 39) 6 (Nat.le_refl _)]
  unfold codeW
  generalize fixTo (codeTo n 39).1 (onesTo (codeTo n 39).1 39).2 6 = d
  by_cases h : (onesTo d 39).1 % 2 = 0
  · rw [if_pos (by simpa using h), h, Nat.or_zero]
  · rw [if_neg (by simpa using h), show (onesTo d 39).1 % 2 = 1 from by omega]
/-- The word out of a code, and how many of its bits are there, behind so many places. -/
def exTo (c : Nat) : Nat → Nat × Nat
  | 0 => (0, 0)
  | p + 1 => if freeB p then ((exTo c p).1 ||| c / 2 ^ p % 2 * 2 ^ (exTo c p).2, (exTo c p).2 + 1) else exTo c p
theorem exTo_le (c : Nat) : ∀ p, (exTo c p).2 ≤ p
  | 0 => Nat.le_refl _
  | p + 1 => by
    have ih := exTo_le c p
    unfold exTo
    split
    · exact Nat.succ_le_succ ih
    · omega
theorem exTo_lt (c : Nat) : ∀ p, (exTo c p).1 < 2 ^ (exTo c p).2
  | 0 => by simp [exTo]
  | p + 1 => by
    have ih := exTo_lt c p
    unfold exTo
    split
    · exact Nat.or_lt_two_pow (Nat.lt_trans ih (Nat.pow_lt_pow_right (by decide) (by omega))) (bit_lt _ _)
    · exact ih
/-- The word of a code; was it mended; the error. -/
def mendW (c : Nat) : Nat × Bool × Int :=
  if (onesTo c 39).1 % 2 = 1 ∧ (onesTo c 39).2 < 39 then ((exTo (c ^^^ 2 ^ (onesTo c 39).2) 39).1, true, 0)
  else if (onesTo c 39).1 % 2 = 1 ∨ (onesTo c 39).2 ≠ 0 then (0, false, 18) else ((exTo c 39).1, false, 0)
def mendOf (c : Int) : Int × Bool × Int := if c < 0 ∨ 549755813888 ≤ c then (0, false, 2) else (((mendW c.toNat).1 : Nat), (mendW c.toNat).2.1, (mendW c.toNat).2.2)
/-! ### the places of ones, the lowest first -/
theorem onesTo_skip {c : Nat} : ∀ {p t : Nat}, p ≤ t → (∀ q, p ≤ q → q < t → c.testBit q = false) → onesTo c t = onesTo c p
  | p, 0, h, _ => by rw [Nat.le_zero.1 h]
  | p, t + 1, h, hz => by
    by_cases e : p = t + 1
    · rw [e]
    · have ih := onesTo_skip (c := c) (p := p) (t := t) (by omega) (fun q h1 h2 => hz q h1 (by omega))
      rw [← ih]
      have hb := hz t (by omega) (by omega)
      conv => lhs; unfold onesTo
      rw [if_neg (by rw [div_bit, hb]; simp)]
end Go.Proofs.YtidgdjagaifofaaDoor
