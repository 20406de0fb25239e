/-
  Numbers of 128 bits modulo P, plainly: two steps of the school's division.
-/
import Derived.Test.YtkbaganbfcbioaaTagP
namespace Go.Proofs.Ytkbaganbfcbioaa
set_option linter.unusedSimpArgs false
set_option linter.unusedVariables false
open Go.RowKit

/-- P, moved to the left end: y; a number of 96 bits over it: T = N * 2^32 + u. -/
def dY : Nat := 18446744073709551608
theorem dY_eq : dY = 18446744073709551608 := rfl
def dN1 (hi lo : Nat) : Nat := (hi * 8 + lo / 2305843009213693952) * 4294967296 + lo * 8 % 18446744073709551616 / 4294967296
def dN2 (hi lo : Nat) : Nat := dN1 hi lo % dY * 4294967296 + lo * 8 % 18446744073709551616 % 4294967296
theorem div_rem {hi lo : Nat} (hh : hi < bP) (hl : lo < 18446744073709551616) : dN2 hi lo % dY / 8 = (hi * 18446744073709551616 + lo) % bP := by
  have e1 : (hi * 18446744073709551616 + lo) * 8 = dN1 hi lo * 4294967296 + lo * 8 % 18446744073709551616 % 4294967296 := by unfold dN1; omega
  have e2 : dN2 hi lo % dY = (hi * 18446744073709551616 + lo) * 8 % dY := by
    rw [e1]
    unfold dN2
    generalize dN1 hi lo = a
    generalize lo * 8 % 18446744073709551616 % 4294967296 = b
    rw [Nat.add_mod, Nat.mul_mod, Nat.mod_mod, ← Nat.mul_mod, ← Nat.add_mod]
  have e3 : (hi * 18446744073709551616 + lo) * 8 % dY = (hi * 18446744073709551616 + lo) % bP * 8 := by
    rw [Nat.mul_comm _ 8, show dY = 8 * bP from rfl, Nat.mul_mod_mul_left, Nat.mul_comm]
  rw [e2, e3]
  omega
/-- One step: q, r are what is guessed; Q is the quotient. -/
structure Guess (u v q r : Nat) : Prop where
  sum : q * 4294967295 + r = u
  le : (u * 4294967296 + v) / dY ≤ q
  bound : u ≤ 18446744073709551607
  low : v < 4294967296
theorem Guess.start {u v : Nat} (hu : u ≤ 18446744073709551607) (hv : v < 4294967296) : Guess u v (u / 4294967295) (u - u / 4294967295 * 4294967295) ∧ u - u / 4294967295 * 4294967295 < 4294967296 := by
  refine ⟨⟨by omega, ?_, hu, hv⟩, by omega⟩
  simp only [dY_eq]
  omega
set_option maxRecDepth 100000 in
theorem Guess.more {u v q r : Nat} (h : Guess u v q r) (ht : 4294967296 ≤ q ∨ r * 4294967296 + v < q * 4294967288) : 1 ≤ q ∧ Guess u v (q - 1) (r + 4294967295) := by
  obtain ⟨hs, hl, hb, hv⟩ := h
  simp only [dY_eq] at hl
  have h2 : (u * 4294967296 + v) / dY + 1 ≤ q := by
    simp only [dY_eq]
    omega
  simp only [dY_eq] at h2
  have h1 : 1 ≤ q := by omega
  obtain ⟨p, rfl⟩ : ∃ p, q = p + 1 := ⟨q - 1, by omega⟩
  have hs2 : p * 4294967295 + (r + 4294967295) = u := by rw [← hs, Nat.add_mul, Nat.one_mul, Nat.add_assoc, Nat.add_comm r]
  have hl2 : (u * 4294967296 + v) / dY ≤ p := by simp only [dY_eq]; omega
  rw [Nat.add_sub_cancel]
  exact ⟨h1, { sum := hs2, le := hl2, bound := hb, low := hv }⟩
theorem Guess.less {u v q r : Nat} (h : Guess u v q r) (h1 : q < 4294967296) (h2 : q * 4294967288 ≤ r * 4294967296 + v) : q = (u * 4294967296 + v) / dY := by
  obtain ⟨hs, hl, hb, hv⟩ := h
  simp only [dY_eq] at hl ⊢
  omega
theorem Guess.over {u v q r : Nat} (h : Guess u v q r) (h2 : 4294967296 ≤ r) : q = (u * 4294967296 + v) / dY := by
  obtain ⟨hs, hl, hb, hv⟩ := h
  simp only [dY_eq] at hl ⊢
  omega
/-- What is left of a step, by numbers of 64 bits. -/
theorem step_wrap {U V Q : Nat} (h1 : Q * 18446744073709551608 ≤ U * 4294967296 + V) (h2 : U * 4294967296 + V - Q * 18446744073709551608 < 18446744073709551608) :
    IntKind.u64.wrap (IntKind.u64.wrap (IntKind.u64.wrap ((U : Int) * 4294967296) + (V : Int)) - IntKind.u64.wrap ((Q : Int) * 18446744073709551608)) = ((U * 4294967296 + V - Q * 18446744073709551608 : Nat) : Int) := by
  simp only [IntKind.wrap_u64]
  rw [Int.emod_add_emod, ← Int.sub_emod]
  have e : (U : Int) * 4294967296 + (V : Int) - (Q : Int) * 18446744073709551608 = ((U * 4294967296 + V - Q * 18446744073709551608 : Nat) : Int) := by omega
  rw [e]
  generalize U * 4294967296 + V - Q * 18446744073709551608 = X at *
  omega
/-- The quotient of a step. -/
theorem step_quo {U V Q : Nat} (hq : Q = (U * 4294967296 + V) / dY) (hu : U ≤ 18446744073709551607) (hv : V < 4294967296) :
    Q < 4294967296 ∧ Q * 18446744073709551608 ≤ U * 4294967296 + V ∧ (U * 4294967296 + V) % dY = U * 4294967296 + V - Q * 18446744073709551608 ∧ U * 4294967296 + V - Q * 18446744073709551608 < 18446744073709551608 := by
  rw [hq]
  simp only [dY_eq]
  generalize hN : U * 4294967296 + V = N at *
  have hb : N < 18446744073709551608 * 4294967296 := by omega
  refine ⟨?_, ?_, ?_, ?_⟩ <;> omega
end Go.Proofs.Ytkbaganbfcbioaa
