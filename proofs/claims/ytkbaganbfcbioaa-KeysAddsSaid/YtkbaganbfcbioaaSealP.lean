/-
  Keys that may be, and what covers bytes: plainly. No program is named here.
-/
import Derived.Test.YtkbaganbfcbioaaTagP
namespace Go.Proofs.Ytkbaganbfcbioaa
set_option linter.unusedSimpArgs false
set_option linter.unusedVariables false
open Go.RowKit

/-- The counters that were seen, of a top one: the document's words; and a bound. -/
def seenOk (s : Nat) (t : Int) : Prop := s < 4611686018427387904 ∧ ∀ i : Nat, i < 62 → s / 2 ^ i % 2 = 1 → (i : Int) + 1 ≤ t
theorem seen_iff (s : Nat) (t : Int) : seenOk s t ↔ s < 2 ^ (min 62 t.toNat) := by
  constructor
  · rintro ⟨h1, h2⟩
    rcases Nat.lt_or_ge s (2 ^ (min 62 t.toNat)) with h | h
    · exact h
    · exfalso
      have hs : s ≠ 0 := fun e => by
        subst e
        have := Nat.two_pow_pos (min 62 t.toNat)
        omega
      have a1 := Nat.log2_self_le hs
      have a2 := @Nat.lt_log2_self s
      have hb : s.log2 < 62 := by
        rcases Nat.lt_or_ge s.log2 62 with h' | h'
        · exact h'
        · have : 2 ^ 62 ≤ 2 ^ s.log2 := Nat.pow_le_pow_right (by decide) h'
          omega
      have hm : min 62 t.toNat ≤ s.log2 := by
        have : 2 ^ (min 62 t.toNat) < 2 ^ (s.log2 + 1) := Nat.lt_of_le_of_lt h a2
        have := (Nat.pow_lt_pow_iff_right (a := 2) (by decide)).1 this
        omega
      have hd : s / 2 ^ s.log2 = 1 := by
        rw [Nat.pow_succ] at a2
        exact Nat.div_eq_of_lt_le (by omega) (by omega)
      have := h2 s.log2 hb (by rw [hd])
      omega
  · intro h
    refine ⟨Nat.lt_of_lt_of_le h (Nat.pow_le_pow_right (n := 2) (by decide) (Nat.min_le_left 62 _)), fun i hi hbit => ?_⟩
    have h2 : 2 ^ i ≤ s := by
      rcases Nat.lt_or_ge s (2 ^ i) with h' | h'
      · rw [Nat.div_eq_of_lt h'] at hbit
        cases hbit
      · exact h'
    have h3 := (Nat.pow_lt_pow_iff_right (a := 2) (by decide)).1 (Nat.lt_of_le_of_lt h2 h)
    omega
/-- How many bits a number has. -/
def lenB (n : Nat) : Nat := if n = 0 then 0 else n.log2 + 1
theorem lenB_le {n m : Nat} : lenB n ≤ m ↔ n < 2 ^ m := by
  unfold lenB
  split
  · rename_i h
    subst h
    exact ⟨fun _ => Nat.two_pow_pos m, fun _ => Nat.zero_le _⟩
  · rename_i h
    have a1 := Nat.log2_self_le h
    have a2 := @Nat.lt_log2_self n
    constructor
    · intro hl
      exact Nat.lt_of_lt_of_le a2 (Nat.pow_le_pow_right (by decide) hl)
    · intro hn
      have := (Nat.pow_lt_pow_iff_right (a := 2) (by decide)).1 (Nat.lt_of_le_of_lt a1 hn)
      omega
theorem lenB_div {n k : Nat} (h : 2 ^ k ≤ n) : lenB n = k + lenB (n / 2 ^ k) := by
  refine Nat.le_antisymm ?_ ?_
  · rw [lenB_le, Nat.pow_add]
    have : n / 2 ^ k < 2 ^ lenB (n / 2 ^ k) := lenB_le.1 (Nat.le_refl _)
    exact (Nat.div_lt_iff_lt_mul (Nat.two_pow_pos k)).1 this |> fun h => by rwa [Nat.mul_comm] at h
  · have hk : k ≤ lenB n := by
      have h1 : n < 2 ^ lenB n := lenB_le.1 (Nat.le_refl _)
      have := (Nat.pow_lt_pow_iff_right (a := 2) (by decide)).1 (Nat.lt_of_le_of_lt h h1)
      omega
    have h2 : lenB (n / 2 ^ k) ≤ lenB n - k := by
      rw [lenB_le, Nat.div_lt_iff_lt_mul (Nat.two_pow_pos k), ← Nat.pow_add, Nat.sub_add_cancel hk]
      exact lenB_le.1 (Nat.le_refl _)
    omega
/-- Bytes under the blocks from index 1 on. -/
def coverTo (words : List Nat) (counter : Nat) (b : List UInt8) (i : Nat) : List UInt8 := (List.range i).map fun j => b.getD j 0 ^^^ (padL words counter (1 + j / 64)).getD (j % 64) 0
theorem coverTo_succ (words : List Nat) (counter : Nat) (b : List UInt8) (i : Nat) : coverTo words counter b (i + 1) = coverTo words counter b i ++ [b.getD i 0 ^^^ (padL words counter (1 + i / 64)).getD (i % 64) 0] := by simp [coverTo, List.range_succ]
theorem coverTo_len (words : List Nat) (counter : Nat) (b : List UInt8) (i : Nat) : (coverTo words counter b i).length = i := by simp [coverTo]
end Go.Proofs.Ytkbaganbfcbioaa
