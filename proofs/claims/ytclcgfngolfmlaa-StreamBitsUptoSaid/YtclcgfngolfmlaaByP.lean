/-
  Bytes of bits, plainly. No program is named here.
-/
import Derived.Test.YtclcgfngolfmlaaScrP
namespace Go.Proofs.Ytclcgfngolfmlaa
set_option linter.unusedSimpArgs false
set_option linter.unusedVariables false
open Go.RowKit

/-- Group k's number when j of its bits are in. -/
def xn (l : List UInt8) (k : Nat) : Nat → Nat
  | 0 => 0
  | j + 1 => 2 * xn l k j + (l.getD (8 * k + j) 0).toNat
/-- The first i are bits. -/
def Good (l : List UInt8) (i : Nat) : Prop := ∀ t, t < i → (l.getD t 0).toNat ≤ 1
theorem xn_lt {l : List UInt8} {k : Nat} : ∀ j, Good l (8 * k + j) → xn l k j < 2 ^ j
  | 0, _ => by show 0 < 1; omega
  | j + 1, h => by
    have ih := xn_lt (l := l) (k := k) j (fun t ht => h t (by omega))
    have hb := h (8 * k + j) (by omega)
    show 2 * xn l k j + _ < 2 ^ (j + 1)
    rw [Nat.pow_succ]
    omega
def byteK (l : List UInt8) (k : Nat) : UInt8 := UInt8.ofNat (xn l k 8)
def packB (l : List UInt8) (m : Nat) : List UInt8 := (List.range m).map (byteK l)
theorem packB_len (l : List UInt8) (m : Nat) : (packB l m).length = m := by simp [packB]
theorem packB_next (l : List UInt8) (m : Nat) : packB l (m + 1) = packB l m ++ [byteK l m] := by simp [packB, List.range_succ]
/-- What the document's list holds when i bits are in. -/
def refA (l : List UInt8) (i m : Nat) : UInt8 := if m < i / 8 then byteK l m else if m = i / 8 then UInt8.ofNat (xn l m (i % 8) * 2 ^ (8 - i % 8)) else 0
def refB (l : List UInt8) (N i : Nat) : List UInt8 := (List.range N).map (refA l i)
theorem refB_len (l : List UInt8) (N i : Nat) : (refB l N i).length = N := by simp [refB]
theorem refB_get (l : List UInt8) {N i m : Nat} (h : m < N) : (refB l N i).getD m 0 = refA l i m := by simp [refB, List.getD, h]
theorem refB_zero (l : List UInt8) (N : Nat) : refB l N 0 = List.replicate N 0 := by
  apply List.ext_getElem
  · simp [refB]
  · intro i h1 h2
    simp [refB, refA, xn]
theorem refB_all {l : List UInt8} {N : Nat} : refB l N (8 * N) = packB l N := by
  apply List.ext_getElem
  · simp [refB, packB]
  · intro i h1 h2
    have hi : i < N := by simpa [refB] using h1
    simp only [refB, packB, List.getElem_map, List.getElem_range]
    unfold refA
    rw [if_pos (by omega)]
theorem or_step : (List.range 8).all (fun j => (List.range 128).all fun x => (List.range 2).all fun b => !(decide (x < 2 ^ j)) || (UInt8.ofNat (x * 2 ^ (8 - j)) ||| UInt8.ofNat (b * 2 ^ (7 - j)) == UInt8.ofNat ((2 * x + b) * 2 ^ (7 - j)))) = true := by decide +kernel
theorem or_at {j x b : Nat} (hj : j < 8) (hx : x < 2 ^ j) (hb : b ≤ 1) : UInt8.ofNat (x * 2 ^ (8 - j)) ||| UInt8.ofNat (b * 2 ^ (7 - j)) = UInt8.ofNat ((2 * x + b) * 2 ^ (7 - j)) := by
  have h := or_step
  rw [List.all_eq_true] at h
  have h1 := h j (List.mem_range.2 hj)
  rw [List.all_eq_true] at h1
  have hp : 2 ^ j ≤ 2 ^ 7 := Nat.pow_le_pow_right (by omega) (by omega)
  have h2 := h1 x (List.mem_range.2 (by omega))
  rw [List.all_eq_true] at h2
  have h3 := h2 b (List.mem_range.2 (by omega))
  simp only [hx, decide_true, Bool.not_true, Bool.false_or] at h3
  exact eq_of_beq h3
theorem refB_next {l : List UInt8} {N i : Nat} (hg : Good l (i + 1)) (hi : i < 8 * N) : refB l N (i + 1) = (refB l N i).set (i / 8) ((refB l N i).getD (i / 8) 0 ||| UInt8.ofNat ((l.getD i 0).toNat * 2 ^ (7 - i % 8))) := by
  have hb := hg i (by omega)
  have hx := xn_lt (l := l) (k := i / 8) (i % 8) (fun t ht => hg t (by omega))
  have ho := or_at (show i % 8 < 8 by omega) hx hb
  have hxs : xn l (i / 8) (i % 8 + 1) = 2 * xn l (i / 8) (i % 8) + (l.getD i 0).toNat := by
    show 2 * xn l (i / 8) (i % 8) + (l.getD (8 * (i / 8) + i % 8) 0).toNat = _
    rw [show 8 * (i / 8) + i % 8 = i from by omega]
  have hget : (refB l N i).getD (i / 8) 0 = refA l i (i / 8) := refB_get l (by omega)
  rw [hget]
  apply List.ext_getElem
  · simp [refB]
  · intro m h1 h2
    have hm : m < N := by simpa [refB] using h1
    rw [List.getElem_set]
    have e1 : (refB l N (i + 1))[m]'h1 = refA l (i + 1) m := by simp [refB]
    have e2 : ∀ h, (refB l N i)[m]'h = refA l i m := fun h => by simp [refB]
    rw [e1, e2]
    by_cases e : i / 8 = m
    · rw [if_pos e]
      subst e
      have hself : refA l i (i / 8) = UInt8.ofNat (xn l (i / 8) (i % 8) * 2 ^ (8 - i % 8)) := by unfold refA; rw [if_neg (by omega), if_pos rfl]
      rw [hself, ho, ← hxs]
      unfold refA
      by_cases h7 : i % 8 = 7
      · rw [if_pos (by omega), h7]
        show _ = UInt8.ofNat (xn l (i / 8) 8 * 2 ^ 0)
        rw [Nat.pow_zero, Nat.mul_one]
        rfl
      · rw [if_neg (by omega), if_pos (by omega), show (i + 1) % 8 = i % 8 + 1 from by omega, show 8 - (i % 8 + 1) = 7 - i % 8 from by omega]
    · rw [if_neg e]
      unfold refA
      by_cases h3 : m < i / 8
      · rw [if_pos (by omega), if_pos h3]
      · have c2 : ¬ m < (i + 1) / 8 := by omega
        have c3 : ¬ m = i / 8 := fun h => e h.symm
        rw [if_neg c2, if_neg h3, if_neg c3]
        by_cases h4 : m = (i + 1) / 8
        · rw [if_pos h4, show (i + 1) % 8 = 0 from by omega]
          show UInt8.ofNat (0 * 2 ^ 8) = 0
          rw [Nat.zero_mul]
          rfl
        · rw [if_neg h4]
def bytesF (l : List UInt8) : List UInt8 × Int := if l.length % 8 ≠ 0 then ([], 1) else if l.all (fun x => x.toNat ≤ 1) then (packB l (l.length / 8), 0) else ([], 2)
theorem bytesF_size {l : List UInt8} (h : l.length % 8 ≠ 0) : bytesF l = ([], 1) := if_pos h
theorem bytesF_good {l : List UInt8} {n : Nat} (h : l.length = n) (h8 : n % 8 = 0) (hg : Good l n) : bytesF l = (packB l (n / 8), 0) := by
  unfold bytesF
  rw [if_neg (by rw [h]; omega), if_pos, h]
  rw [List.all_eq_true]
  intro x hx
  obtain ⟨i, hi, rfl⟩ := List.getElem_of_mem hx
  have := hg i (by omega)
  rw [List.getD, List.getElem?_eq_getElem hi] at this
  simpa using this
theorem bytesF_bad {l : List UInt8} {n i : Nat} (h : l.length = n) (h8 : n % 8 = 0) (hi : i < n) (hb : ¬ (l.getD i 0).toNat ≤ 1) : bytesF l = ([], 2) := by
  unfold bytesF
  rw [if_neg (by rw [h]; omega), if_neg]
  intro hall
  rw [List.all_eq_true] at hall
  have := hall (l[i]'(by omega)) (List.getElem_mem _)
  rw [List.getD, List.getElem?_eq_getElem (by omega)] at hb
  exact hb (by simpa using this)
theorem Good.next {l : List UInt8} {i : Nat} (h : Good l i) (hb : (l.getD i 0).toNat ≤ 1) : Good l (i + 1) := fun t ht => by
  by_cases e : t = i
  · rw [e]; exact hb
  · exact h t (by omega)
theorem bytesF_len (l : List UInt8) : (bytesF l).1.length ≤ l.length := by
  unfold bytesF
  split
  · simp
  · split
    · show (packB l _).length ≤ _
      rw [packB_len]
      omega
    · simp
end Go.Proofs.Ytclcgfngolfmlaa
