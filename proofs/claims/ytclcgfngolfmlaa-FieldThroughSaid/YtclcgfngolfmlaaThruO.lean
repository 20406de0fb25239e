/-
  The program's Through: what is nought at all other points (plain).
-/
import Derived.Test.YtclcgfngolfmlaaThruS
namespace Go.Proofs.Ytclcgfngolfmlaa
set_option linter.unusedSimpArgs false
set_option linter.unusedVariables false
open Go.RowKit

def onN (all : List UInt8) (x : UInt8) (n m : Nat) : List UInt8 := (List.range n).map fun j => if n - m ≤ j then ev x (all.drop (j + 1)) else 0
theorem onN_len (all : List UInt8) (x : UInt8) (n m : Nat) : (onN all x n m).length = n := by simp [onN]
theorem onN_get (all : List UInt8) (x : UInt8) {n : Nat} (m : Nat) {j : Nat} (h : j < n) : (onN all x n m).getD j 0 = if n - m ≤ j then ev x (all.drop (j + 1)) else 0 := by simp [onN, List.getD, h]
theorem onN_zero (all : List UInt8) (x : UInt8) (n : Nat) : onN all x n 0 = List.replicate n 0 := by
  refine ext_getD (by simp [onN]) fun j hj => ?_
  rw [onN_len] at hj
  rw [onN_get _ _ _ hj, getD_zeros, if_neg (by omega)]
theorem onN_next (all : List UInt8) (x : UInt8) {n m : Nat} (h : m < n) : onN all x n (m + 1) = (onN all x n m).set (n - 1 - m) (ev x (all.drop (n - m))) := by
  refine ext_getD (by simp [onN_len]) fun j hj => ?_
  rw [onN_len] at hj
  rw [onN_get _ _ _ hj, set_getD _ _ _ _ (by rw [onN_len]; omega), onN_get _ _ _ hj]
  by_cases e : j = n - 1 - m
  · rw [if_pos e, if_pos (by omega), show j + 1 = n - m from by omega]
  · rw [if_neg e]
    by_cases h2 : n - m ≤ j
    · rw [if_pos h2, if_pos (by omega)]
    · rw [if_neg h2, if_neg (by omega)]
theorem onN_all (all : List UInt8) (x : UInt8) {n : Nat} (hl : all.length = n + 1) : onN all x n n = oneOf all x := by
  refine ext_getD (by rw [onN_len, oneOf, syn_len, hl]; omega) fun j hj => ?_
  rw [onN_len] at hj
  rw [onN_get _ _ _ hj, if_pos (by omega), oneOf, syn_get]
/-- One round: the next of c. -/
theorem onN_c (all : List UInt8) (x : UInt8) {n m : Nat} (h : m < n) : ev x (all.drop (n - m)) = all.getD (n - m) 0 ^^^ mulB (ev x (all.drop (n - m + 1))) x := ev_drop x all (n - m)

/-- One round over the coefficients, the highest first: what c and one hold. -/
def stepO (all : List UInt8) (x : UInt8) (s : UInt8 × List UInt8) (i : Nat) : UInt8 × List UInt8 := (all.getD (i + 1) 0 ^^^ mulB s.1 x, s.2.set i (all.getD (i + 1) 0 ^^^ mulB s.1 x))
def foldO (all : List UInt8) (x : UInt8) (k : Nat) (pre : List Nat) : UInt8 × List UInt8 := pre.foldl (stepO all x) (0, List.replicate k 0)
theorem foldO_nil (all : List UInt8) (x : UInt8) (k : Nat) : foldO all x k [] = (0, List.replicate k 0) := rfl
theorem foldO_snoc (all : List UInt8) (x : UInt8) (k : Nat) (pre : List Nat) (i : Nat) : foldO all x k (pre ++ [i]) = stepO all x (foldO all x k pre) i := by simp [foldO]
theorem foldO_len_aux (all : List UInt8) (x : UInt8) : ∀ (pre : List Nat) (s : UInt8 × List UInt8), (pre.foldl (stepO all x) s).2.length = s.2.length
  | [], _ => rfl
  | i :: pre, s => by rw [List.foldl_cons, foldO_len_aux all x pre]; simp [stepO]
theorem foldO_len (all : List UInt8) (x : UInt8) (k : Nat) (pre : List Nat) : (foldO all x k pre).2.length = k := by unfold foldO; rw [foldO_len_aux]; simp
theorem foldO_down (all : List UInt8) (x : UInt8) {k : Nat} (hl : all.length = k + 1) : ∀ m, m ≤ k → foldO all x k ((List.range m).map fun j => k - 1 - j) = (ev x (all.drop (k - m + 1)), onN all x k m)
  | 0, _ => by
    rw [List.range_zero, List.map_nil, foldO_nil, onN_zero, List.drop_eq_nil_of_le (by omega)]
    rfl
  | m + 1, h => by
    rw [List.range_succ, List.map_append, List.map_cons, List.map_nil, foldO_snoc, foldO_down all x hl m (by omega)]
    have e := onN_c all x (n := k) (m := m) (by omega)
    have e1 : k - 1 - m + 1 = k - m := by omega
    have e2 : k - (m + 1) + 1 = k - m := by omega
    unfold stepO
    simp only
    rw [e1, e2, ← e, onN_next all x (by omega)]
theorem foldO_all (all : List UInt8) (x : UInt8) {k : Nat} (hl : all.length = k + 1) : (foldO all x k ((List.range k).map fun j => k - 1 - j)).2 = oneOf all x := by
  rw [foldO_down all x hl k (Nat.le_refl _), onN_all all x hl]
end Go.Proofs.Ytclcgfngolfmlaa
