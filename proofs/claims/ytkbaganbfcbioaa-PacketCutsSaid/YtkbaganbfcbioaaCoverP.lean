/-
  Covered bytes, piece by piece: plainly.
-/
import Derived.Test.YtkbaganbfcbioaaKey
namespace Go.Proofs.Ytkbaganbfcbioaa
set_option linter.unusedSimpArgs false
set_option linter.unusedVariables false
open Go.RowKit

/-- A piece of 64, and its first bytes under a block. -/
def chunkAt (b : List UInt8) (y : Nat) : List UInt8 := (b.drop (64 * y)).take 64
theorem chunkAt_len (b : List UInt8) (y : Nat) : (chunkAt b y).length = min 64 (b.length - 64 * y) := by simp [chunkAt]
theorem chunkAt_get (b : List UInt8) {y j : Nat} (h : j < 64) : (chunkAt b y).getD j 0 = b.getD (64 * y + j) 0 := by
  simp [chunkAt, List.getD, List.getElem?_take, List.getElem?_drop, h]
def xorTo (c p : List UInt8) (j : Nat) : List UInt8 := (List.range j).map fun i => c.getD i 0 ^^^ p.getD i 0
theorem xorTo_zero (c p : List UInt8) : xorTo c p 0 = [] := rfl
theorem xorTo_succ (c p : List UInt8) (j : Nat) : xorTo c p (j + 1) = xorTo c p j ++ [c.getD j 0 ^^^ p.getD j 0] := by simp [xorTo, List.range_succ]
theorem xorTo_len (c p : List UInt8) (j : Nat) : (xorTo c p j).length = j := by simp [xorTo]
def coverStep (W : List Nat) (C : Nat) (b : List UInt8) (s : List UInt8 × Nat) (y : Nat) : List UInt8 × Nat := (s.1 ++ xorTo (chunkAt b y) (padL W C s.2) (chunkAt b y).length, s.2 + 1)
def coverP (W : List Nat) (C : Nat) (b : List UInt8) (pre : List Nat) : List UInt8 × Nat := pre.foldl (coverStep W C b) ([], 1)
theorem coverP_nil (W : List Nat) (C : Nat) (b : List UInt8) : coverP W C b [] = ([], 1) := rfl
theorem coverP_snoc (W : List Nat) (C : Nat) (b : List UInt8) (pre : List Nat) (y : Nat) : coverP W C b (pre ++ [y]) = coverStep W C b (coverP W C b pre) y := by simp [coverP]
theorem coverP_idx (W : List Nat) (C : Nat) (b : List UInt8) : ∀ (n : Nat) (pre : List Nat), pre.length = n → (coverP W C b pre).2 = 1 + n
  | 0, pre, h => by rw [List.length_eq_zero_iff.1 h]; rfl
  | n + 1, pre, h => by
    obtain ⟨q, y, rfl⟩ := list_snoc pre (by intro e; subst e; simp at h)
    rw [coverP_snoc]
    show (coverP W C b q).2 + 1 = _
    rw [coverP_idx W C b n q (by simpa using h)]
    omega
theorem coverP_len (W : List Nat) (C : Nat) (b : List UInt8) : ∀ (n : Nat) (pre : List Nat), pre.length = n → (coverP W C b pre).1.length ≤ 64 * n
  | 0, pre, h => by rw [List.length_eq_zero_iff.1 h]; simp [coverP_nil]
  | n + 1, pre, h => by
    obtain ⟨q, y, rfl⟩ := list_snoc pre (by intro e; subst e; simp at h)
    rw [coverP_snoc]
    show ((coverP W C b q).1 ++ _).length ≤ _
    have := coverP_len W C b n q (by simpa using h)
    rw [List.length_append, xorTo_len, chunkAt_len]
    omega
theorem coverTo_more (W : List Nat) (C : Nat) (b : List UInt8) (k : Nat) : ∀ j, j ≤ 64 → coverTo W C b (64 * k + j) = coverTo W C b (64 * k) ++ xorTo (chunkAt b k) (padL W C (1 + k)) j
  | 0, _ => by simp [xorTo_zero]
  | j + 1, h => by
    rw [show 64 * k + (j + 1) = (64 * k + j) + 1 from rfl, coverTo_succ, coverTo_more W C b k j (by omega), xorTo_succ, List.append_assoc, chunkAt_get b (by omega),
      show (64 * k + j) / 64 = k from by omega, show (64 * k + j) % 64 = j from by omega]
theorem coverP_range (W : List Nat) (C : Nat) (b : List UInt8) : ∀ k, coverP W C b (List.range k) = (coverTo W C b (min (64 * k) b.length), 1 + k)
  | 0 => by simp [coverP_nil, coverTo]
  | k + 1 => by
    rw [List.range_succ, coverP_snoc, coverP_range W C b k]
    show (coverTo W C b (min (64 * k) b.length) ++ xorTo (chunkAt b k) (padL W C (1 + k)) (chunkAt b k).length, 1 + k + 1) = _
    rw [chunkAt_len]
    rcases Nat.lt_or_ge (64 * k) b.length with h | h
    · rw [show min (64 * k) b.length = 64 * k from by omega, ← coverTo_more W C b k _ (by omega), show 64 * k + min 64 (b.length - 64 * k) = min (64 * (k + 1)) b.length from by omega]
      rfl
    · rw [show min 64 (b.length - 64 * k) = 0 from by omega, xorTo_zero, List.append_nil, show min (64 * k) b.length = min (64 * (k + 1)) b.length from by omega]
      rfl
theorem coverP_all (W : List Nat) (C : Nat) (b : List UInt8) : (coverP W C b (List.range ((b.length + 63) / 64))).1 = coverL W C b := by
  rw [coverP_range]
  show coverTo W C b _ = _
  rw [show min (64 * ((b.length + 63) / 64)) b.length = b.length from by omega]
  rfl
/-- What is covered so far, and the rest as it was. -/
def midL (W : List Nat) (C : Nat) (b : List UInt8) (k : Nat) : List UInt8 := coverTo W C b k ++ b.drop k
theorem midL_zero (W : List Nat) (C : Nat) (b : List UInt8) : midL W C b 0 = b := by simp [midL, coverTo]
theorem midL_end (W : List Nat) (C : Nat) (b : List UInt8) : midL W C b b.length = coverL W C b := by simp [midL, coverL]
theorem midL_len (W : List Nat) (C : Nat) (b : List UInt8) {k : Nat} (h : k ≤ b.length) : (midL W C b k).length = b.length := by simp [midL, coverTo_len]; omega
theorem midL_get (W : List Nat) (C : Nat) (b : List UInt8) {k : Nat} (h : k < b.length) : (midL W C b k).getD k 0 = b.getD k 0 := by
  simp [midL, List.getD, List.getElem?_append_right, coverTo_len]
theorem midL_succ (W : List Nat) (C : Nat) (b : List UInt8) {k : Nat} (h : k < b.length) : midL W C b (k + 1) = (midL W C b k).set k (b.getD k 0 ^^^ (padL W C (1 + k / 64)).getD (k % 64) 0) := by
  unfold midL
  rw [coverTo_succ, List.set_append_right _ _ (by simp [coverTo_len]), coverTo_len, Nat.sub_self, List.append_assoc]
  congr 1
  rw [List.drop_eq_getElem_cons h]
  rfl
end Go.Proofs.Ytkbaganbfcbioaa
