/-
  Blocks of a key, plainly. No program is named here.
-/
import Derived.Test.YtkbaganbfcbioaaBase
import Derived.Test.YtkbaganbfcbioaaMore
namespace Go.Proofs.Ytkbaganbfcbioaa
set_option linter.unusedSimpArgs false
set_option linter.unusedVariables false
open Go.RowKit

def add32 (x y : Nat) : Nat := (x + y) % 4294967296
def rot32 (x k : Nat) : Nat := x * 2 ^ k % 4294967296 ||| x / 2 ^ (32 - k)
theorem add32_lt (x y : Nat) : add32 x y < 4294967296 := Nat.mod_lt _ (by decide)
theorem rot32_lt {x : Nat} (k : Nat) (h : x < 4294967296) : rot32 x k < 4294967296 := by
  refine Nat.or_lt_two_pow (n := 32) (Nat.mod_lt _ (by decide)) (Nat.lt_of_le_of_lt (Nat.div_le_self _ _) h)
theorem xor32_lt {x y : Nat} (h : x < 4294967296) (k : y < 4294967296) : x ^^^ y < 4294967296 := Nat.xor_lt_two_pow (n := 32) h k
/-- One number is another's sum; one is turned. -/
def stA (q : List Nat) (a b : Nat) : List Nat := q.set a (add32 (q.getD a 0) (q.getD b 0))
def stR (q : List Nat) (d a k : Nat) : List Nat := q.set d (rot32 (q.getD d 0 ^^^ q.getD a 0) k)
def stirH (q : List Nat) (a b c d r s : Nat) : List Nat := stR (stA (stR (stA q a b) d a r) c d) b c s
def stirL (q : List Nat) (a b c d : Nat) : List Nat := stirH (stirH q a b c d 13 9) a b c d 17 5
/-- Sixteen numbers of 32 bits. -/
structure Sq (q : List Nat) : Prop where
  len : q.length = 16
  lt : ∀ i, q.getD i 0 < 4294967296
theorem Sq.set {q : List Nat} (h : Sq q) {a v : Nat} (hv : v < 4294967296) : Sq (q.set a v) := by
  refine ⟨by rw [List.length_set]; exact h.len, fun i => ?_⟩
  have := h.lt i
  simp only [List.getD_eq_getElem?_getD, List.getElem?_set] at *
  split
  · split
    · simpa using hv
    · simp
  · exact this
theorem Sq.stA {q : List Nat} (h : Sq q) (a b : Nat) : Sq (stA q a b) := h.set (add32_lt _ _)
theorem Sq.stR {q : List Nat} (h : Sq q) (d a k : Nat) : Sq (stR q d a k) := h.set (rot32_lt _ (xor32_lt (h.lt _) (h.lt _)))
theorem Sq.stirH {q : List Nat} (h : Sq q) (a b c d r s : Nat) : Sq (stirH q a b c d r s) := (((h.stA a b).stR d a r).stA c d).stR b c s
theorem Sq.stirL {q : List Nat} (h : Sq q) (a b c d : Nat) : Sq (stirL q a b c d) := (h.stirH a b c d 13 9).stirH a b c d 17 5
/-- The first k of four columns, and of four slants; a round; six of them. -/
def colsL (q : List Nat) : Nat → List Nat
  | 0 => q
  | k + 1 => stirL (colsL q k) k (k + 4) (k + 8) (k + 12)
def slantsL (q : List Nat) : Nat → List Nat
  | 0 => q
  | k + 1 => stirL (slantsL q k) k (4 + (k + 1) % 4) (8 + (k + 2) % 4) (12 + (k + 3) % 4)
def roundsL (q : List Nat) : Nat → List Nat
  | 0 => q
  | k + 1 => slantsL (colsL (roundsL q k) 4) 4
theorem Sq.cols {q : List Nat} (h : Sq q) : ∀ k, Sq (colsL q k)
  | 0 => h
  | k + 1 => (Sq.cols h k).stirL _ _ _ _
theorem Sq.slants {q : List Nat} (h : Sq q) : ∀ k, Sq (slantsL q k)
  | 0 => h
  | k + 1 => (Sq.slants h k).stirL _ _ _ _
theorem Sq.rounds {q : List Nat} (h : Sq q) : ∀ k, Sq (roundsL q k)
  | 0 => h
  | k + 1 => ((Sq.rounds h k).cols 4).slants 4
/-- What is stirred first. -/
def firstL (words : List Nat) (counter index : Nat) : List Nat := [1752326502, 745302369, 2036689696, 1684107296] ++ words ++ [index, counter % 4294967296, counter / 4294967296, 0]
/-- Four bytes of a number, the lowest first. -/
def le4 (n : Nat) : List UInt8 := [UInt8.ofNat n, UInt8.ofNat (n / 256), UInt8.ofNat (n / 65536), UInt8.ofNat (n / 16777216)]
def outTo (q f : List Nat) : Nat → List UInt8
  | 0 => []
  | i + 1 => outTo q f i ++ le4 (add32 (q.getD i 0) (f.getD i 0))
theorem outTo_length (q f : List Nat) : ∀ i, (outTo q f i).length = 4 * i
  | 0 => rfl
  | i + 1 => by rw [outTo, List.length_append, outTo_length q f i]; simp [le4]; omega
def padL (words : List Nat) (counter index : Nat) : List UInt8 := outTo (roundsL (firstL words counter index) 6) (firstL words counter index) 16
/-- What is wrong with a key's words, a counter, an index? -/
def padErr (words : List Int) (counter index : Int) : Int :=
  if words.length ≠ 8 then 1 else if (∀ x ∈ words, 0 ≤ x ∧ x ≤ 4294967295) ∧ 0 ≤ counter ∧ counter ≤ 281474976710655 ∧ 0 ≤ index ∧ index ≤ 1000 then 0 else 2
def padR (words : List Int) (counter index : Int) : List UInt8 × Int :=
  if padErr words counter index = 0 then (padL (words.map Int.toNat) counter.toNat index.toNat, 0) else ([], padErr words counter index)
/-- Numbers as ints. -/
def nls (q : List Nat) : List Int := q.map fun (n : Nat) => (n : Int)
theorem nls_length (q : List Nat) : (nls q).length = q.length := by simp [nls]
theorem nls_get {q : List Nat} {i : Nat} (h : i < q.length) : (ivs (nls q))[i]? = some (.int .i64 (q.getD i 0 : Nat)) := by
  simp [ivs, nls, iv, List.getD, h]
theorem nls_set (q : List Nat) (i v : Nat) : (nls q).set i (v : Int) = nls (q.set i v) := by simp [nls, List.map_set]
/-- Numbers of 32 bits as the model's values. -/
def uvs (q : List Nat) : List Value := q.map fun (n : Nat) => .int .u32 (n : Int)
theorem uvs_length (q : List Nat) : (uvs q).length = q.length := by simp [uvs]
theorem uvs_get {q : List Nat} {i : Nat} (h : i < q.length) : (uvs q)[i]? = some (.int .u32 (q.getD i 0 : Nat)) := by simp [uvs, List.getD, h]
theorem colsL_zero (q : List Nat) : colsL q 0 = q := rfl
theorem colsL_succ (q : List Nat) (k : Nat) : colsL q (k + 1) = stirL (colsL q k) k (k + 4) (k + 8) (k + 12) := rfl
theorem slantsL_zero (q : List Nat) : slantsL q 0 = q := rfl
theorem slantsL_succ (q : List Nat) (k : Nat) : slantsL q (k + 1) = stirL (slantsL q k) k (4 + (k + 1) % 4) (8 + (k + 2) % 4) (12 + (k + 3) % 4) := rfl
theorem roundsL_zero (q : List Nat) : roundsL q 0 = q := rfl
theorem roundsL_succ (q : List Nat) (k : Nat) : roundsL q (k + 1) = slantsL (colsL (roundsL q k) 4) 4 := rfl
theorem outTo_zero (q f : List Nat) : outTo q f 0 = [] := rfl
theorem outTo_succ (q f : List Nat) (i : Nat) : outTo q f (i + 1) = outTo q f i ++ le4 (add32 (q.getD i 0) (f.getD i 0)) := rfl
theorem padL_eq (words : List Nat) (counter index : Nat) : padL words counter index = outTo (roundsL (firstL words counter index) 6) (firstL words counter index) 16 := rfl
theorem slantsL_four (q : List Nat) : slantsL q 4 = stirL (stirL (stirL (stirL q 0 5 10 15) 1 6 11 12) 2 7 8 13) 3 4 9 14 := rfl
theorem padL_length (words : List Nat) (counter index : Nat) : (padL words counter index).length = 64 := outTo_length _ _ 16
attribute [irreducible] colsL slantsL roundsL outTo padL
end Go.Proofs.Ytkbaganbfcbioaa
