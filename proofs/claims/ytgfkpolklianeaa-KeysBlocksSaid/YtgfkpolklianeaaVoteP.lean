/-
  What two of three copies say, plainly. No program is named here.
-/
import Derived.Test.YtgfkpolklianeaaBase
namespace Go.Proofs.Ytgfkpolklianeaa
set_option linter.unusedSimpArgs false
set_option linter.unusedVariables false
open Go.RowKit

def vote3 (x y z : UInt8) : UInt8 := ((x &&& y) ||| (y &&& z)) ||| (x &&& z)
theorem vote3_alt (x y z : UInt8) : (x &&& y) ||| ((x ||| y) &&& z) = vote3 x y z := by
  unfold vote3
  apply UInt8.toNat_inj.1
  simp only [UInt8.toNat_and, UInt8.toNat_or]
  apply Nat.eq_of_testBit_eq
  intro i
  simp only [Nat.testBit_and, Nat.testBit_or]
  cases x.toNat.testBit i <;> cases y.toNat.testBit i <;> cases z.toNat.testBit i <;> rfl
theorem vote_ref (x y z : UInt8) : bits .or .u8 (bits .or .u8 (bits .and .u8 (x.toNat : Int) (y.toNat : Int)) (bits .and .u8 (y.toNat : Int) (z.toNat : Int))) (bits .and .u8 (x.toNat : Int) (z.toNat : Int)) = ((vote3 x y z).toNat : Int) := by
  rw [and_u8, and_u8, and_u8, or_u8, or_u8]; rfl
theorem vote_prog (x y z : UInt8) : bits .or .u8 (bits .and .u8 (x.toNat : Int) (y.toNat : Int)) (bits .and .u8 (bits .or .u8 (x.toNat : Int) (y.toNat : Int)) (z.toNat : Int)) = ((vote3 x y z).toNat : Int) := by
  rw [and_u8, or_u8, and_u8, or_u8, vote3_alt]
/-- The first k bytes that are voted; the places, among the first k, at which not all three are the same. -/
def voteTo (a b c : List UInt8) : Nat → List UInt8
  | 0 => []
  | k + 1 => voteTo a b c k ++ [vote3 (a.getD k 0) (b.getD k 0) (c.getD k 0)]
def oddAt (a b c : List UInt8) (k : Nat) : Prop := a.getD k 0 ≠ b.getD k 0 ∨ b.getD k 0 ≠ c.getD k 0
instance (a b c : List UInt8) (k : Nat) : Decidable (oddAt a b c k) := by unfold oddAt; infer_instance
def oddTo (a b c : List UInt8) : Nat → List Int
  | 0 => []
  | k + 1 => if oddAt a b c k then oddTo a b c k ++ [(k : Int)] else oddTo a b c k
theorem voteTo_length (a b c : List UInt8) (k : Nat) : (voteTo a b c k).length = k := by
  induction k with
  | zero => rfl
  | succ k ih => simp [voteTo, ih]
theorem oddTo_length (a b c : List UInt8) (k : Nat) : (oddTo a b c k).length ≤ k := by
  induction k with
  | zero => simp [oddTo]
  | succ k ih =>
    unfold oddTo
    split
    · simp; omega
    · omega
def voted (a b c : List UInt8) : List UInt8 × List Int × Int :=
  if a.length ≠ b.length ∨ b.length ≠ c.length then ([], [], 1) else (voteTo a b c a.length, oddTo a b c a.length, 0)
theorem vote_fill (a b c : List UInt8) (k n : Nat) (hk : k < n) : (voteTo a b c k ++ List.replicate (n - k) 0).set k (vote3 (a.getD k 0) (b.getD k 0) (c.getD k 0)) = voteTo a b c (k + 1) ++ List.replicate (n - (k + 1)) 0 := by
  have e : n - k = (n - (k + 1)) + 1 := by omega
  rw [e, List.replicate_succ, List.set_append_right _ _ (by rw [voteTo_length]; exact Nat.le_refl _), voteTo_length, Nat.sub_self]
  simp [voteTo]
theorem byte_ne {x y : UInt8} : (((x.toNat : Int) != (y.toNat : Int)) = decide (x ≠ y)) := by
  rw [Bool.eq_iff_iff]
  simp
  rw [← UInt8.toNat_inj]
  omega
end Go.Proofs.Ytgfkpolklianeaa
