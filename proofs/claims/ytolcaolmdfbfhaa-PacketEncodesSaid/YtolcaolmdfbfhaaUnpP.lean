/-
  A frame taken apart, plainly. No program is named here.
-/
import Derived.Test.YtolcaolmdfbfhaaPackP
import Derived.Test.YtolcaolmdfbfhaaPkt
namespace Go.Proofs.Ytolcaolmdfbfhaa
set_option linter.unusedSimpArgs false
set_option linter.unusedVariables false
open Go.RowKit
/-- Bytes as one number, the highest first. -/
def numOf (l : List UInt8) : Nat := l.foldl (fun n x => n * 256 + x.toNat) 0
/-- May the head's two numbers be? -/
def headForm (a f : Nat) : Prop := a / 16384 = 0 ∧ a % 2 = 1 ∧ f / 2048 = 3
instance (a f : Nat) : Decidable (headForm a f) := by unfold headForm; infer_instance
def headOf (a f : Nat) (x2 x3 : UInt8) : Hd := ⟨(a / 16 % 1024 : Nat), (a / 2 % 8 : Nat), (x2.toNat : Int), (x3.toNat : Int), (f % 2048 : Nat)⟩
/-- A frame's head, data, status, and the error. -/
def unpacked (b : List UInt8) : Hd × List UInt8 × Int × Int :=
  if b.length < 13 ∨ 2048 < b.length then (.zero, [], 0, 1)
  else if crc (b.take (b.length - 2)) ≠ numOf (b.drop (b.length - 2)) then (.zero, [], 0, 9)
  else if headForm (pairOf (b.getD 0 0) (b.getD 1 0)) (pairOf (b.getD 4 0) (b.getD 5 0)) then
    (headOf (pairOf (b.getD 0 0) (b.getD 1 0)) (pairOf (b.getD 4 0) (b.getD 5 0)) (b.getD 2 0) (b.getD 3 0), (b.take (b.length - 6)).drop 6, (numOf ((b.take (b.length - 2)).drop (b.length - 6)) : Nat), 0)
  else (.zero, [], 0, 8)
theorem drop_two {b : List UInt8} (h : 2 ≤ b.length) : b.drop (b.length - 2) = [b.getD (b.length - 2) 0, b.getD (b.length - 1) 0] := by
  have h1 : b.length - 2 < b.length := by omega
  rw [List.drop_eq_getElem_cons h1, show b.length - 2 + 1 = b.length - 1 from by omega, List.drop_eq_getElem_cons (by omega), show b.length - 1 + 1 = b.length from by omega, List.drop_length]
  simp [List.getD, List.getElem?_eq_getElem h1, List.getElem?_eq_getElem (show b.length - 1 < b.length by omega)]
theorem numOf_two (x y : UInt8) : numOf [x, y] = pairOf x y := by simp [numOf, pairOf]
theorem numOf_four (x y z u : UInt8) : numOf [x, y, z, u] = ((x.toNat * 256 + y.toNat) * 256 + z.toNat) * 256 + u.toNat := by simp [numOf]
theorem mid_four {b : List UInt8} (h : 6 ≤ b.length) : (b.take (b.length - 2)).drop (b.length - 6) = [b.getD (b.length - 6) 0, b.getD (b.length - 5) 0, b.getD (b.length - 4) 0, b.getD (b.length - 3) 0] := by
  apply List.ext_getElem?
  intro i
  rw [List.getElem?_drop, List.getElem?_take]
  by_cases h4 : i < 4
  · rw [if_pos (by omega)]
    have : i = 0 ∨ i = 1 ∨ i = 2 ∨ i = 3 := by omega
    rcases this with rfl | rfl | rfl | rfl
    · have e : b.length - 6 < b.length := by omega
      simp [List.getD, List.getElem?_eq_getElem e]
    · have e : b.length - 5 < b.length := by omega
      simp [List.getD, List.getElem?_eq_getElem e, show b.length - 6 + 1 = b.length - 5 from by omega]
    · have e : b.length - 4 < b.length := by omega
      simp [List.getD, List.getElem?_eq_getElem e, show b.length - 6 + 2 = b.length - 4 from by omega]
    · have e : b.length - 3 < b.length := by omega
      simp [List.getD, List.getElem?_eq_getElem e, show b.length - 6 + 3 = b.length - 3 from by omega]
  · rw [if_neg (by omega), List.getElem?_eq_none (by simp; omega)]
end Go.Proofs.Ytolcaolmdfbfhaa
