/-
  Numbers as bytes, the highest first. No program is named here.
-/
import Derived.Test.YtppmdamcdhmcpaaBase
namespace Go.Proofs.Ytppmdamcdhmcpaa
set_option linter.unusedSimpArgs false
set_option linter.unusedVariables false
open Go.RowKit
/-- The k lowest bytes of n, the highest of them first. -/
def be (n : Int) : Nat → List UInt8
  | 0 => []
  | k + 1 => bOf (n / 2 ^ (8 * k)) :: be n k
theorem be_length (n : Int) (k : Nat) : (be n k).length = k := by
  induction k with
  | zero => rfl
  | succ k ih => simp [be, ih]
theorem be_two (n : Int) : be n 2 = [bOf (n / 256), bOf n] := by simp [be]
theorem be_one (n : Int) : be n 1 = [bOf n] := by simp [be]
theorem be_four (n : Int) : be n 4 = [bOf (n / 16777216), bOf (n / 65536), bOf (n / 256), bOf n] := by simp [be]
end Go.Proofs.Ytppmdamcdhmcpaa
