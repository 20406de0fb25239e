/-
  Numbers as bytes, the highest first. No program is named here.
-/
import Derived.Test.YtogiabligehfaaaBase
namespace Go.Proofs.Ytogiabligehfaaa
set_option linter.unusedSimpArgs false
set_option linter.unusedVariables false
open Go.RowKit
/-- The k lowest bytes of n, the highest of them first. -/
def be (n : Int) : Nat → List UInt8
  | 0 => []
  | k + 1 => bOf (n / 2 ^ (8 * k)) :: be n k
theorem be_length (n : Int) (k : Nat) : (be n k).length = k := by
  induction k with
  | zero => rfl
  | succ k ih => simp [be, ih]
end Go.Proofs.Ytogiabligehfaaa
