/-
  Orders and their bytes, plainly. No program is named here.
-/
import Derived.Test.YtppmdamcdhmcpaaCrc
import Derived.Test.YtppmdamcdhmcpaaBe
import Derived.Test.YtppmdamcdhmcpaaGateP
namespace Go.Proofs.Ytppmdamcdhmcpaa
set_option linter.unusedSimpArgs false
set_option linter.unusedVariables false
open Go.RowKit

structure Ord where
  craft : Int
  bypass : Bool
  control : Bool
  seq : Int
  data : List UInt8
def Ord.zero : Ord := ⟨0, false, false, 0, []⟩
def ordv (o : Ord) (A : Option Addr) (c : Nat) : Value := .agg #[.int .i64 o.craft, .bool o.bypass, .bool o.control, .int .i64 o.seq, .slice A o.data.length c]
def ordRange (o : Ord) : Prop := (0 ≤ o.craft ∧ o.craft ≤ 1023) ∧ (0 ≤ o.seq ∧ o.seq ≤ 255)
def ordKind (o : Ord) : Prop := o.control = true → o.bypass = true
def ordSize (o : Ord) : Prop := 1 ≤ o.data.length ∧ o.data.length ≤ 1017
instance (o : Ord) : Decidable (ordRange o) := by unfold ordRange; infer_instance
instance (o : Ord) : Decidable (ordKind o) := by unfold ordKind; infer_instance
instance (o : Ord) : Decidable (ordSize o) := by unfold ordSize; infer_instance
/-- What is wrong with an order. -/
def ordMay (o : Ord) : Int := if ordRange o then (if ordKind o then (if ordSize o then 0 else 1) else 6) else 2
def ordFirst (o : Ord) : Nat := flag o.bypass 8192 + flag o.control 4096 + o.craft.toNat
def ordBody (o : Ord) : List UInt8 := be (ordFirst o : Nat) 2 ++ be (o.data.length + 6 : Nat) 2 ++ be o.seq 1 ++ o.data
def ordBytes (o : Ord) : List UInt8 := ordBody o ++ be (crc (ordBody o) : Nat) 2
def ordEnc (o : Ord) : List UInt8 × Int := if ordMay o = 0 then (ordBytes o, 0) else ([], ordMay o)
theorem ordBody_length (o : Ord) : (ordBody o).length = o.data.length + 5 := by
  simp [ordBody, be_length]
  omega
theorem ordBytes_length (o : Ord) : (ordBytes o).length = o.data.length + 7 := by
  simp [ordBytes, ordBody_length, be_length]
theorem flag_le (b : Bool) (n : Nat) : flag b n ≤ n := by cases b <;> simp [flag]
theorem flag_or (b : Bool) (n : Nat) : flag b n = 0 ∨ flag b n = n := by cases b <;> simp [flag]
end Go.Proofs.Ytppmdamcdhmcpaa
