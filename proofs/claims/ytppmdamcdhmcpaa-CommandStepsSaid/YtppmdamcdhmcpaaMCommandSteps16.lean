/-
  Numbers as bytes, the highest first. No program is named here. Gates and their statuses, plainly. No program is named here.
-/
import Derived.Test.YtppmdamcdhmcpaaMCommandSteps1
namespace Go.Proofs.Ytppmdamcdhmcpaa
set_option linter.unusedSimpArgs false
set_option linter.unusedVariables false
open Go.RowKit
/-- The k lowest bytes of n, the highest of them first. -/
def be (n : Int) : Nat → List UInt8
  | 0 => []
  | k + 1 => bOf (n / 2 ^ (8 * k)) :: be n k
theorem be_length (n : Int) (k : Nat) : (be n k).length = k := by
  induction k with
  | zero => rfl
  | succ k ih => simp [be, ih]
theorem be_two (n : Int) : be n 2 = [bOf (n / 256), bOf n] := by simp [be]
theorem be_one (n : Int) : be n 1 = [bOf n] := by simp [be]
theorem be_four (n : Int) : be n 4 = [bOf (n / 16777216), bOf (n / 65536), bOf (n / 256), bOf n] := by simp [be]
end Go.Proofs.Ytppmdamcdhmcpaa
namespace Go.Proofs.Ytppmdamcdhmcpaa
set_option linter.unusedSimpArgs false
set_option linter.unusedVariables false
open Go.RowKit

structure Gt where
  craft : Int
  next : Int
  half : Int
  shut : Bool
  wait : Bool
  again : Bool
  count : Int
def Gt.zero : Gt := ⟨0, 0, 0, false, false, false, 0⟩
def gtv (g : Gt) : Value := .agg #[.int .i64 g.craft, .int .i64 g.next, .int .i64 g.half, .bool g.shut, .bool g.wait, .bool g.again, .int .i64 g.count]
def guardOk (craft half : Int) : Prop := (0 ≤ craft ∧ craft ≤ 1023) ∧ (1 ≤ half ∧ half ≤ 127)
def gateOk (g : Gt) : Prop := guardOk g.craft g.half ∧ (0 ≤ g.next ∧ g.next ≤ 255) ∧ (0 ≤ g.count ∧ g.count ≤ 3)
instance (a b : Int) : Decidable (guardOk a b) := by unfold guardOk; infer_instance
instance (g : Gt) : Decidable (gateOk g) := by unfold gateOk; infer_instance
def guarded (craft half : Int) : Gt × Int := if guardOk craft half then (⟨craft, 0, half, false, false, false, 0⟩, 0) else (.zero, 2)
def flag (b : Bool) (n : Nat) : Nat := if b then n else 0
def statusOf (g : Gt) : Nat := 16777216 + flag g.shut 8192 + flag g.wait 4096 + flag g.again 2048 + g.count.toNat * 512 + g.next.toNat
def reported (g : Gt) : Int × Int := if gateOk g then ((statusOf g : Nat), 0) else (0, 11)
/-- What a status says. -/
def gateIn (n : Nat) : Gt := ⟨0, (n % 256 : Nat), 0, decide (n / 8192 % 2 = 1), decide (n / 4096 % 2 = 1), decide (n / 2048 % 2 = 1), (n / 512 % 4 : Nat)⟩
def statusForm (n : Nat) : Prop := n / 16384 = 1024 ∧ n / 256 % 2 = 0
instance (n : Nat) : Decidable (statusForm n) := by unfold statusForm; infer_instance
def readOf (n : Int) : Gt × Int := if 0 ≤ n ∧ n ≤ 4294967295 then (if statusForm n.toNat then (gateIn n.toNat, 0) else (.zero, 8)) else (.zero, 2)

theorem or_at (m : Nat) {x y : Nat} (hx : x % 2 ^ m = 0) (hy : y < 2 ^ m) (h : x + y < 9223372036854775808) : bits .or .i64 (x : Int) (y : Int) = ((x + y : Nat) : Int) := by
  have e := i64_or_nat x y (by omega) (by omega)
  rwa [nat_join m x y hx hy] at e
theorem and_mask (m : Nat) {x : Nat} (h : x < 9223372036854775808) (hm : 2 ^ m ≤ 4611686018427387904) : bits .and .i64 (x : Int) ((2 ^ m - 1 : Nat) : Int) = ((x % 2 ^ m : Nat) : Int) := by
  rw [i64_and_nat x (2 ^ m - 1) h (by omega), Nat.and_two_pow_sub_one_eq_mod]
theorem and_one {x : Nat} (h : x < 9223372036854775808) : bits .and .i64 (x : Int) 1 = ((x % 2 : Nat) : Int) := and_mask 1 h (by decide)
theorem and_two {x : Nat} (h : x < 9223372036854775808) : bits .and .i64 (x : Int) 3 = ((x % 4 : Nat) : Int) := and_mask 2 h (by decide)
theorem and_eight {x : Nat} (h : x < 9223372036854775808) : bits .and .i64 (x : Int) 255 = ((x % 256 : Nat) : Int) := and_mask 8 h (by decide)
/-- One bit alone. -/
theorem and_bit (i : Nat) {x : Nat} (h : x < 9223372036854775808) (hm : 2 ^ i ≤ 4611686018427387904) : bits .and .i64 (x : Int) ((2 ^ i : Nat) : Int) = ((x / 2 ^ i % 2 * 2 ^ i : Nat) : Int) := by
  rw [i64_and_nat x (2 ^ i) h (by omega), nat_bit]
end Go.Proofs.Ytppmdamcdhmcpaa
