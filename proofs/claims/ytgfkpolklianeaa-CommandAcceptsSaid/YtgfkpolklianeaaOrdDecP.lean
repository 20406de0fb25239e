/-
  The order of bytes, plainly. No program is named here.
-/
import Derived.Test.YtgfkpolklianeaaOrdP
import Derived.Test.YtgfkpolklianeaaBits
namespace Go.Proofs.Ytgfkpolklianeaa
set_option linter.unusedSimpArgs false
set_option linter.unusedVariables false
open Go.RowKit

def pair2 (x y : UInt8) : Nat := x.toNat * 256 + y.toNat
theorem pair2_lt (x y : UInt8) : pair2 x y < 65536 := by
  have := x.toNat_lt
  have := y.toNat_lt
  unfold pair2
  omega
/-- May the two first numbers be those of an order? -/
def ordForm (a m : Nat) : Prop := a / 16384 = 0 ∧ a / 1024 % 4 = 0 ∧ m / 1024 = 0 ∧ (a / 4096 % 2 = 1 → a / 8192 % 2 = 1)
instance (a m : Nat) : Decidable (ordForm a m) := by unfold ordForm; infer_instance
def ordIn (a : Nat) (s : UInt8) (d : List UInt8) : Ord := ⟨(a % 1024 : Nat), decide (a / 8192 % 2 = 1), decide (a / 4096 % 2 = 1), (s.toNat : Int), d⟩
def ordSized (l : List UInt8) : Prop := (8 ≤ l.length ∧ l.length ≤ 1024) ∧ pair2 (l.getD 2 0) (l.getD 3 0) % 1024 = l.length - 1
instance (l : List UInt8) : Decidable (ordSized l) := by unfold ordSized; infer_instance
def ordSum (l : List UInt8) : Prop := crc (l.take (l.length - 2)) = pair2 (l.getD (l.length - 2) 0) (l.getD (l.length - 1) 0)
instance (l : List UInt8) : Decidable (ordSum l) := by unfold ordSum; infer_instance
def ordOf (l : List UInt8) : Ord × Int :=
  if ordSized l then
    if ordSum l then
      if ordForm (pair2 (l.getD 0 0) (l.getD 1 0)) (pair2 (l.getD 2 0) (l.getD 3 0)) then (ordIn (pair2 (l.getD 0 0) (l.getD 1 0)) (l.getD 4 0) ((l.take (l.length - 2)).drop 5), 0)
      else (.zero, 8)
    else (.zero, 9)
  else (.zero, 1)

theorem pair_or2 (x y : UInt8) : bits .or .i64 ((x.toNat : Int) * 256) (y.toNat : Int) = ((pair2 x y : Nat) : Int) := by
  have hx := x.toNat_lt
  have hy := y.toNat_lt
  rw [show ((x.toNat : Int) * 256) = ((x.toNat * 256 : Nat) : Int) from by omega]
  exact or_at 8 (by omega) (by omega) (by omega)
theorem low_or (x y : UInt8) : bits .or .i64 (bits .and .u8 (x.toNat : Int) 3 * 256) (y.toNat : Int) = ((pair2 x y % 1024 : Nat) : Int) := by
  have hx := x.toNat_lt
  have hy := y.toNat_lt
  have e := u8_and_nat x.toNat 3 (by omega) (by omega)
  rw [nat_mask2] at e
  rw [show (3 : Int) = ((3 : Nat) : Int) from rfl, e, show (((x.toNat % 4 : Nat) : Int) * 256) = ((x.toNat % 4 * 256 : Nat) : Int) from by omega, or_at 8 (by omega) (by omega) (by omega)]
  unfold pair2
  omega
theorem low_orw (x y : UInt8) : bits .or .i64 (wrap64 (wrap64 (bits .and .u8 (x.toNat : Int) 3) * 256)) (y.toNat : Int) = ((pair2 x y % 1024 : Nat) : Int) := by
  have hx := x.toNat_lt
  have e := u8_and_nat x.toNat 3 (by omega) (by omega)
  rw [nat_mask2] at e
  have h := low_or x y
  rw [show (3 : Int) = ((3 : Nat) : Int) from rfl, e] at h ⊢
  rw [IntWalk.wrap64_in ((x.toNat % 4 : Nat) : Int) (by omega), IntWalk.wrap64_in (((x.toNat % 4 : Nat) : Int) * 256) (by omega)]
  exact h
theorem u8_bit1 (x : UInt8) (m : Nat) : bits .and .u8 ((x.toNat : Int) / (m : Int)) 1 = ((x.toNat / m % 2 : Nat) : Int) := by
  have hx := x.toNat_lt
  have : x.toNat / m ≤ x.toNat := Nat.div_le_self _ _
  have e := u8_and_nat (x.toNat / m) 1 (by omega) (by omega)
  rw [nat_mask1] at e
  rw [show ((x.toNat : Int) / (m : Int)) = ((x.toNat / m : Nat) : Int) from by omega, show (1 : Int) = ((1 : Nat) : Int) from rfl, e]
theorem u8_bits2 (x : UInt8) (m : Nat) : bits .and .u8 ((x.toNat : Int) / (m : Int)) 3 = ((x.toNat / m % 4 : Nat) : Int) := by
  have hx := x.toNat_lt
  have : x.toNat / m ≤ x.toNat := Nat.div_le_self _ _
  have e := u8_and_nat (x.toNat / m) 3 (by omega) (by omega)
  rw [nat_mask2] at e
  rw [show ((x.toNat : Int) / (m : Int)) = ((x.toNat / m : Nat) : Int) from by omega, show (3 : Int) = ((3 : Nat) : Int) from rfl, e]
theorem ordOf_size {l : List UInt8} (h : ¬ ordSized l) : ordOf l = (.zero, 1) := by unfold ordOf; rw [if_neg h]
theorem ordOf_sum {l : List UInt8} (h : ordSized l) (h2 : ¬ ordSum l) : ordOf l = (.zero, 9) := by unfold ordOf; rw [if_pos h, if_neg h2]
theorem ordOf_form {l : List UInt8} (h : ordSized l) (h2 : ordSum l) (h3 : ¬ ordForm (pair2 (l.getD 0 0) (l.getD 1 0)) (pair2 (l.getD 2 0) (l.getD 3 0))) : ordOf l = (.zero, 8) := by
  unfold ordOf; rw [if_pos h, if_pos h2, if_neg h3]
theorem ordOf_ok {l : List UInt8} (h : ordSized l) (h2 : ordSum l) (h3 : ordForm (pair2 (l.getD 0 0) (l.getD 1 0)) (pair2 (l.getD 2 0) (l.getD 3 0))) :
    ordOf l = (ordIn (pair2 (l.getD 0 0) (l.getD 1 0)) (l.getD 4 0) ((l.take (l.length - 2)).drop 5), 0) := by
  unfold ordOf; rw [if_pos h, if_pos h2, if_pos h3]
end Go.Proofs.Ytgfkpolklianeaa
