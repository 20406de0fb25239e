/-
  Packets, plainly: a packet, the bytes of one, and the packet with which bytes begin. No program is named here.
-/
import Derived.Test.YtkbaganbfcbioaaBase
namespace Go.Proofs.Ytkbaganbfcbioaa
set_option linter.unusedSimpArgs false
set_option linter.unusedVariables false
open Go.RowKit

structure Pkt where
  up : Bool
  second : Bool
  apid : Int
  part : Int
  count : Int
  data : List UInt8
def Pkt.zero : Pkt := ⟨false, false, 0, 0, 0, []⟩
/-- A packet as the model's value, its data at A, of capacity c. -/
def pv (p : Pkt) (A : Option Addr) (c : Nat) : Value := .agg #[.bool p.up, .bool p.second, .int .i64 p.apid, .int .i64 p.part, .int .i64 p.count, .slice A p.data.length c]

/-- The packet with which bytes begin, how many bytes it takes, and the error. -/
def pktOf : List UInt8 → Pkt × Int × Int
  | x0 :: x1 :: x2 :: x3 :: x4 :: x5 :: r =>
    if x0.toNat / 32 ≠ 0 then (.zero, 0, 8)
    else if r.length < x4.toNat * 256 + x5.toNat + 1 then (.zero, 0, 7)
    else (⟨decide (x0.toNat / 16 % 2 = 1), decide (x0.toNat / 8 % 2 = 1), (x0.toNat % 8 * 256 + x1.toNat : Nat), (x2.toNat / 64 : Nat), (x2.toNat % 64 * 256 + x3.toNat : Nat), r.take (x4.toNat * 256 + x5.toNat + 1)⟩, (x4.toNat * 256 + x5.toNat + 7 : Nat), 0)
  | _ => (.zero, 0, 7)
theorem pktOf_short {l : List UInt8} (h : l.length < 6) : pktOf l = (.zero, 0, 7) := by
  match l, h with
  | [], _ => rfl
  | [_], _ => rfl
  | [_, _], _ => rfl
  | [_, _, _], _ => rfl
  | [_, _, _, _], _ => rfl
  | [_, _, _, _, _], _ => rfl
theorem six_of {l : List UInt8} (h : 6 ≤ l.length) : ∃ x0 x1 x2 x3 x4 x5 r, l = x0 :: x1 :: x2 :: x3 :: x4 :: x5 :: r := by
  match l, h with
  | x0 :: x1 :: x2 :: x3 :: x4 :: x5 :: r, _ => exact ⟨_, _, _, _, _, _, _, rfl⟩
theorem pktOf_form {x0 x1 x2 x3 x4 x5 : UInt8} {r : List UInt8} (h : x0.toNat / 32 ≠ 0) : pktOf (x0 :: x1 :: x2 :: x3 :: x4 :: x5 :: r) = (.zero, 0, 8) := by
  show (if _ then _ else _) = _
  rw [if_pos h]
theorem pktOf_more {x0 x1 x2 x3 x4 x5 : UInt8} {r : List UInt8} (h : ¬ x0.toNat / 32 ≠ 0) (h2 : r.length < x4.toNat * 256 + x5.toNat + 1) : pktOf (x0 :: x1 :: x2 :: x3 :: x4 :: x5 :: r) = (.zero, 0, 7) := by
  show (if _ then _ else _) = _
  rw [if_neg h, if_pos h2]
/-- The packet itself. -/
def pktIn (x0 x1 x2 x3 : UInt8) (d : List UInt8) : Pkt := ⟨decide (x0.toNat / 16 % 2 = 1), decide (x0.toNat / 8 % 2 = 1), (x0.toNat % 8 * 256 + x1.toNat : Nat), (x2.toNat / 64 : Nat), (x2.toNat % 64 * 256 + x3.toNat : Nat), d⟩
theorem pktOf_ok {x0 x1 x2 x3 x4 x5 : UInt8} {r : List UInt8} (h : ¬ x0.toNat / 32 ≠ 0) (h2 : ¬ r.length < x4.toNat * 256 + x5.toNat + 1) : pktOf (x0 :: x1 :: x2 :: x3 :: x4 :: x5 :: r) = (pktIn x0 x1 x2 x3 (r.take (x4.toNat * 256 + x5.toNat + 1)), ((x4.toNat * 256 + x5.toNat + 7 : Nat) : Int), 0) := by
  show (if _ then _ else _) = _
  rw [if_neg h, if_neg h2]
  rfl
/-- Two bytes as one number. -/
def pairOf (x y : UInt8) : Nat := x.toNat * 256 + y.toNat
theorem pair_lt (x y : UInt8) : pairOf x y < 65536 := by
  have := x.toNat_lt
  have := y.toNat_lt
  unfold pairOf
  omega
/-- A packet out of the numbers of its head. -/
def pktH (a b : Nat) (d : List UInt8) : Pkt := ⟨decide (a / 4096 % 2 = 1), decide (a / 2048 % 2 = 1), (a % 2048 : Nat), (b / 16384 : Nat), (b % 16384 : Nat), d⟩
theorem pktOf_heads {l : List UInt8} (h6 : 6 ≤ l.length) : pktOf l =
    if pairOf (l.getD 0 0) (l.getD 1 0) / 8192 = 0 then
      if l.length < pairOf (l.getD 4 0) (l.getD 5 0) + 7 then (.zero, 0, 7)
      else (pktH (pairOf (l.getD 0 0) (l.getD 1 0)) (pairOf (l.getD 2 0) (l.getD 3 0)) ((l.drop 6).take (pairOf (l.getD 4 0) (l.getD 5 0) + 1)), ((pairOf (l.getD 4 0) (l.getD 5 0) + 7 : Nat) : Int), 0)
    else (.zero, 0, 8) := by
  obtain ⟨x0, x1, x2, x3, x4, x5, r, rfl⟩ := six_of h6
  have h0 := x0.toNat_lt
  have h1 := x1.toNat_lt
  have h2 := x2.toNat_lt
  have h3 := x3.toNat_lt
  simp only [List.getD_cons_zero, List.getD_cons_succ, List.drop_succ_cons, List.drop_zero, List.length_cons]
  by_cases h : x0.toNat / 32 ≠ 0
  · rw [pktOf_form h, if_neg (by unfold pairOf; omega)]
  · rw [if_pos (by unfold pairOf; omega)]
    by_cases h8 : r.length < x4.toNat * 256 + x5.toNat + 1
    · rw [pktOf_more h h8, if_pos (by unfold pairOf; omega)]
    · rw [pktOf_ok h h8, if_neg (by unfold pairOf; omega)]
      congr 1
      have e : pairOf x4 x5 = x4.toNat * 256 + x5.toNat := rfl
      rw [e]
      unfold pktIn pktH
      have a1 : (pairOf x0 x1 / 4096 % 2 = 1) = (x0.toNat / 16 % 2 = 1) := by unfold pairOf; rw [eq_iff_iff]; omega
      have a2 : (pairOf x0 x1 / 2048 % 2 = 1) = (x0.toNat / 8 % 2 = 1) := by unfold pairOf; rw [eq_iff_iff]; omega
      have a3 : pairOf x0 x1 % 2048 = x0.toNat % 8 * 256 + x1.toNat := by unfold pairOf; omega
      have a4 : pairOf x2 x3 / 16384 = x2.toNat / 64 := by unfold pairOf; omega
      have a5 : pairOf x2 x3 % 16384 = x2.toNat % 64 * 256 + x3.toNat := by unfold pairOf; omega
      simp only [a1, a2, a3, a4, a5]
theorem pktOf_len (l : List UInt8) : (pktOf l).1.data.length ≤ 65536 := by
  by_cases h6 : 6 ≤ l.length
  · rw [pktOf_heads h6]
    have := pair_lt (l.getD 4 0) (l.getD 5 0)
    split
    · split
      · simp [Pkt.zero]
      · simp only [pktH, List.length_take]
        omega
    · simp [Pkt.zero]
  · rw [pktOf_short (by omega)]
    simp [Pkt.zero]
theorem head_up {a : Nat} (h : a < 65536) : (bits .and .i64 (a : Int) 4096 != 0) = decide (a / 4096 % 2 = 1) := by
  have e := i64_and_nat a 4096 (by omega) (by omega)
  have n := nat_bit 12 a
  rw [show (2 : Nat) ^ 12 = 4096 from by decide] at n
  rw [show (4096 : Int) = ((4096 : Nat) : Int) from rfl, e, n, Bool.eq_iff_iff]
  simp
  omega
theorem head_sec {a : Nat} (h : a < 65536) : (bits .and .i64 (a : Int) 2048 != 0) = decide (a / 2048 % 2 = 1) := by
  have e := i64_and_nat a 2048 (by omega) (by omega)
  have n := nat_bit 11 a
  rw [show (2 : Nat) ^ 11 = 2048 from by decide] at n
  rw [show (2048 : Int) = ((2048 : Nat) : Int) from rfl, e, n, Bool.eq_iff_iff]
  simp
  omega
theorem head_apid {a : Nat} (h : a < 65536) : bits .and .i64 (a : Int) 2047 = ((a % 2048 : Nat) : Int) := by
  have e := i64_and_nat a 2047 (by omega) (by omega)
  rw [nat_mask11] at e
  exact e
theorem head_part (a : Nat) : ((a : Int) / 16384) = ((a / 16384 : Nat) : Int) := by omega
theorem head_count {a : Nat} (h : a < 65536) : bits .and .i64 (a : Int) 16383 = ((a % 16384 : Nat) : Int) := by
  have e := i64_and_nat a 16383 (by omega) (by omega)
  rw [nat_mask14] at e
  exact e
end Go.Proofs.Ytkbaganbfcbioaa
