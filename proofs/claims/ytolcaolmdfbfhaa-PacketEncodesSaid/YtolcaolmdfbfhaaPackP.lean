/-
  The bytes of a frame, plainly. No program is named here.
-/
import Derived.Test.YtolcaolmdfbfhaaCrc
import Derived.Test.YtolcaolmdfbfhaaBe
namespace Go.Proofs.Ytolcaolmdfbfhaa
set_option linter.unusedSimpArgs false
set_option linter.unusedVariables false
open Go.RowKit
structure Hd where
  craft : Int
  channel : Int
  master : Int
  own : Int
  first : Int
def hv (h : Hd) : Value := .agg #[.int .i64 h.craft, .int .i64 h.channel, .int .i64 h.master, .int .i64 h.own, .int .i64 h.first]
def Hd.zero : Hd := ⟨0, 0, 0, 0, 0⟩
/-- May a head be, with this status? -/
def hdOk (h : Hd) (st : Int) : Prop :=
  (0 ≤ h.craft ∧ h.craft ≤ 1023) ∧ (0 ≤ h.channel ∧ h.channel ≤ 7) ∧ (0 ≤ h.master ∧ h.master ≤ 255) ∧ (0 ≤ h.own ∧ h.own ≤ 255) ∧ (0 ≤ h.first ∧ h.first ≤ 2047) ∧ (0 ≤ st ∧ st ≤ 4294967295)
instance (h : Hd) (st : Int) : Decidable (hdOk h st) := by unfold hdOk; infer_instance
/-- A frame's bytes, without the sum. -/
def frameBody (h : Hd) (data : List UInt8) (st : Int) : List UInt8 :=
  be (h.craft * 16 + h.channel * 2 + 1) 2 ++ be h.master 1 ++ be h.own 1 ++ be (6144 + h.first) 2 ++ data ++ be st 4
def frameBytes (h : Hd) (data : List UInt8) (st : Int) : List UInt8 := frameBody h data st ++ be (crc (frameBody h data st) : Nat) 2
def packed (h : Hd) (data : List UInt8) (st : Int) : List UInt8 × Int :=
  if hdOk h st then (if data.length + 12 < 13 ∨ 2048 < data.length + 12 then ([], 1) else (frameBytes h data st, 0)) else ([], 2)
theorem frameBody_length (h : Hd) (data : List UInt8) (st : Int) : (frameBody h data st).length = data.length + 10 := by
  simp [frameBody, be_length]
  omega
theorem frameBytes_length (h : Hd) (data : List UInt8) (st : Int) : (frameBytes h data st).length = data.length + 12 := by
  simp [frameBytes, frameBody_length, be_length]
theorem packed_length (h : Hd) (data : List UInt8) (st : Int) : (packed h data st).1.length ≤ 2048 := by
  unfold packed
  split
  · split
    · simp
    · simp only [frameBytes_length]; omega
  · simp

/-- The head's first number, as the program joins it. -/
theorem head_or {a b : Int} (ha : 0 ≤ a ∧ a ≤ 1023) (hb : 0 ≤ b ∧ b ≤ 7) : bits .or .i64 (bits .or .i64 (a * 16) (b * 2)) 1 = a * 16 + b * 2 + 1 := by
  obtain ⟨x, rfl⟩ := Int.eq_ofNat_of_zero_le ha.1
  obtain ⟨y, rfl⟩ := Int.eq_ofNat_of_zero_le hb.1
  have e1 := i64_or_nat (x * 16) (y * 2) (by omega) (by omega)
  rw [nat_join 4 _ _ (by omega) (by omega)] at e1
  rw [show ((x : Int) * 16) = ((x * 16 : Nat) : Int) from by omega, show ((y : Int) * 2) = ((y * 2 : Nat) : Int) from by omega, e1]
  have e2 := i64_or_nat (x * 16 + y * 2) 1 (by omega) (by omega)
  rw [nat_join 1 _ _ (by omega) (by omega)] at e2
  rw [show (1 : Int) = ((1 : Nat) : Int) from rfl, e2]
  omega
theorem first_or {a : Int} (ha : 0 ≤ a ∧ a ≤ 2047) : bits .or .i64 6144 a = 6144 + a := by
  obtain ⟨x, rfl⟩ := Int.eq_ofNat_of_zero_le ha.1
  have e1 := i64_or_nat 6144 x (by omega) (by omega)
  rw [nat_join 11 _ _ (by omega) (by omega)] at e1
  rw [show (6144 : Int) = ((6144 : Nat) : Int) from rfl, e1]
  omega
end Go.Proofs.Ytolcaolmdfbfhaa
