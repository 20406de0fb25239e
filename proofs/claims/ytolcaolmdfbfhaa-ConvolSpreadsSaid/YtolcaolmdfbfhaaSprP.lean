/-
  The convolutional code, plainly. No program is named here.
-/
import Derived.Test.YtolcaolmdfbfhaaBase
import Derived.Test.YtolcaolmdfbfhaaGateP
namespace Go.Proofs.Ytolcaolmdfbfhaa
set_option linter.unusedSimpArgs false
set_option linter.unusedVariables false
open Go.RowKit

def bitI (l : List UInt8) (i : Nat) : Nat := (l.getD i 0).toNat
def stN (l : List UInt8) : Nat → Nat
  | 0 => 0
  | k + 1 => (stN l k * 2 + bitI l k) % 64
def symA (b : Nat) : Nat := (b + b / 2 + b / 4 + b / 8 + b / 64) % 2
def symB (b : Nat) : Nat := (1 + b + b / 4 + b / 8 + b / 32 + b / 64) % 2
def pats : Nat → Bool → List Bool
  | 2, false => [true, false]
  | 2, true => [true, true]
  | 3, false => [true, false, true]
  | 3, true => [true, true, false]
  | 4, false => [true, false, true, false, true]
  | 4, true => [true, true, false, true, false]
  | 5, false => [true, false, false, false, true, false, true]
  | 5, true => [true, true, true, true, false, true, false]
  | _, _ => [true]
def keptP (r i : Nat) (s : Bool) : Bool := (pats r s).getD (i % (pats r s).length) false
def outAt (l : List UInt8) (r k : Nat) : List UInt8 :=
  (if keptP r k false then [UInt8.ofNat (symA (stN l k * 2 + bitI l k))] else []) ++ (if keptP r k true then [UInt8.ofNat (symB (stN l k * 2 + bitI l k))] else [])
def sprN (l : List UInt8) (r : Nat) : Nat → List UInt8
  | 0 => []
  | k + 1 => sprN l r k ++ outAt l r k
def bitsOnly (l : List UInt8) : Prop := ∀ x ∈ l, x.toNat ≤ 1
instance (l : List UInt8) : Decidable (bitsOnly l) := by unfold bitsOnly; infer_instance
/-- What comes of bits, and the error. -/
def spread (l : List UInt8) (r : Int) : List UInt8 × Int :=
  if 1 ≤ r ∧ r ≤ 5 then if l.length ≤ 16384 then if bitsOnly l then (sprN l r.toNat (l.length + 6), 0) else ([], 2) else ([], 1) else ([], 6)
theorem stN_succ (l : List UInt8) (k : Nat) : stN l (k + 1) = (stN l k * 2 + bitI l k) % 64 := rfl
theorem sprN_succ (l : List UInt8) (r k : Nat) : sprN l r (k + 1) = sprN l r k ++ outAt l r k := rfl
theorem stN_lt (l : List UInt8) (k : Nat) : stN l k < 64 := by
  cases k with
  | zero => simp [stN]
  | succ k => rw [stN_succ]; omega
theorem sprN_len (l : List UInt8) (r k : Nat) : (sprN l r k).length ≤ 2 * k := by
  induction k with
  | zero => simp [sprN]
  | succ k ih =>
    rw [sprN_succ, List.length_append]
    unfold outAt
    split <;> split <;> simp <;> omega
theorem spread_len (l : List UInt8) (r : Int) : (spread l r).1.length ≤ 65542 := by
  unfold spread
  split
  · split
    · split
      · have := sprN_len l r.toNat (l.length + 6)
        simp only
        omega
      · simp
    · simp
  · simp
theorem bitI_lt {l : List UInt8} (h : bitsOnly l) (k : Nat) : bitI l k ≤ 1 := by
  unfold bitI
  by_cases hk : k < l.length
  · rw [List.getD_eq_getElem?_getD, List.getElem?_eq_getElem hk]
    exact h _ (List.getElem_mem hk)
  · rw [List.getD_eq_getElem?_getD, List.getElem?_eq_none (by omega)]
    simp
theorem bitI_end {l : List UInt8} {k : Nat} (h : l.length ≤ k) : bitI l k = 0 := by
  unfold bitI
  rw [List.getD_eq_getElem?_getD, List.getElem?_eq_none h]
  rfl
theorem symA_lt (b : Nat) : symA b < 2 := Nat.mod_lt _ (by omega)
theorem symB_lt (b : Nat) : symB b < 2 := Nat.mod_lt _ (by omega)
theorem bv_small {a : Nat} (h : a < 2) : bv (UInt8.ofNat a) = .int .u8 (a : Int) := by
  unfold bv
  have : (UInt8.ofNat a).toNat = a := by simp; omega
  rw [this]
theorem sym_one_all : ∀ b : Fin 128, bits .and .i64 (bits .xor .i64 (bits .xor .i64 (bits .xor .i64 (bits .xor .i64 ((b.val : Nat) : Int) (((b.val : Nat) : Int) / 2)) (((b.val : Nat) : Int) / 4)) (((b.val : Nat) : Int) / 8)) (((b.val : Nat) : Int) / 64)) 1 = ((symA b.val : Nat) : Int) := by decide +kernel
theorem sym_two_all : ∀ b : Fin 128, bits .and .i64 (bits .xor .i64 (bits .xor .i64 (bits .xor .i64 (bits .xor .i64 (bits .xor .i64 1 ((b.val : Nat) : Int)) (((b.val : Nat) : Int) / 4)) (((b.val : Nat) : Int) / 8)) (((b.val : Nat) : Int) / 32)) (((b.val : Nat) : Int) / 64)) 1 = ((symB b.val : Nat) : Int) := by decide +kernel
theorem join_bit {s b : Nat} (hb : b ≤ 1) (hs : s < 64) : bits .or .i64 ((s : Int) * 2) (b : Int) = ((s * 2 + b : Nat) : Int) := by
  rw [show ((s : Int) * 2) = ((s * 2 : Nat) : Int) from by omega, or_at 1 (by omega) (by omega) (by omega)]
theorem u64_and_nat (a b : Nat) (ha : a < 18446744073709551616) (hb : b < 18446744073709551616) : bits .and .u64 (a : Int) (b : Int) = ((a &&& b : Nat) : Int) := by
  have hx : a &&& b ≤ a := Nat.and_le_left
  show IntKind.u64.wrap ((BitVec.ofInt 64 (a : Int) &&& BitVec.ofInt 64 (b : Int)).toNat : Int) = _
  have h1 : (BitVec.ofInt 64 (a : Int)).toNat = a := by rw [BitVec.toNat_ofInt]; omega
  have h2 : (BitVec.ofInt 64 (b : Int)).toNat = b := by rw [BitVec.toNat_ofInt]; omega
  rw [BitVec.toNat_and, h1, h2]
  exact IntWalk.u64_in _ (by omega)
/-- Ones of a number of seven bits, as the library counts them. -/
def pop1 (x : Nat) : Nat := (x / 2 &&& 6148914691236517205) + (x &&& 6148914691236517205)
def pop2 (x : Nat) : Nat := (x / 4 &&& 3689348814741910323) + (x &&& 3689348814741910323)
def pop3 (x : Nat) : Nat := (x / 16 + x) &&& 1085102592571150095
def popN (x : Nat) : Nat := pop3 (pop2 (pop1 x))
theorem pop_all : ∀ b : Fin 128, pop1 b.val < 128 ∧ pop2 (pop1 b.val) < 128 ∧ popN b.val < 8 ∧ popN (b.val &&& 79) % 2 = symA b.val ∧ popN (b.val &&& 109) % 2 = 1 - symB b.val := by decide +kernel
end Go.Proofs.Ytolcaolmdfbfhaa
