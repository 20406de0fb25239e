/-
  The bytes of a packet, plainly. No program is named here.
-/
import Derived.Test.YtolcaolmdfbfhaaPkt
import Derived.Test.YtolcaolmdfbfhaaGateP
import Derived.Test.YtolcaolmdfbfhaaBe
import Derived.Test.YtolcaolmdfbfhaaMore
namespace Go.Proofs.Ytolcaolmdfbfhaa
set_option linter.unusedSimpArgs false
set_option linter.unusedVariables false
open Go.RowKit

def pktRange (p : Pkt) : Prop := (0 ≤ p.apid ∧ p.apid ≤ 2047) ∧ (0 ≤ p.part ∧ p.part ≤ 3) ∧ (0 ≤ p.count ∧ p.count ≤ 16383)
instance (p : Pkt) : Decidable (pktRange p) := by unfold pktRange; infer_instance
def pktSize (p : Pkt) : Prop := 1 ≤ p.data.length ∧ p.data.length ≤ 65536
instance (p : Pkt) : Decidable (pktSize p) := by unfold pktSize; infer_instance
/-- What is wrong with a packet. -/
def pktMay (p : Pkt) : Int := if pktRange p then if pktSize p then 0 else 1 else 2
def pktFirst (u s : Bool) (a : Nat) : Nat := flag u 1 * 4096 + flag s 1 * 2048 + a
def pktBody (F C : Nat) (d : List UInt8) : List UInt8 := be (F : Nat) 2 ++ be (C : Nat) 2 ++ be (d.length - 1 : Nat) 2 ++ d
def pktBytes (p : Pkt) : List UInt8 × Int :=
  if pktMay p = 0 then (pktBody (pktFirst p.up p.second p.apid.toNat) (p.part.toNat * 16384 + p.count.toNat) p.data, 0) else ([], pktMay p)
theorem pktBody_length (F C : Nat) (d : List UInt8) : (pktBody F C d).length = d.length + 6 := by
  unfold pktBody
  simp [be_length]
  omega
theorem pktBytes_len (p : Pkt) : (pktBytes p).1.length ≤ 65542 := by
  unfold pktBytes
  split
  · rename_i h
    have : pktSize p := by
      unfold pktMay at h
      split at h
      · split at h
        · assumption
        · omega
      · omega
    simp only [pktBody_length]
    have := this.2
    omega
  · simp
theorem flagLe (b : Bool) : flag b 1 ≤ 1 := by cases b <;> simp [flag]
theorem pktFirst_lt (u s : Bool) {a : Nat} (h : a ≤ 2047) : pktFirst u s a < 8192 := by
  have := flagLe u
  have := flagLe s
  unfold pktFirst
  omega
theorem orLit (m : Nat) {x : Nat} {y : Int} (y' : Nat) (hy : y = (y' : Int)) (hx : x % 2 ^ m = 0) (hl : y' < 2 ^ m) (h : x + y' < 9223372036854775808) : bits .or .i64 (x : Int) y = ((x + y' : Nat) : Int) := by
  subst hy
  exact or_at m hx hl h
theorem orNew (i : Nat) {x : Nat} (hi : i ≤ 40) (h : x / 2 ^ i % 2 = 0) (hx : x < 1099511627776) : bits .or .i64 (x : Int) ((2 ^ i : Nat) : Int) = ((x + 2 ^ i : Nat) : Int) := by
  have h2 : 2 ^ i ≤ 2 ^ 40 := Nat.pow_le_pow_right (by omega) hi
  have e := i64_or_nat x (2 ^ i) (by omega) (by omega)
  have e2 : x ||| 2 ^ i = x + 2 ^ i := by
    have hp : 2 ^ (i + 1) = 2 * 2 ^ i := by rw [Nat.pow_succ, Nat.mul_comm]
    rw [Nat.or_comm]
    have hl : 2 ^ i ||| x = (x / 2 ^ (i + 1) * 2 ^ (i + 1)) + (2 ^ i + x % 2 ^ i) := by
      apply Nat.eq_of_testBit_eq
      intro j
      have hm : x % 2 ^ i < 2 ^ i := Nat.mod_lt _ (Nat.two_pow_pos i)
      have hs : 2 ^ i + x % 2 ^ i < 2 ^ (i + 1) := by omega
      rw [Nat.testBit_or, Nat.testBit_two_pow, Nat.mul_comm (x / 2 ^ (i + 1)), Nat.testBit_two_pow_mul_add _ hs]
      by_cases hj : j < i + 1
      · rw [if_pos hj]
        by_cases hji : j = i
        · subst hji
          rw [show 2 ^ j + x % 2 ^ j = 2 ^ j * 1 + x % 2 ^ j by omega, Nat.testBit_two_pow_mul_add _ hm]
          simp
        · rw [show 2 ^ i + x % 2 ^ i = 2 ^ i * 1 + x % 2 ^ i by omega, Nat.testBit_two_pow_mul_add _ hm, if_pos (by omega), Nat.testBit_mod_two_pow]
          simp [show ¬ i = j by omega, show j < i by omega]
      · rw [if_neg hj, Nat.testBit_div_two_pow, show j - (i + 1) + (i + 1) = j by omega]
        simp [show ¬ i = j by omega]
    rw [hl]
    have d1 : x / 2 ^ (i + 1) = x / 2 ^ i / 2 := by rw [Nat.pow_succ, Nat.div_div_eq_div_mul]
    have d2 := Nat.div_add_mod x (2 ^ i)
    have d3 : x / 2 ^ i = 2 * (x / 2 ^ i / 2) := by omega
    rw [d1, hp]
    generalize x / 2 ^ i / 2 = q at *
    rw [d3] at d2
    have : q * (2 * 2 ^ i) = 2 ^ i * (2 * q) := by rw [Nat.mul_comm q, Nat.mul_comm 2 (2 ^ i), Nat.mul_assoc]
    omega
  rw [e, e2]
/-- The first number, as the document joins it. -/
theorem first_doc {s w c : Nat} (hs : s ≤ 1) (hw : w ≤ 1) (hc : c ≤ 2047) :
    bits .or .i64 (bits .or .i64 ((s : Int) * 4096) ((w : Int) * 2048)) (c : Int) = ((s * 4096 + w * 2048 + c : Nat) : Int) := by
  rw [show ((s : Int) * 4096) = ((s * 4096 : Nat) : Int) from by omega, orLit 12 (w * 2048) (by omega) (by omega) (by omega) (by omega), or_at 11 (by omega) (by omega) (by omega)]
/-- The first number, as the program joins it. -/
def pfirstV (u s : Bool) (c : Nat) : Int :=
  let a := if u then bits .or .i64 (c : Int) 4096 else (c : Int)
  if s then bits .or .i64 a 2048 else a
theorem pfirst_prog (u s : Bool) {c : Nat} (hc : c ≤ 2047) : pfirstV u s c = ((pktFirst u s c : Nat) : Int) := by
  have h1 := orNew 12 (x := c) (by omega) (by rw [Nat.div_eq_of_lt (by omega)]) (by omega)
  have h2 := orNew 11 (x := c) (by omega) (by rw [Nat.div_eq_of_lt (by omega)]) (by omega)
  have h3 := orNew 11 (x := c + 4096) (by omega) (by simp; omega) (by omega)
  rw [show ((2 ^ 12 : Nat) : Int) = 4096 from rfl, show (2 ^ 12 : Nat) = 4096 from rfl] at h1
  rw [show ((2 ^ 11 : Nat) : Int) = 2048 from rfl, show (2 ^ 11 : Nat) = 2048 from rfl] at h2 h3
  unfold pfirstV pktFirst
  cases u <;> cases s <;> simp [flag]
  · rw [h2]; omega
  · rw [h1]; omega
  · rw [h1, h3]; omega
theorem second_num {a c : Nat} (hc : c ≤ 16383) (ha : a ≤ 3) : bits .or .i64 ((a : Int) * 16384) (c : Int) = ((a * 16384 + c : Nat) : Int) := by
  rw [show ((a : Int) * 16384) = ((a * 16384 : Nat) : Int) from by omega, or_at 14 (by omega) (by omega) (by omega)]
end Go.Proofs.Ytolcaolmdfbfhaa
