/-
  Tags, plainly. No program is named here.
-/
import Derived.Test.YtkbaganbfcbioaaKeyP
namespace Go.Proofs.Ytkbaganbfcbioaa
set_option linter.unusedSimpArgs false
set_option linter.unusedVariables false
open Go.RowKit

def bP : Nat := 2305843009213693951
theorem bP_eq : bP = 2305843009213693951 := rfl
/-- Bytes as one number, the highest first. -/
def numB (l : List UInt8) : Nat := l.foldl (fun n x => n * 256 + x.toNat) 0
theorem numB_nil : numB [] = 0 := rfl
theorem numB_snoc (l : List UInt8) (x : UInt8) : numB (l ++ [x]) = numB l * 256 + x.toNat := by simp [numB]
theorem list_snoc {α : Type} (l : List α) (h : l ≠ []) : ∃ a x, l = a ++ [x] := ⟨l.dropLast, l.getLast h, (List.dropLast_concat_getLast h).symm⟩
theorem numB_lt : ∀ (n : Nat) (l : List UInt8), l.length = n → numB l < 256 ^ n
  | 0, l, h => by rw [List.length_eq_zero_iff.1 h]; decide
  | n + 1, l, h => by
    obtain ⟨a, x, rfl⟩ := list_snoc l (fun e => by rw [e] at h; simp at h)
    rw [numB_snoc, Nat.pow_succ]
    have := numB_lt n a (by simpa using h)
    have := x.toNat_lt
    omega
theorem numB_take {l : List UInt8} {k : Nat} (h : k < l.length) : numB (l.take (k + 1)) = numB (l.take k) * 256 + (l.getD k 0).toNat := by
  rw [List.take_succ_eq_append_getElem h, numB_snoc]
  simp [List.getD, h]
/-- The groups of seven. -/
def grp (b : List UInt8) (k : Nat) : List UInt8 := (b.drop (7 * k)).take 7
theorem grp_len (b : List UInt8) (k : Nat) : (grp b k).length = min 7 (b.length - 7 * k) := by simp [grp]
theorem grp_le (b : List UInt8) (k : Nat) : (grp b k).length ≤ 7 := by rw [grp_len]; omega
def grpN (b : List UInt8) (k : Nat) : Nat := numB (grp b k) + 256 ^ (grp b k).length
theorem pow256_le {n : Nat} (h : n ≤ 7) : 256 ^ n ≤ 72057594037927936 := Nat.pow_le_pow_right (n := 256) (by decide) h
theorem grpN_lt (b : List UInt8) (k : Nat) : grpN b k < 144115188075855872 := by
  have h1 := numB_lt _ (grp b k) rfl
  have h2 := pow256_le (grp_le b k)
  unfold grpN
  omega
def sumTo (b : List UInt8) (r : Nat) : Nat → Nat
  | 0 => 0
  | k + 1 => (sumTo b r k + grpN b k) * r % bP
theorem sumTo_zero (b : List UInt8) (r : Nat) : sumTo b r 0 = 0 := rfl
theorem sumTo_succ (b : List UInt8) (r k : Nat) : sumTo b r (k + 1) = (sumTo b r k + grpN b k) * r % bP := rfl
theorem sumTo_lt (b : List UInt8) (r : Nat) : ∀ k, sumTo b r k < bP
  | 0 => by rw [sumTo_zero]; decide
  | k + 1 => Nat.mod_lt _ (by decide)
/-- Eight bytes of a number, the highest first: the first i of them. -/
def be8To (s i : Nat) : List UInt8 := (List.range i).map fun j => UInt8.ofNat (s / 2 ^ (56 - 8 * j))
theorem be8To_zero (s : Nat) : be8To s 0 = [] := rfl
theorem be8To_succ (s i : Nat) : be8To s (i + 1) = be8To s i ++ [UInt8.ofNat (s / 2 ^ (56 - 8 * i))] := by simp [be8To, List.range_succ]
theorem be8To_len (s i : Nat) : (be8To s i).length = i := by simp [be8To]
def tagN (p b : List UInt8) : Nat := (sumTo b (numB (p.take 8) % bP) ((b.length + 6) / 7) + numB ((p.drop 8).take 8) % bP) % bP
theorem tagN_lt (p b : List UInt8) : tagN p b < bP := Nat.mod_lt _ (by decide)
def tagL (words : List Nat) (counter : Nat) (b : List UInt8) : List UInt8 := be8To (tagN (padL words counter 0) b) 8
theorem tagL_len (words : List Nat) (counter : Nat) (b : List UInt8) : (tagL words counter b).length = 8 := be8To_len _ _
def tagErr (words : List Int) (counter : Int) (n : Nat) : Int := if padErr words counter 0 ≠ 0 then padErr words counter 0 else if 2000 < n then 1 else 0
def tagR (words : List Int) (counter : Int) (b : List UInt8) : List UInt8 × Int :=
  if tagErr words counter b.length = 0 then (tagL (words.map Int.toNat) counter.toNat b, 0) else ([], tagErr words counter b.length)

/-! ### the document's way -/
/-- Eight bytes modulo P, bit by bit: the first i bits. -/
def modTo (l : List UInt8) (i : Nat) : Nat := numB l / 2 ^ (64 - i) % bP
theorem numB_eight {l : List UInt8} (h : l.length = 8) : numB l = (l.getD 0 0).toNat * 72057594037927936 + (l.getD 1 0).toNat * 281474976710656 + (l.getD 2 0).toNat * 1099511627776 + (l.getD 3 0).toNat * 4294967296 + (l.getD 4 0).toNat * 16777216 + (l.getD 5 0).toNat * 65536 + (l.getD 6 0).toNat * 256 + (l.getD 7 0).toNat := by
  match l, h with
  | [a, b, c, d, e, f, g, i], _ =>
    simp only [numB, List.foldl, List.getD_cons_zero, List.getD_cons_succ]
    omega
theorem bit_step (l : List UInt8) (h : l.length = 8) {i : Nat} (hi : i < 64) : numB l / 2 ^ (64 - (i + 1)) = 2 * (numB l / 2 ^ (64 - i)) + (l.getD (i / 8) 0).toNat / 2 ^ (7 - i % 8) % 2 := by
  have e := numB_eight h
  have h0 := (l.getD 0 0).toNat_lt
  have h1 := (l.getD 1 0).toNat_lt
  have h2 := (l.getD 2 0).toNat_lt
  have h3 := (l.getD 3 0).toNat_lt
  have h4 := (l.getD 4 0).toNat_lt
  have h5 := (l.getD 5 0).toNat_lt
  have h6 := (l.getD 6 0).toNat_lt
  have h7 := (l.getD 7 0).toNat_lt
  have hd : numB l / 2 ^ (64 - i) = numB l / 2 ^ (64 - (i + 1)) / 2 := by
    rw [Nat.div_div_eq_div_mul, ← Nat.pow_succ]
    congr 2
    omega
  rw [hd]
  have hb : numB l / 2 ^ (64 - (i + 1)) % 2 = (l.getD (i / 8) 0).toNat / 2 ^ (7 - i % 8) % 2 := by
    have hs : 64 - (i + 1) = 8 * (7 - i / 8) + (7 - i % 8) := by omega
    rw [hs, Nat.pow_add, ← Nat.div_div_eq_div_mul]
    have hk : i / 8 < 8 := by omega
    generalize i / 8 = j at *
    have hs7 : 7 - i % 8 ≤ 7 := by omega
    generalize 7 - i % 8 = s at *
    have hc : ∃ q, numB l / 2 ^ (8 * (7 - j)) = 256 * q + (l.getD j 0).toNat := by
      have : j = 0 ∨ j = 1 ∨ j = 2 ∨ j = 3 ∨ j = 4 ∨ j = 5 ∨ j = 6 ∨ j = 7 := by omega
      rcases this with rfl | rfl | rfl | rfl | rfl | rfl | rfl | rfl
      · exact ⟨0, by show numB l / 72057594037927936 = _; omega⟩
      · exact ⟨(l.getD 0 0).toNat, by show numB l / 281474976710656 = _; omega⟩
      · exact ⟨(l.getD 0 0).toNat * 256 + (l.getD 1 0).toNat, by show numB l / 1099511627776 = _; omega⟩
      · exact ⟨(l.getD 0 0).toNat * 65536 + (l.getD 1 0).toNat * 256 + (l.getD 2 0).toNat, by show numB l / 4294967296 = _; omega⟩
      · exact ⟨(l.getD 0 0).toNat * 16777216 + (l.getD 1 0).toNat * 65536 + (l.getD 2 0).toNat * 256 + (l.getD 3 0).toNat, by show numB l / 16777216 = _; omega⟩
      · exact ⟨(l.getD 0 0).toNat * 4294967296 + (l.getD 1 0).toNat * 16777216 + (l.getD 2 0).toNat * 65536 + (l.getD 3 0).toNat * 256 + (l.getD 4 0).toNat, by show numB l / 65536 = _; omega⟩
      · exact ⟨(l.getD 0 0).toNat * 1099511627776 + (l.getD 1 0).toNat * 4294967296 + (l.getD 2 0).toNat * 16777216 + (l.getD 3 0).toNat * 65536 + (l.getD 4 0).toNat * 256 + (l.getD 5 0).toNat, by show numB l / 256 = _; omega⟩
      · exact ⟨(l.getD 0 0).toNat * 281474976710656 + (l.getD 1 0).toNat * 1099511627776 + (l.getD 2 0).toNat * 4294967296 + (l.getD 3 0).toNat * 16777216 + (l.getD 4 0).toNat * 65536 + (l.getD 5 0).toNat * 256 + (l.getD 6 0).toNat, by show numB l / 1 = _; omega⟩
    obtain ⟨q, hq⟩ := hc
    rw [hq]
    have hx := (l.getD j 0).toNat_lt
    generalize (l.getD j 0).toNat = x at *
    have : s = 0 ∨ s = 1 ∨ s = 2 ∨ s = 3 ∨ s = 4 ∨ s = 5 ∨ s = 6 ∨ s = 7 := by omega
    clear e hq hd h0 h1 h2 h3 h4 h5 h6 h7
    rcases this with rfl | rfl | rfl | rfl | rfl | rfl | rfl | rfl <;> omega
  omega
theorem modTo_zero {l : List UInt8} (h : l.length = 8) : modTo l 0 = 0 := by
  have := numB_lt 8 l h
  unfold modTo
  rw [Nat.div_eq_of_lt (by simpa using this)]
  rfl
theorem modTo_succ {l : List UInt8} (h : l.length = 8) {i : Nat} (hi : i < 64) : modTo l (i + 1) = (2 * modTo l i + (l.getD (i / 8) 0).toNat / 2 ^ (7 - i % 8) % 2) % bP := by
  unfold modTo
  rw [bit_step l h hi]
  conv => lhs; rw [Nat.add_mod, Nat.mul_mod, ]
  conv => rhs; rw [Nat.add_mod, Nat.mul_mod, Nat.mod_mod]
theorem modTo_end (l : List UInt8) : modTo l 64 = numB l % bP := by unfold modTo; simp
/-- The product modulo P, by doubling: the bits of b from i on. -/
def timTo (a b i : Nat) : Nat := b / 2 ^ i * a % bP
theorem timTo_start {a b : Nat} (h : b < 2305843009213693952) : timTo a b 61 = 0 := by
  unfold timTo
  rw [Nat.div_eq_of_lt (by simpa using h)]
  simp
theorem timTo_end (a b : Nat) : timTo a b 0 = b * a % bP := by unfold timTo; simp
theorem timTo_next (a b i : Nat) : timTo a b i = (if b / 2 ^ i % 2 = 1 then (timTo a b (i + 1) * 2 % bP + a) % bP else timTo a b (i + 1) * 2 % bP) := by
  unfold timTo
  have hd : b / 2 ^ (i + 1) = b / 2 ^ i / 2 := by rw [Nat.div_div_eq_div_mul, ← Nat.pow_succ]
  rw [hd]
  generalize b / 2 ^ i = x
  have e2 : x / 2 * a % bP * 2 % bP = x / 2 * 2 * a % bP := by rw [Nat.mod_mul_mod, Nat.mul_right_comm]
  rw [e2]
  split
  · rename_i h
    rw [Nat.mod_add_mod]
    congr 1
    have : x = x / 2 * 2 + 1 := by omega
    conv => lhs; rw [this, Nat.add_mul, Nat.one_mul]
  · congr 2
    omega
end Go.Proofs.Ytkbaganbfcbioaa
