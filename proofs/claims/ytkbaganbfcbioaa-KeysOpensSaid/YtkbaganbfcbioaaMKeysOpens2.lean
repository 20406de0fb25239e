/-
  Blocks of a key, plainly. No program is named here. Tags, plainly. No program is named here. Keys that may be, and what covers bytes: plainly. No program is named here.
-/
import Derived.Test.YtkbaganbfcbioaaMKeysOpens1
namespace Go.Proofs.Ytkbaganbfcbioaa
set_option linter.unusedSimpArgs false
set_option linter.unusedVariables false
open Go.RowKit

def add32 (x y : Nat) : Nat := (x + y) % 4294967296
def rot32 (x k : Nat) : Nat := x * 2 ^ k % 4294967296 ||| x / 2 ^ (32 - k)
theorem add32_lt (x y : Nat) : add32 x y < 4294967296 := Nat.mod_lt _ (by decide)
theorem rot32_lt {x : Nat} (k : Nat) (h : x < 4294967296) : rot32 x k < 4294967296 := by
  refine Nat.or_lt_two_pow (n := 32) (Nat.mod_lt _ (by decide)) (Nat.lt_of_le_of_lt (Nat.div_le_self _ _) h)
theorem xor32_lt {x y : Nat} (h : x < 4294967296) (k : y < 4294967296) : x ^^^ y < 4294967296 := Nat.xor_lt_two_pow (n := 32) h k
/-- One number is another's sum; one is turned. -/
def stA (q : List Nat) (a b : Nat) : List Nat := q.set a (add32 (q.getD a 0) (q.getD b 0))
def stR (q : List Nat) (d a k : Nat) : List Nat := q.set d (rot32 (q.getD d 0 ^^^ q.getD a 0) k)
def stirH (q : List Nat) (a b c d r s : Nat) : List Nat := stR (stA (stR (stA q a b) d a r) c d) b c s
def stirL (q : List Nat) (a b c d : Nat) : List Nat := stirH (stirH q a b c d 13 9) a b c d 17 5
/-- Sixteen numbers of 32 bits. -/
structure Sq (q : List Nat) : Prop where
  len : q.length = 16
  lt : ∀ i, q.getD i 0 < 4294967296
theorem Sq.set {q : List Nat} (h : Sq q) {a v : Nat} (hv : v < 4294967296) : Sq (q.set a v) := by
  refine ⟨by rw [List.length_set]; exact h.len, fun i => ?_⟩
  have := h.lt i
  simp only [List.getD_eq_getElem?_getD, List.getElem?_set] at *
  split
  · split
    · simpa using hv
    · simp
  · exact this
theorem Sq.stA {q : List Nat} (h : Sq q) (a b : Nat) : Sq (stA q a b) := h.set (add32_lt _ _)
theorem Sq.stR {q : List Nat} (h : Sq q) (d a k : Nat) : Sq (stR q d a k) := h.set (rot32_lt _ (xor32_lt (h.lt _) (h.lt _)))
theorem Sq.stirH {q : List Nat} (h : Sq q) (a b c d r s : Nat) : Sq (stirH q a b c d r s) := (((h.stA a b).stR d a r).stA c d).stR b c s
theorem Sq.stirL {q : List Nat} (h : Sq q) (a b c d : Nat) : Sq (stirL q a b c d) := (h.stirH a b c d 13 9).stirH a b c d 17 5
/-- The first k of four columns, and of four slants; a round; six of them. -/
def colsL (q : List Nat) : Nat → List Nat
  | 0 => q
  | k + 1 => stirL (colsL q k) k (k + 4) (k + 8) (k + 12)
def slantsL (q : List Nat) : Nat → List Nat
  | 0 => q
  | k + 1 => stirL (slantsL q k) k (4 + (k + 1) % 4) (8 + (k + 2) % 4) (12 + (k + 3) % 4)
def roundsL (q : List Nat) : Nat → List Nat
  | 0 => q
  | k + 1 => slantsL (colsL (roundsL q k) 4) 4
theorem Sq.cols {q : List Nat} (h : Sq q) : ∀ k, Sq (colsL q k)
  | 0 => h
  | k + 1 => (Sq.cols h k).stirL _ _ _ _
theorem Sq.slants {q : List Nat} (h : Sq q) : ∀ k, Sq (slantsL q k)
  | 0 => h
  | k + 1 => (Sq.slants h k).stirL _ _ _ _
theorem Sq.rounds {q : List Nat} (h : Sq q) : ∀ k, Sq (roundsL q k)
  | 0 => h
  | k + 1 => ((Sq.rounds h k).cols 4).slants 4
/-- What is stirred first. -/
def firstL (words : List Nat) (counter index : Nat) : List Nat := [1752326502, 745302369, 2036689696, 1684107296] ++ words ++ [index, counter % 4294967296, counter / 4294967296, 0]
/-- Four bytes of a number, the lowest first. -/
def le4 (n : Nat) : List UInt8 := [UInt8.ofNat n, UInt8.ofNat (n / 256), UInt8.ofNat (n / 65536), UInt8.ofNat (n / 16777216)]
def outTo (q f : List Nat) : Nat → List UInt8
  | 0 => []
  | i + 1 => outTo q f i ++ le4 (add32 (q.getD i 0) (f.getD i 0))
theorem outTo_length (q f : List Nat) : ∀ i, (outTo q f i).length = 4 * i
  | 0 => rfl
  | i + 1 => by rw [outTo, List.length_append, outTo_length q f i]; simp [le4]; omega
def padL (words : List Nat) (counter index : Nat) : List UInt8 := outTo (roundsL (firstL words counter index) 6) (firstL words counter index) 16
/-- What is wrong with a key's words, a counter, an index? -/
def padErr (words : List Int) (counter index : Int) : Int :=
  if words.length ≠ 8 then 1 else if (∀ x ∈ words, 0 ≤ x ∧ x ≤ 4294967295) ∧ 0 ≤ counter ∧ counter ≤ 281474976710655 ∧ 0 ≤ index ∧ index ≤ 1000 then 0 else 2
def padR (words : List Int) (counter index : Int) : List UInt8 × Int :=
  if padErr words counter index = 0 then (padL (words.map Int.toNat) counter.toNat index.toNat, 0) else ([], padErr words counter index)
/-- Numbers as ints. -/
def nls (q : List Nat) : List Int := q.map fun (n : Nat) => (n : Int)
theorem nls_length (q : List Nat) : (nls q).length = q.length := by simp [nls]
theorem nls_get {q : List Nat} {i : Nat} (h : i < q.length) : (ivs (nls q))[i]? = some (.int .i64 (q.getD i 0 : Nat)) := by
  simp [ivs, nls, iv, List.getD, h]
theorem nls_set (q : List Nat) (i v : Nat) : (nls q).set i (v : Int) = nls (q.set i v) := by simp [nls, List.map_set]
/-- Numbers of 32 bits as the model's values. -/
def uvs (q : List Nat) : List Value := q.map fun (n : Nat) => .int .u32 (n : Int)
theorem uvs_length (q : List Nat) : (uvs q).length = q.length := by simp [uvs]
theorem uvs_get {q : List Nat} {i : Nat} (h : i < q.length) : (uvs q)[i]? = some (.int .u32 (q.getD i 0 : Nat)) := by simp [uvs, List.getD, h]
theorem colsL_zero (q : List Nat) : colsL q 0 = q := rfl
theorem colsL_succ (q : List Nat) (k : Nat) : colsL q (k + 1) = stirL (colsL q k) k (k + 4) (k + 8) (k + 12) := rfl
theorem slantsL_zero (q : List Nat) : slantsL q 0 = q := rfl
theorem slantsL_succ (q : List Nat) (k : Nat) : slantsL q (k + 1) = stirL (slantsL q k) k (4 + (k + 1) % 4) (8 + (k + 2) % 4) (12 + (k + 3) % 4) := rfl
theorem roundsL_zero (q : List Nat) : roundsL q 0 = q := rfl
theorem roundsL_succ (q : List Nat) (k : Nat) : roundsL q (k + 1) = slantsL (colsL (roundsL q k) 4) 4 := rfl
theorem outTo_zero (q f : List Nat) : outTo q f 0 = [] := rfl
theorem outTo_succ (q f : List Nat) (i : Nat) : outTo q f (i + 1) = outTo q f i ++ le4 (add32 (q.getD i 0) (f.getD i 0)) := rfl
theorem padL_eq (words : List Nat) (counter index : Nat) : padL words counter index = outTo (roundsL (firstL words counter index) 6) (firstL words counter index) 16 := rfl
theorem slantsL_four (q : List Nat) : slantsL q 4 = stirL (stirL (stirL (stirL q 0 5 10 15) 1 6 11 12) 2 7 8 13) 3 4 9 14 := rfl
theorem padL_length (words : List Nat) (counter index : Nat) : (padL words counter index).length = 64 := outTo_length _ _ 16
attribute [irreducible] colsL slantsL roundsL outTo padL
end Go.Proofs.Ytkbaganbfcbioaa
namespace Go.Proofs.Ytkbaganbfcbioaa
set_option linter.unusedSimpArgs false
set_option linter.unusedVariables false
open Go.RowKit

def bP : Nat := 2305843009213693951
theorem bP_eq : bP = 2305843009213693951 := rfl
/-- Bytes as one number, the highest first. -/
def numB (l : List UInt8) : Nat := l.foldl (fun n x => n * 256 + x.toNat) 0
theorem numB_nil : numB [] = 0 := rfl
theorem numB_snoc (l : List UInt8) (x : UInt8) : numB (l ++ [x]) = numB l * 256 + x.toNat := by simp [numB]
theorem list_snoc {α : Type} (l : List α) (h : l ≠ []) : ∃ a x, l = a ++ [x] := ⟨l.dropLast, l.getLast h, (List.dropLast_concat_getLast h).symm⟩
theorem numB_lt : ∀ (n : Nat) (l : List UInt8), l.length = n → numB l < 256 ^ n
  | 0, l, h => by rw [List.length_eq_zero_iff.1 h]; decide
  | n + 1, l, h => by
    obtain ⟨a, x, rfl⟩ := list_snoc l (fun e => by rw [e] at h; simp at h)
    rw [numB_snoc, Nat.pow_succ]
    have := numB_lt n a (by simpa using h)
    have := x.toNat_lt
    omega
theorem numB_take {l : List UInt8} {k : Nat} (h : k < l.length) : numB (l.take (k + 1)) = numB (l.take k) * 256 + (l.getD k 0).toNat := by
  rw [List.take_succ_eq_append_getElem h, numB_snoc]
  simp [List.getD, h]
/-- The groups of seven. -/
def grp (b : List UInt8) (k : Nat) : List UInt8 := (b.drop (7 * k)).take 7
theorem grp_len (b : List UInt8) (k : Nat) : (grp b k).length = min 7 (b.length - 7 * k) := by simp [grp]
theorem grp_le (b : List UInt8) (k : Nat) : (grp b k).length ≤ 7 := by rw [grp_len]; omega
def grpN (b : List UInt8) (k : Nat) : Nat := numB (grp b k) + 256 ^ (grp b k).length
theorem pow256_le {n : Nat} (h : n ≤ 7) : 256 ^ n ≤ 72057594037927936 := Nat.pow_le_pow_right (n := 256) (by decide) h
theorem grpN_lt (b : List UInt8) (k : Nat) : grpN b k < 144115188075855872 := by
  have h1 := numB_lt _ (grp b k) rfl
  have h2 := pow256_le (grp_le b k)
  unfold grpN
  omega
def sumTo (b : List UInt8) (r : Nat) : Nat → Nat
  | 0 => 0
  | k + 1 => (sumTo b r k + grpN b k) * r % bP
theorem sumTo_zero (b : List UInt8) (r : Nat) : sumTo b r 0 = 0 := rfl
theorem sumTo_succ (b : List UInt8) (r k : Nat) : sumTo b r (k + 1) = (sumTo b r k + grpN b k) * r % bP := rfl
theorem sumTo_lt (b : List UInt8) (r : Nat) : ∀ k, sumTo b r k < bP
  | 0 => by rw [sumTo_zero]; decide
  | k + 1 => Nat.mod_lt _ (by decide)
/-- Eight bytes of a number, the highest first: the first i of them. -/
def be8To (s i : Nat) : List UInt8 := (List.range i).map fun j => UInt8.ofNat (s / 2 ^ (56 - 8 * j))
theorem be8To_zero (s : Nat) : be8To s 0 = [] := rfl
theorem be8To_succ (s i : Nat) : be8To s (i + 1) = be8To s i ++ [UInt8.ofNat (s / 2 ^ (56 - 8 * i))] := by simp [be8To, List.range_succ]
theorem be8To_len (s i : Nat) : (be8To s i).length = i := by simp [be8To]
def tagN (p b : List UInt8) : Nat := (sumTo b (numB (p.take 8) % bP) ((b.length + 6) / 7) + numB ((p.drop 8).take 8) % bP) % bP
theorem tagN_lt (p b : List UInt8) : tagN p b < bP := Nat.mod_lt _ (by decide)
def tagL (words : List Nat) (counter : Nat) (b : List UInt8) : List UInt8 := be8To (tagN (padL words counter 0) b) 8
theorem tagL_len (words : List Nat) (counter : Nat) (b : List UInt8) : (tagL words counter b).length = 8 := be8To_len _ _
def tagErr (words : List Int) (counter : Int) (n : Nat) : Int := if padErr words counter 0 ≠ 0 then padErr words counter 0 else if 2000 < n then 1 else 0
def tagR (words : List Int) (counter : Int) (b : List UInt8) : List UInt8 × Int :=
  if tagErr words counter b.length = 0 then (tagL (words.map Int.toNat) counter.toNat b, 0) else ([], tagErr words counter b.length)

/-! ### the document's way -/
/-- Eight bytes modulo P, bit by bit: the first i bits. -/
def modTo (l : List UInt8) (i : Nat) : Nat := numB l / 2 ^ (64 - i) % bP
theorem numB_eight {l : List UInt8} (h : l.length = 8) : numB l = (l.getD 0 0).toNat * 72057594037927936 + (l.getD 1 0).toNat * 281474976710656 + (l.getD 2 0).toNat * 1099511627776 + (l.getD 3 0).toNat * 4294967296 + (l.getD 4 0).toNat * 16777216 + (l.getD 5 0).toNat * 65536 + (l.getD 6 0).toNat * 256 + (l.getD 7 0).toNat := by
  match l, h with
  | [a, b, c, d, e, f, g, i], _ =>
    simp only [numB, List.foldl, List.getD_cons_zero, List.getD_cons_succ]
    omega
theorem bit_step (l : List UInt8) (h : l.length = 8) {i : Nat} (hi : i < 64) : numB l / 2 ^ (64 - (i + 1)) = 2 * (numB l / 2 ^ (64 - i)) + (l.getD (i / 8) 0).toNat / 2 ^ (7 - i % 8) % 2 := by
  have e := numB_eight h
  have h0 := (l.getD 0 0).toNat_lt
  have h1 := (l.getD 1 0).toNat_lt
  have h2 := (l.getD 2 0).toNat_lt
  have h3 := (l.getD 3 0).toNat_lt
  have h4 := (l.getD 4 0).toNat_lt
  have h5 := (l.getD 5 0).toNat_lt
  have h6 := (l.getD 6 0).toNat_lt
  have h7 := (l.getD 7 0).toNat_lt
  have hd : numB l / 2 ^ (64 - i) = numB l / 2 ^ (64 - (i + 1)) / 2 := by
    rw [Nat.div_div_eq_div_mul, ← Nat.pow_succ]
    congr 2
    omega
  rw [hd]
  have hb : numB l / 2 ^ (64 - (i + 1)) % 2 = (l.getD (i / 8) 0).toNat / 2 ^ (7 - i % 8) % 2 := by
    have hs : 64 - (i + 1) = 8 * (7 - i / 8) + (7 - i % 8) := by omega
    rw [hs, Nat.pow_add, ← Nat.div_div_eq_div_mul]
    have hk : i / 8 < 8 := by omega
    generalize i / 8 = j at *
    have hs7 : 7 - i % 8 ≤ 7 := by omega
    generalize 7 - i % 8 = s at *
    have hc : ∃ q, numB l / 2 ^ (8 * (7 - j)) = 256 * q + (l.getD j 0).toNat := by
      have : j = 0 ∨ j = 1 ∨ j = 2 ∨ j = 3 ∨ j = 4 ∨ j = 5 ∨ j = 6 ∨ j = 7 := by omega
      rcases this with rfl | rfl | rfl | rfl | rfl | rfl | rfl | rfl
      · exact ⟨0, by show numB l / 72057594037927936 = _; omega⟩
      · exact ⟨(l.getD 0 0).toNat, by show numB l / 281474976710656 = _; omega⟩
      · exact ⟨(l.getD 0 0).toNat * 256 + (l.getD 1 0).toNat, by show numB l / 1099511627776 = _; omega⟩
      · exact ⟨(l.getD 0 0).toNat * 65536 + (l.getD 1 0).toNat * 256 + (l.getD 2 0).toNat, by show numB l / 4294967296 = _; omega⟩
      · exact ⟨(l.getD 0 0).toNat * 16777216 + (l.getD 1 0).toNat * 65536 + (l.getD 2 0).toNat * 256 + (l.getD 3 0).toNat, by show numB l / 16777216 = _; omega⟩
      · exact ⟨(l.getD 0 0).toNat * 4294967296 + (l.getD 1 0).toNat * 16777216 + (l.getD 2 0).toNat * 65536 + (l.getD 3 0).toNat * 256 + (l.getD 4 0).toNat, by show numB l / 65536 = _; omega⟩
      · exact ⟨(l.getD 0 0).toNat * 1099511627776 + (l.getD 1 0).toNat * 4294967296 + (l.getD 2 0).toNat * 16777216 + (l.getD 3 0).toNat * 65536 + (l.getD 4 0).toNat * 256 + (l.getD 5 0).toNat, by show numB l / 256 = _; omega⟩
      · exact ⟨(l.getD 0 0).toNat * 281474976710656 + (l.getD 1 0).toNat * 1099511627776 + (l.getD 2 0).toNat * 4294967296 + (l.getD 3 0).toNat * 16777216 + (l.getD 4 0).toNat * 65536 + (l.getD 5 0).toNat * 256 + (l.getD 6 0).toNat, by show numB l / 1 = _; omega⟩
    obtain ⟨q, hq⟩ := hc
    rw [hq]
    have hx := (l.getD j 0).toNat_lt
    generalize (l.getD j 0).toNat = x at *
    have : s = 0 ∨ s = 1 ∨ s = 2 ∨ s = 3 ∨ s = 4 ∨ s = 5 ∨ s = 6 ∨ s = 7 := by omega
    clear e hq hd h0 h1 h2 h3 h4 h5 h6 h7
    rcases this with rfl | rfl | rfl | rfl | rfl | rfl | rfl | rfl <;> omega
  omega
theorem modTo_zero {l : List UInt8} (h : l.length = 8) : modTo l 0 = 0 := by
  have := numB_lt 8 l h
  unfold modTo
  rw [Nat.div_eq_of_lt (by simpa using this)]
  rfl
theorem modTo_succ {l : List UInt8} (h : l.length = 8) {i : Nat} (hi : i < 64) : modTo l (i + 1) = (2 * modTo l i + (l.getD (i / 8) 0).toNat / 2 ^ (7 - i % 8) % 2) % bP := by
  unfold modTo
  rw [bit_step l h hi]
  conv => lhs; rw [Nat.add_mod, Nat.mul_mod, ]
  conv => rhs; rw [Nat.add_mod, Nat.mul_mod, Nat.mod_mod]
theorem modTo_end (l : List UInt8) : modTo l 64 = numB l % bP := by unfold modTo; simp
/-- The product modulo P, by doubling: the bits of b from i on. -/
def timTo (a b i : Nat) : Nat := b / 2 ^ i * a % bP
theorem timTo_start {a b : Nat} (h : b < 2305843009213693952) : timTo a b 61 = 0 := by
  unfold timTo
  rw [Nat.div_eq_of_lt (by simpa using h)]
  simp
theorem timTo_end (a b : Nat) : timTo a b 0 = b * a % bP := by unfold timTo; simp
theorem timTo_next (a b i : Nat) : timTo a b i = (if b / 2 ^ i % 2 = 1 then (timTo a b (i + 1) * 2 % bP + a) % bP else timTo a b (i + 1) * 2 % bP) := by
  unfold timTo
  have hd : b / 2 ^ (i + 1) = b / 2 ^ i / 2 := by rw [Nat.div_div_eq_div_mul, ← Nat.pow_succ]
  rw [hd]
  generalize b / 2 ^ i = x
  have e2 : x / 2 * a % bP * 2 % bP = x / 2 * 2 * a % bP := by rw [Nat.mod_mul_mod, Nat.mul_right_comm]
  rw [e2]
  split
  · rename_i h
    rw [Nat.mod_add_mod]
    congr 1
    have : x = x / 2 * 2 + 1 := by omega
    conv => lhs; rw [this, Nat.add_mul, Nat.one_mul]
  · congr 2
    omega
end Go.Proofs.Ytkbaganbfcbioaa
namespace Go.Proofs.Ytkbaganbfcbioaa
set_option linter.unusedSimpArgs false
set_option linter.unusedVariables false
open Go.RowKit

/-- The counters that were seen, of a top one: the document's words; and a bound. -/
def seenOk (s : Nat) (t : Int) : Prop := s < 4611686018427387904 ∧ ∀ i : Nat, i < 62 → s / 2 ^ i % 2 = 1 → (i : Int) + 1 ≤ t
theorem seen_iff (s : Nat) (t : Int) : seenOk s t ↔ s < 2 ^ (min 62 t.toNat) := by
  constructor
  · rintro ⟨h1, h2⟩
    rcases Nat.lt_or_ge s (2 ^ (min 62 t.toNat)) with h | h
    · exact h
    · exfalso
      have hs : s ≠ 0 := fun e => by
        subst e
        have := Nat.two_pow_pos (min 62 t.toNat)
        omega
      have a1 := Nat.log2_self_le hs
      have a2 := @Nat.lt_log2_self s
      have hb : s.log2 < 62 := by
        rcases Nat.lt_or_ge s.log2 62 with h' | h'
        · exact h'
        · have : 2 ^ 62 ≤ 2 ^ s.log2 := Nat.pow_le_pow_right (by decide) h'
          omega
      have hm : min 62 t.toNat ≤ s.log2 := by
        have : 2 ^ (min 62 t.toNat) < 2 ^ (s.log2 + 1) := Nat.lt_of_le_of_lt h a2
        have := (Nat.pow_lt_pow_iff_right (a := 2) (by decide)).1 this
        omega
      have hd : s / 2 ^ s.log2 = 1 := by
        rw [Nat.pow_succ] at a2
        exact Nat.div_eq_of_lt_le (by omega) (by omega)
      have := h2 s.log2 hb (by rw [hd])
      omega
  · intro h
    refine ⟨Nat.lt_of_lt_of_le h (Nat.pow_le_pow_right (n := 2) (by decide) (Nat.min_le_left 62 _)), fun i hi hbit => ?_⟩
    have h2 : 2 ^ i ≤ s := by
      rcases Nat.lt_or_ge s (2 ^ i) with h' | h'
      · rw [Nat.div_eq_of_lt h'] at hbit
        cases hbit
      · exact h'
    have h3 := (Nat.pow_lt_pow_iff_right (a := 2) (by decide)).1 (Nat.lt_of_le_of_lt h2 h)
    omega
/-- How many bits a number has. -/
def lenB (n : Nat) : Nat := if n = 0 then 0 else n.log2 + 1
theorem lenB_le {n m : Nat} : lenB n ≤ m ↔ n < 2 ^ m := by
  unfold lenB
  split
  · rename_i h
    subst h
    exact ⟨fun _ => Nat.two_pow_pos m, fun _ => Nat.zero_le _⟩
  · rename_i h
    have a1 := Nat.log2_self_le h
    have a2 := @Nat.lt_log2_self n
    constructor
    · intro hl
      exact Nat.lt_of_lt_of_le a2 (Nat.pow_le_pow_right (by decide) hl)
    · intro hn
      have := (Nat.pow_lt_pow_iff_right (a := 2) (by decide)).1 (Nat.lt_of_le_of_lt a1 hn)
      omega
theorem lenB_div {n k : Nat} (h : 2 ^ k ≤ n) : lenB n = k + lenB (n / 2 ^ k) := by
  refine Nat.le_antisymm ?_ ?_
  · rw [lenB_le, Nat.pow_add]
    have : n / 2 ^ k < 2 ^ lenB (n / 2 ^ k) := lenB_le.1 (Nat.le_refl _)
    exact (Nat.div_lt_iff_lt_mul (Nat.two_pow_pos k)).1 this |> fun h => by rwa [Nat.mul_comm] at h
  · have hk : k ≤ lenB n := by
      have h1 : n < 2 ^ lenB n := lenB_le.1 (Nat.le_refl _)
      have := (Nat.pow_lt_pow_iff_right (a := 2) (by decide)).1 (Nat.lt_of_le_of_lt h h1)
      omega
    have h2 : lenB (n / 2 ^ k) ≤ lenB n - k := by
      rw [lenB_le, Nat.div_lt_iff_lt_mul (Nat.two_pow_pos k), ← Nat.pow_add, Nat.sub_add_cancel hk]
      exact lenB_le.1 (Nat.le_refl _)
    omega
/-- Bytes under the blocks from index 1 on. -/
def coverTo (words : List Nat) (counter : Nat) (b : List UInt8) (i : Nat) : List UInt8 := (List.range i).map fun j => b.getD j 0 ^^^ (padL words counter (1 + j / 64)).getD (j % 64) 0
theorem coverTo_succ (words : List Nat) (counter : Nat) (b : List UInt8) (i : Nat) : coverTo words counter b (i + 1) = coverTo words counter b i ++ [b.getD i 0 ^^^ (padL words counter (1 + i / 64)).getD (i % 64) 0] := by simp [coverTo, List.range_succ]
theorem coverTo_len (words : List Nat) (counter : Nat) (b : List UInt8) (i : Nat) : (coverTo words counter b i).length = i := by simp [coverTo]
end Go.Proofs.Ytkbaganbfcbioaa
