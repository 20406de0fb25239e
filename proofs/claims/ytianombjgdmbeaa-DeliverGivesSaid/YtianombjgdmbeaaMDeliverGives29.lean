/-
  A file's sum, in groups of four bytes. Plainly. What a giver gives in one tick. Plainly.
-/
import Derived.Test.YtianombjgdmbeaaMDeliverGives28
import Derived.Test.YtianombjgdmbeaaMDeliverGives7
namespace Go.Proofs.Ytianombjgdmbeaa
set_option linter.unusedSimpArgs false
set_option linter.unusedVariables false
open Go.RowKit

/-- The byte at a place, none behind the end. -/
def bAt (l : List UInt8) (i : Nat) : Nat := (l.getD i 0).toNat
def g4 (l : List UInt8) (k : Nat) : Nat := bAt l (4 * k) * 16777216 + bAt l (4 * k + 1) * 65536 + bAt l (4 * k + 2) * 256 + bAt l (4 * k + 3)
theorem bAt_lt (l : List UInt8) (i : Nat) : bAt l i < 256 := byte_lt _
theorem bAt_in {l : List UInt8} {i : Nat} (h : i < l.length) : bAt l i = l[i].toNat := by unfold bAt; rw [List.getD_eq_getElem?_getD, List.getElem?_eq_getElem h, Option.getD_some]
theorem bAt_out {l : List UInt8} {i : Nat} (h : l.length ≤ i) : bAt l i = 0 := by unfold bAt; rw [List.getD_eq_getElem?_getD, List.getElem?_eq_none h, Option.getD_none]; rfl
theorem fsum_succ (l : List UInt8) (k : Nat) : fsumTo l (k + 1) = fsumTo l k + bAt l k * wgt k := rfl
theorem fsum_four (l : List UInt8) (k : Nat) : fsumTo l (4 * (k + 1)) = fsumTo l (4 * k) + g4 l k := by
  have h0 : wgt (4 * k) = 16777216 := by unfold wgt; rw [if_pos (by omega)]
  have h1 : wgt (4 * k + 1) = 65536 := by unfold wgt; rw [if_neg (by omega), if_pos (by omega)]
  have h2 : wgt (4 * k + 2) = 256 := by unfold wgt; rw [if_neg (by omega), if_neg (by omega), if_pos (by omega)]
  have h3 : wgt (4 * k + 3) = 1 := by unfold wgt; rw [if_neg (by omega), if_neg (by omega), if_neg (by omega)]
  rw [show 4 * (k + 1) = 4 * k + 3 + 1 by omega, fsum_succ, fsum_succ, fsum_succ, fsum_succ, h0, h1, h2, h3]
  unfold g4
  omega
attribute [irreducible] g4
theorem fsum_past (l : List UInt8) : ∀ d, fsumTo l (l.length + d) = fsumTo l l.length
  | 0 => rfl
  | d + 1 => by
    show fsumTo l (l.length + d + 1) = _
    rw [fsum_succ, fsum_past l d, bAt_out (by omega)]
    omega
def m32 : Nat := 4294967296
theorem m32_eq : m32 = 4294967296 := rfl
theorem m32_pos : 0 < m32 := by rw [m32_eq]; omega
def stepF4 (l : List UInt8) (s k : Nat) : Nat := (s + g4 l k) % m32
theorem stepF4_eq (l : List UInt8) (s k : Nat) : stepF4 l s k = (s + g4 l k) % m32 := by unfold stepF4; exact Eq.refl _
attribute [irreducible] stepF4
/-- The sum over groups that are told one by one. -/
def sumF4 (l : List UInt8) (pre : List Nat) : Nat := pre.foldl (stepF4 l) 0
theorem foldl_snoc {α β : Type} (f : β → α → β) (z : β) (l : List α) (a : α) : (l ++ [a]).foldl f z = f (l.foldl f z) a := by
  rw [List.foldl_append]
  rfl
theorem sumF4_snoc (l : List UInt8) (pre : List Nat) (k : Nat) : sumF4 l (pre ++ [k]) = (sumF4 l pre + g4 l k) % m32 := (foldl_snoc (stepF4 l) 0 pre k).trans (stepF4_eq l _ k)
theorem sumF4_range (l : List UInt8) (k : Nat) : sumF4 l (List.range k) = fsumTo l (4 * k) % m32 := by
  induction k with
  | zero => exact (Nat.zero_mod _).symm
  | succ k ih => rw [List.range_succ, sumF4_snoc, ih, fsum_four, Nat.mod_add_mod]
theorem sumF4_lt (l : List UInt8) (pre : List Nat) : sumF4 l pre < m32 := by
  rcases List.eq_nil_or_concat pre with rfl | ⟨q, k, rfl⟩
  · exact m32_pos
  · rw [List.concat_eq_append, sumF4_snoc]
    exact Nat.mod_lt _ m32_pos
theorem sumF4_all (l : List UInt8) (k : Nat) (h : l.length ≤ 4 * k) : ((sumF4 l (List.range k) : Nat) : Int) = fileSum l := by
  rw [sumF4_range]
  unfold fileSum
  have := fsum_past l (4 * k - l.length)
  rw [show l.length + (4 * k - l.length) = 4 * k by omega] at this
  rw [this, m32_eq]
/-- The bytes of a group, joined. -/
theorem or_u32 {x y m : Nat} (hx : x % 2 ^ m = 0) (hy : y < 2 ^ m) (h : x + y < 4294967296) : bits .or .u32 (x : Int) (y : Int) = ((x + y : Nat) : Int) := by
  have e : x ||| y = x + y := by
    have hd := Nat.div_add_mod x (2 ^ m)
    rw [hx, Nat.add_zero] at hd
    rw [← hd, Nat.mul_comm, ← Nat.shiftLeft_eq, ← Nat.shiftLeft_add_eq_or_of_lt hy]
  show IntKind.u32.wrap ((BitVec.ofInt 32 (x : Int) ||| BitVec.ofInt 32 (y : Int)).toNat : Nat) = _
  rw [BitVec.toNat_or, BitVec.toNat_ofInt, BitVec.toNat_ofInt]
  have h1 : ((x : Int) % ((2 ^ 32 : Nat) : Int)).toNat = x := by omega
  have h2 : ((y : Int) % ((2 ^ 32 : Nat) : Int)).toNat = y := by omega
  rw [h1, h2, e]
  simp [IntKind.wrap, IntKind.signed, IntKind.bits, IntKind.min, IntKind.max]
  omega
end Go.Proofs.Ytianombjgdmbeaa
namespace Go.Proofs.Ytianombjgdmbeaa
set_option linter.unusedSimpArgs false
set_option linter.unusedVariables false
open Go.RowKit

def metaN (x : Gv) : Nt := ⟨1, x.id, x.name, (x.file.length : Int), 0, 0, [], [], 0, 0⟩
def endN (x : Gv) : Nt := ⟨3, x.id, ⟨#[]⟩, (x.file.length : Int), fileSum x.file, 0, [], [], 0, 0⟩
/-- The bytes from one place up to another. -/
def cutL (l : List UInt8) (a b : Int) : List UInt8 := (l.take b.toNat).drop a.toNat
def pieceN (x : Gv) (a b : Int) : Nt := ⟨2, x.id, ⟨#[]⟩, 0, 0, a, cutL x.file a b, [], 0, 0⟩
theorem cutL_len {l : List UInt8} {a b : Int} (h0 : 0 ≤ a) (h1 : a ≤ b) (h2 : b ≤ l.length) : ((cutL l a b).length : Int) = b - a := by
  unfold cutL
  rw [List.length_drop, List.length_take]
  omega
/-- One round: who it is then, the note, whether the burst ends with it; none: nothing is left to give. -/
def givR (x : Gv) : Option (Gv × Nt × Bool) :=
  if x.first = true then some ({ x with first := false }, metaN x, false)
  else match x.again with
    | g :: l =>
      if g.2 = 0 then some ({ x with again := l }, metaN x, false)
      else if g.2 ≤ g.1 + x.most then some ({ x with again := l }, pieceN x g.1 g.2, false)
      else some ({ x with again := (g.1 + x.most, g.2) :: l }, pieceN x g.1 (g.1 + x.most), false)
    | [] =>
      if x.stage = 0 then
        if x.at_ < x.file.length then
          if x.file.length ≤ x.at_ + x.most then some ({ x with at_ := (x.file.length : Int) }, pieceN x x.at_ (x.file.length : Int), false)
          else some ({ x with at_ := x.at_ + x.most }, pieceN x x.at_ (x.at_ + x.most), false)
        else some ({ x with stage := 1, timer := 0, tries := 0 }, endN x, true)
      else none
/-- The rounds; what was given lies ahead. -/
def givN : Nat → Gv → List Nt → Gv × List Nt
  | 0, x, out => (x, out)
  | k + 1, x, out => match givR x with
    | none => (x, out)
    | some (y, n, true) => (y, out ++ [n])
    | some (y, n, false) => givN k y (out ++ [n])
theorem givN_zero (x : Gv) (out : List Nt) : givN 0 x out = (x, out) := rfl
theorem givN_none {x : Gv} (h : givR x = none) (k : Nat) (out : List Nt) : givN k x out = (x, out) := by
  cases k with
  | zero => rfl
  | succ k => unfold givN; rw [h]
theorem givN_last {x y : Gv} {n : Nt} (h : givR x = some (y, n, true)) (k : Nat) (out : List Nt) : givN (k + 1) x out = (y, out ++ [n]) := by rw [givN, h]
theorem givN_go {x y : Gv} {n : Nt} (h : givR x = some (y, n, false)) (k : Nat) (out : List Nt) : givN (k + 1) x out = givN k y (out ++ [n]) := by rw [givN, h]
theorem givR_first {x : Gv} (h : x.first = true) : givR x = some ({ x with first := false }, metaN x, false) := by unfold givR; rw [if_pos h]
/-- The wait behind the burst: only for who asked, or was open, before. -/
def givW (s0 : Int) (x : Gv) (out : List Nt) : Gv × List Nt :=
  if s0 = 1 ∨ s0 = 2 then
    if x.timer + 1 = x.patience then
      if x.limit < x.tries + 1 then ({ x with timer := 0, tries := x.limit, stage := 4 }, out)
      else ({ x with timer := 0, tries := x.tries + 1 }, out ++ [endN x])
    else ({ x with timer := x.timer + 1 }, out)
  else (x, out)
/-- All that a tick gives. -/
def giveR (x : Gv) : Gv × List Nt :=
  if x.stage = 3 ∨ x.stage = 4 then (x, [])
  else
    let r := givN x.burst.toNat x []
    givW x.stage r.1 r.2
theorem giveR_over {x : Gv} (h : x.stage = 3 ∨ x.stage = 4) : giveR x = (x, []) := by unfold giveR; rw [if_pos h]
theorem giveR_go {x : Gv} (h : ¬ (x.stage = 3 ∨ x.stage = 4)) : giveR x = givW x.stage (givN x.burst.toNat x []).1 (givN x.burst.toNat x []).2 := by unfold giveR; rw [if_neg h]
end Go.Proofs.Ytianombjgdmbeaa
