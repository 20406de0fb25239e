/-
  A file's sum, by the document: plainly, and FileSum walked. A file's sum, in groups of four bytes. Plainly.
-/
import Derived.Test.YtianombjgdmbeaaMDeliverTakes1
import Derived.Test.YtianombjgdmbeaaMDeliverTakes2
import Derived.Laws.BitsLemmas
import Derived.RegionTactic
import Derived.Deep.DeepCutAuto
namespace Go.Proofs.Ytianombjgdmbeaa
set_option linter.unusedSimpArgs false
set_option linter.unusedVariables false
open Go.RowKit

/-- What a byte weighs in the sum. -/
def wgt (i : Nat) : Nat := if i % 4 = 0 then 16777216 else if i % 4 = 1 then 65536 else if i % 4 = 2 then 256 else 1
def fsumTo (l : List UInt8) : Nat → Nat
  | 0 => 0
  | k + 1 => fsumTo l k + (l.getD k 0).toNat * wgt k
def fileSum (l : List UInt8) : Int := ((fsumTo l l.length % 4294967296 : Nat) : Int)
theorem i64_mask32 (n : Int) : bits .and .i64 n 4294967295 = n % 4294967296 := by
  have h32 : (BitVec.ofInt 64 4294967295).toNat = 2 ^ 32 - 1 := by decide
  have key : (BitVec.ofInt 64 n &&& BitVec.ofInt 64 4294967295).toNat = (n % ((2 ^ 64 : Nat) : Int)).toNat % 2 ^ 32 := by
    rw [BitVec.toNat_and, BitVec.toNat_ofInt, h32, Nat.and_two_pow_sub_one_eq_mod]
  show IntKind.i64.wrap ((BitVec.ofInt 64 n &&& BitVec.ofInt 64 4294967295).toNat : Nat) = n % 4294967296
  rw [key, IntKind.wrap_i64]
  omega
theorem sum_step {S y a : Int} (h : S % 4294967296 = a % 4294967296) : wrap64 (S + y) % 4294967296 = (a + y) % 4294967296 := by
  unfold wrap64
  omega
theorem fsum_step (l : List UInt8) (k : Nat) (c : Int) (hk : k < l.length) (hc : (wgt k : Int) = c) : ((fsumTo l (k + 1) : Nat) : Int) = (fsumTo l k : Int) + (l[k].toNat : Int) * c := by
  show ((fsumTo l k + (l.getD k 0).toNat * wgt k : Nat) : Int) = _
  rw [List.getD_eq_getElem?_getD, List.getElem?_eq_getElem hk, Option.getD_some, Int.natCast_add, Int.natCast_mul, hc]
set_option maxHeartbeats 1600000 in
set_option maxRecDepth 100000 in
theorem fileSum_any (A : Option Addr) (l : List UInt8) (n c : Nat) (w : World) (hn : l.length = n) (ha : Rd w A (bvs l)) (hz : n ≤ 140737488351300) :
    Calls Try.prog 18 #[.slice A n c] w fun e w' => e = .returned (.int .i64 (fileSum l)) ∧ w' = w := by
  have hmask := i64_mask32
  have HN := Lib.hid hn
  have HA := Lib.hid ha
  clear hn ha
  go_enter Try.func18, Try.ntmps18
  go_wp2_with fail
  go_loop [3, 4] (fun sv iv => ∃ (i : Nat) (S : Int), i ≤ n ∧ sv = .int .i64 S ∧ iv = .int .i64 (i : Int) ∧ Hid (S % 4294967296 = (fsumTo l i : Int) % 4294967296)) (fun _ iv => n - (intOf iv).toNat)
  case atStart => exact ⟨0, 0, Nat.zero_le _, rfl, rfl, Lib.hid rfl⟩
  case round =>
    obtain ⟨i, S, hi, rfl, rfl, HS⟩ := hrel
    by_cases h5 : i < n
    · have h5i : (i : Int) < (n : Int) := by omega
      have hip : (0 : Int) ≤ (i : Int) := by omega
      have hil : i < l.length := by rw [HN.out]; exact h5
      obtain ⟨b, o, rfl, hc⟩ := HA.out.byte hil
      have hx := byte_lt l[i]
      have HF := Lib.hid (fun (c : Int) (hc : (wgt i : Int) = c) => fsum_step l i c hil hc)
      generalize l[i].toNat = x at *
      clear hil
      have r4 : i % 4 = 0 ∨ i % 4 = 1 ∨ i % 4 = 2 ∨ i % 4 = 3 := by omega
      rcases r4 with r | r | r | r
      · have HW : Hid ((wgt i : Int) = 16777216) := Lib.hid (by unfold wgt; simp [r])
        have ri : (i : Int) % 4 = 0 := by omega
        clear r
        go_wp2_with fail
        go_round
        case rel => exact ⟨i + 1, _, by omega, rfl, by go_num, Lib.hid (by rw [HF.out 16777216 HW.out]; first | exact sum_step HS.out | (rw [Int.mul_one]; exact sum_step HS.out))⟩
        case measure => simp [intOf]; omega
      · have HW : Hid ((wgt i : Int) = 65536) := Lib.hid (by unfold wgt; simp [r])
        have ri : (i : Int) % 4 = 1 := by omega
        clear r
        go_wp2_with fail
        go_round
        case rel => exact ⟨i + 1, _, by omega, rfl, by go_num, Lib.hid (by rw [HF.out 65536 HW.out]; first | exact sum_step HS.out | (rw [Int.mul_one]; exact sum_step HS.out))⟩
        case measure => simp [intOf]; omega
      · have HW : Hid ((wgt i : Int) = 256) := Lib.hid (by unfold wgt; simp [r])
        have ri : (i : Int) % 4 = 2 := by omega
        clear r
        go_wp2_with fail
        go_round
        case rel => exact ⟨i + 1, _, by omega, rfl, by go_num, Lib.hid (by rw [HF.out 256 HW.out]; first | exact sum_step HS.out | (rw [Int.mul_one]; exact sum_step HS.out))⟩
        case measure => simp [intOf]; omega
      · have HW : Hid ((wgt i : Int) = 1) := Lib.hid (by unfold wgt; simp [r])
        have ri : (i : Int) % 4 = 3 := by omega
        clear r
        go_wp2_with fail
        go_round
        case rel => exact ⟨i + 1, _, by omega, rfl, by go_num, Lib.hid (by rw [HF.out 1 HW.out]; first | exact sum_step HS.out | (rw [Int.mul_one]; exact sum_step HS.out))⟩
        case measure => simp [intOf]; omega
    · obtain rfl : i = n := by omega
      have h5i : ¬ (i : Int) < (i : Int) := by omega
      go_wp2_with fail
      go_ret
      refine ⟨?_, rfl⟩
      apply ret_int
      unfold fileSum
      rw [HN.out, HS.out]
      omega
end Go.Proofs.Ytianombjgdmbeaa
namespace Go.Proofs.Ytianombjgdmbeaa
set_option linter.unusedSimpArgs false
set_option linter.unusedVariables false
open Go.RowKit

/-- The byte at a place, none behind the end. -/
def bAt (l : List UInt8) (i : Nat) : Nat := (l.getD i 0).toNat
def g4 (l : List UInt8) (k : Nat) : Nat := bAt l (4 * k) * 16777216 + bAt l (4 * k + 1) * 65536 + bAt l (4 * k + 2) * 256 + bAt l (4 * k + 3)
theorem bAt_lt (l : List UInt8) (i : Nat) : bAt l i < 256 := byte_lt _
theorem bAt_in {l : List UInt8} {i : Nat} (h : i < l.length) : bAt l i = l[i].toNat := by unfold bAt; rw [List.getD_eq_getElem?_getD, List.getElem?_eq_getElem h, Option.getD_some]
theorem bAt_out {l : List UInt8} {i : Nat} (h : l.length ≤ i) : bAt l i = 0 := by unfold bAt; rw [List.getD_eq_getElem?_getD, List.getElem?_eq_none h, Option.getD_none]; rfl
theorem fsum_succ (l : List UInt8) (k : Nat) : fsumTo l (k + 1) = fsumTo l k + bAt l k * wgt k := rfl
theorem fsum_four (l : List UInt8) (k : Nat) : fsumTo l (4 * (k + 1)) = fsumTo l (4 * k) + g4 l k := by
  have h0 : wgt (4 * k) = 16777216 := by unfold wgt; rw [if_pos (by omega)]
  have h1 : wgt (4 * k + 1) = 65536 := by unfold wgt; rw [if_neg (by omega), if_pos (by omega)]
  have h2 : wgt (4 * k + 2) = 256 := by unfold wgt; rw [if_neg (by omega), if_neg (by omega), if_pos (by omega)]
  have h3 : wgt (4 * k + 3) = 1 := by unfold wgt; rw [if_neg (by omega), if_neg (by omega), if_neg (by omega)]
  rw [show 4 * (k + 1) = 4 * k + 3 + 1 by omega, fsum_succ, fsum_succ, fsum_succ, fsum_succ, h0, h1, h2, h3]
  unfold g4
  omega
attribute [irreducible] g4
theorem fsum_past (l : List UInt8) : ∀ d, fsumTo l (l.length + d) = fsumTo l l.length
  | 0 => rfl
  | d + 1 => by
    show fsumTo l (l.length + d + 1) = _
    rw [fsum_succ, fsum_past l d, bAt_out (by omega)]
    omega
def m32 : Nat := 4294967296
theorem m32_eq : m32 = 4294967296 := rfl
theorem m32_pos : 0 < m32 := by rw [m32_eq]; omega
def stepF4 (l : List UInt8) (s k : Nat) : Nat := (s + g4 l k) % m32
theorem stepF4_eq (l : List UInt8) (s k : Nat) : stepF4 l s k = (s + g4 l k) % m32 := by unfold stepF4; exact Eq.refl _
attribute [irreducible] stepF4
/-- The sum over groups that are told one by one. -/
def sumF4 (l : List UInt8) (pre : List Nat) : Nat := pre.foldl (stepF4 l) 0
theorem foldl_snoc {α β : Type} (f : β → α → β) (z : β) (l : List α) (a : α) : (l ++ [a]).foldl f z = f (l.foldl f z) a := by
  rw [List.foldl_append]
  rfl
theorem sumF4_snoc (l : List UInt8) (pre : List Nat) (k : Nat) : sumF4 l (pre ++ [k]) = (sumF4 l pre + g4 l k) % m32 := (foldl_snoc (stepF4 l) 0 pre k).trans (stepF4_eq l _ k)
theorem sumF4_range (l : List UInt8) (k : Nat) : sumF4 l (List.range k) = fsumTo l (4 * k) % m32 := by
  induction k with
  | zero => exact (Nat.zero_mod _).symm
  | succ k ih => rw [List.range_succ, sumF4_snoc, ih, fsum_four, Nat.mod_add_mod]
theorem sumF4_lt (l : List UInt8) (pre : List Nat) : sumF4 l pre < m32 := by
  rcases List.eq_nil_or_concat pre with rfl | ⟨q, k, rfl⟩
  · exact m32_pos
  · rw [List.concat_eq_append, sumF4_snoc]
    exact Nat.mod_lt _ m32_pos
theorem sumF4_all (l : List UInt8) (k : Nat) (h : l.length ≤ 4 * k) : ((sumF4 l (List.range k) : Nat) : Int) = fileSum l := by
  rw [sumF4_range]
  unfold fileSum
  have := fsum_past l (4 * k - l.length)
  rw [show l.length + (4 * k - l.length) = 4 * k by omega] at this
  rw [this, m32_eq]
/-- The bytes of a group, joined. -/
theorem or_u32 {x y m : Nat} (hx : x % 2 ^ m = 0) (hy : y < 2 ^ m) (h : x + y < 4294967296) : bits .or .u32 (x : Int) (y : Int) = ((x + y : Nat) : Int) := by
  have e : x ||| y = x + y := by
    have hd := Nat.div_add_mod x (2 ^ m)
    rw [hx, Nat.add_zero] at hd
    rw [← hd, Nat.mul_comm, ← Nat.shiftLeft_eq, ← Nat.shiftLeft_add_eq_or_of_lt hy]
  show IntKind.u32.wrap ((BitVec.ofInt 32 (x : Int) ||| BitVec.ofInt 32 (y : Int)).toNat : Nat) = _
  rw [BitVec.toNat_or, BitVec.toNat_ofInt, BitVec.toNat_ofInt]
  have h1 : ((x : Int) % ((2 ^ 32 : Nat) : Int)).toNat = x := by omega
  have h2 : ((y : Int) % ((2 ^ 32 : Nat) : Int)).toNat = y := by omega
  rw [h1, h2, e]
  simp [IntKind.wrap, IntKind.signed, IntKind.bits, IntKind.min, IntKind.max]
  omega
end Go.Proofs.Ytianombjgdmbeaa
