/-
  A key: what it reads as; whether it may be. Plainly.
-/
import Derived.Test.YtkbaganbfcbioaaSealP
import Derived.Test.YtkbaganbfcbioaaKeyRef
namespace Go.Proofs.Ytkbaganbfcbioaa
set_option linter.unusedSimpArgs false
set_option linter.unusedVariables false
open Go.RowKit

structure Ky where
  id : Int
  words : List Int
  top : Int
  seen : Int
def kyv (x : Ky) (A : Option Addr) (c : Nat) : Value := .agg #[.int .i64 x.id, .slice A x.words.length c, .int .i64 x.top, .int .i64 x.seen]
def keyPre (x : Ky) : Prop := ((0 ≤ x.id ∧ x.id ≤ 255) ∧ padErr x.words 0 0 = 0) ∧ (-1 ≤ x.top ∧ x.top ≤ 281474976710655) ∧ 0 ≤ x.seen
instance (x : Ky) : Decidable (keyPre x) := by unfold keyPre; infer_instance
def keyOk (x : Ky) : Prop := keyPre x ∧ x.seen.toNat < 2 ^ (min 62 x.top.toNat)
instance (x : Ky) : Decidable (keyOk x) := by unfold keyOk; infer_instance
theorem keyOk_seen {x : Ky} (h : keyPre x) : keyOk x ↔ seenOk x.seen.toNat x.top := by
  unfold keyOk
  rw [seen_iff]
  exact ⟨fun h => h.2, fun k => ⟨h, k⟩⟩
theorem keyOk_len {x : Ky} (h : keyPre x) : keyOk x ↔ lenB x.seen.toNat ≤ min 62 x.top.toNat := by
  unfold keyOk
  rw [lenB_le]
  exact ⟨fun h => h.2, fun k => ⟨h, k⟩⟩
theorem keyOk_not {x : Ky} (h : ¬ keyPre x) : decide (keyOk x) = false := decide_eq_false (fun k => h k.1)
/-- Six bytes of a counter, the highest first. -/
def be6To (s i : Nat) : List UInt8 := (List.range i).map fun j => UInt8.ofNat (s / 2 ^ (40 - 8 * j))
theorem be6To_zero (s : Nat) : be6To s 0 = [] := rfl
theorem be6To_succ (s i : Nat) : be6To s (i + 1) = be6To s i ++ [UInt8.ofNat (s / 2 ^ (40 - 8 * i))] := by simp [be6To, List.range_succ]
theorem be6To_len (s i : Nat) : (be6To s i).length = i := by simp [be6To]
/-- What is sealed, but for the tag; the whole. -/
def sealHead (x : Ky) (C : Nat) : List UInt8 := [UInt8.ofNat x.id.toNat] ++ be6To C 6
def coverL (W : List Nat) (C : Nat) (b : List UInt8) : List UInt8 := coverTo W C b b.length
theorem coverL_len (W : List Nat) (C : Nat) (b : List UInt8) : (coverL W C b).length = b.length := coverTo_len _ _ _ _
def sealBody (x : Ky) (C : Nat) (b : List UInt8) : List UInt8 := sealHead x C ++ coverL (x.words.map Int.toNat) C b
def sealL (x : Ky) (C : Nat) (b : List UInt8) : List UInt8 := sealBody x C b ++ tagL (x.words.map Int.toNat) C (sealBody x C b)
def sealErr (x : Ky) (C : Int) (n : Nat) : Int := if ¬ keyOk x then 11 else if C < 0 ∨ 281474976710655 < C then 2 else if 1000 < n then 1 else 0
def sealR (x : Ky) (C : Int) (b : List UInt8) : List UInt8 × Int := if sealErr x C b.length = 0 then (sealL x C.toNat b, 0) else ([], sealErr x C b.length)
theorem sealHead_len (x : Ky) (C : Nat) : (sealHead x C).length = 7 := by simp [sealHead, be6To_len]
theorem sealBody_len (x : Ky) (C : Nat) (b : List UInt8) : (sealBody x C b).length = 7 + b.length := by simp [sealBody, sealHead_len, coverL_len]
theorem sealL_len (x : Ky) (C : Nat) (b : List UInt8) : (sealL x C b).length = 15 + b.length := by simp [sealL, sealBody_len, tagL_len]; omega
end Go.Proofs.Ytkbaganbfcbioaa
