/-
  The document's products, of bytes.
-/
import Derived.Test.YtclcgfngolfmlaaOverP
import Derived.Test.YtclcgfngolfmlaaPoly
import Derived.Deep.RegionLaw
namespace Go.Proofs.Ytclcgfngolfmlaa
set_option linter.unusedSimpArgs false
set_option linter.unusedVariables false
open Go.RowKit

theorem rmulB_o (x y : Int) (a b : UInt8) (w : World) (hx : x = (a.toNat : Int)) (hy : y = (b.toNat : Int)) :
    Calls Try.prog 88 #[.int .u8 x, .int .u8 y] w fun e w' => e = .returned (.int .u8 ((mulB a b).toNat : Int)) ∧ w = w' := by
  rw [mulB_nat]
  exact rmul_i x y _ _ w hx hy a.toNat_lt b.toNat_lt
/-- The quotient, and whether there is one. -/
def divB (a b : UInt8) : UInt8 := if b = 0 then 0 else mulB a (invB b)
theorem divF_at (a b : UInt8) : divF a.toNat b.toNat = ((divB a b).toNat, decide (b ≠ 0)) := by
  unfold divF divB
  by_cases h : b = 0
  · subst h
    rfl
  · rw [if_neg h, if_neg (fun e => h (UInt8.toNat_inj.1 (by simpa using e))), mulB_nat, invB_nat]
    simp [h]
theorem rdivB_o (x y : Int) (a b : UInt8) (w : World) (hx : x = (a.toNat : Int)) (hy : y = (b.toNat : Int)) :
    Calls Try.prog 86 #[.int .u8 x, .int .u8 y] w fun e w' => e = .returned (.tuple #[.int .u8 ((divB a b).toNat : Int), .bool (decide (b ≠ 0))]) ∧ w = w' := by
  subst hx
  subst hy
  have := rdiv_any a.toNat b.toNat w a.toNat_lt b.toNat_lt
  rw [divF_at] at this
  exact this
theorem pdivB_o (x y : Int) (a b : UInt8) (w : World) (hx : x = (a.toNat : Int)) (hy : y = (b.toNat : Int)) :
    Calls Try.prog 93 #[.int .u8 x, .int .u8 y] w fun e w' => e = .returned (.tuple #[.int .u8 ((divB a b).toNat : Int), .bool (decide (b ≠ 0))]) ∧ w = w' := by
  subst hx
  subst hy
  have := div_any a.toNat b.toNat w a.toNat_lt b.toNat_lt
  rw [divF_at] at this
  exact this
end Go.Proofs.Ytclcgfngolfmlaa
