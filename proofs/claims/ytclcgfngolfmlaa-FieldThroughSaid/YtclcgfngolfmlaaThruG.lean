/-
  The program's Through: sizes.
-/
import Derived.Test.YtclcgfngolfmlaaThruQ
namespace Go.Proofs.Ytclcgfngolfmlaa
set_option linter.unusedSimpArgs false
set_option linter.unusedVariables false
open Go.RowKit

set_option maxHeartbeats 1600000 in
set_option maxRecDepth 100000 in
theorem pthru_size (A B : Option Addr) (n m c d : Nat) (w : World) (h : n ≠ m ∨ 255 < n) :
    Calls Try.prog 43 #[.slice A n c, .slice B m d] w fun e w' => BytesRes w w' ([], 1) e := by
  by_cases h1 : n = m
  · subst h1
    have d1 : ((n : Int) != (n : Int)) = false := by rw [bne_eq_false_iff_eq]
    have d2 : decide ((255 : Int) < (n : Int)) = true := decide_eq_true (by omega)
    clear h
    go_enter Try.func43, Try.ntmps43
    go_wp2
    go_ret2
    exact BytesRes.none_ (Below.refl _ _)
  · have d1 : ((n : Int) != (m : Int)) = true := by rw [bne_iff_ne]; omega
    clear h
    go_enter Try.func43, Try.ntmps43
    go_wp2
    go_ret2
    exact BytesRes.none_ (Below.refl _ _)
end Go.Proofs.Ytclcgfngolfmlaa
