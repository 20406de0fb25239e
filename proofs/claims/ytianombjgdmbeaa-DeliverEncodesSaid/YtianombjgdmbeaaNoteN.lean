/-
  Numbers in ranges, by the document and by the program.
-/
import Derived.Test.YtianombjgdmbeaaNoteP
import Derived.Test.YtianombjgdmbeaaRes
namespace Go.Proofs.Ytianombjgdmbeaa
set_option linter.unusedSimpArgs false
set_option linter.unusedVariables false
open Go.RowKit

theorem din_any (n l m : Int) (w : World) :
    Calls Try.prog 81 #[.int .i64 n, .int .i64 l, .int .i64 m] w fun e w' => e = .returned (.bool (rngOk n l m)) ∧ w = w' := by
  unfold rngOk
  by_cases h0 : l ≤ n
  · by_cases h1 : n ≤ m
    · rw [decide_eq_true (⟨h0, h1⟩ : l ≤ n ∧ n ≤ m)]
      go_enter Try.func81, Try.ntmps81
      go_wp2
      go_ret
      exact ⟨rfl, rfl⟩
    · rw [decide_eq_false (fun h => h1 h.2 : ¬ (l ≤ n ∧ n ≤ m))]
      go_enter Try.func81, Try.ntmps81
      go_wp2
      go_ret
      exact ⟨rfl, rfl⟩
  · rw [decide_eq_false (fun h => h0 h.1 : ¬ (l ≤ n ∧ n ≤ m))]
    go_enter Try.func81, Try.ntmps81
    go_wp2
    go_ret
    exact ⟨rfl, rfl⟩
theorem din_is (n l m : Int) (r : Bool) (w : World) (h : Hid (rngOk n l m = r)) : Calls Try.prog 81 #[.int .i64 n, .int .i64 l, .int .i64 m] w fun e w' => e = .returned (.bool r) ∧ w = w' := by
  have := din_any n l m w
  rw [h.out] at this
  exact this
theorem rin_any (n l m : Int) (w : World) :
    Calls Try.prog 79 #[.int .i64 n, .int .i64 l, .int .i64 m] w fun e w' => e = .returned (.bool (rngOk n l m)) ∧ w = w' := by
  unfold rngOk
  by_cases h0 : l ≤ n
  · by_cases h1 : n ≤ m
    · rw [decide_eq_true (⟨h0, h1⟩ : l ≤ n ∧ n ≤ m)]
      go_enter Try.func79, Try.ntmps79
      go_wp2
      go_ret
      exact ⟨rfl, rfl⟩
    · rw [decide_eq_false (fun h => h1 h.2 : ¬ (l ≤ n ∧ n ≤ m))]
      go_enter Try.func79, Try.ntmps79
      go_wp2
      go_ret
      exact ⟨rfl, rfl⟩
  · rw [decide_eq_false (fun h => h0 h.1 : ¬ (l ≤ n ∧ n ≤ m))]
    go_enter Try.func79, Try.ntmps79
    go_wp2
    go_ret
    exact ⟨rfl, rfl⟩
theorem rin_is (n l m : Int) (r : Bool) (w : World) (h : Hid (rngOk n l m = r)) : Calls Try.prog 79 #[.int .i64 n, .int .i64 l, .int .i64 m] w fun e w' => e = .returned (.bool r) ∧ w = w' := by
  have := rin_any n l m w
  rw [h.out] at this
  exact this
end Go.Proofs.Ytianombjgdmbeaa
