/-
  A span may be, by the program.
-/
import Derived.Test.YtianombjgdmbeaaNoteM
import Derived.Test.YtianombjgdmbeaaPairEq
namespace Go.Proofs.Ytianombjgdmbeaa
set_option linter.unusedSimpArgs false
set_option linter.unusedVariables false
open Go.RowKit

set_option maxHeartbeats 1600000 in
set_option maxRecDepth 1000000 in
theorem spanMay_any (a b : Int) (w : World) : Calls Try.prog 85 #[.agg #[.int .i64 a, .int .i64 b], .int .i64 65536] w fun e w' => e = .returned (.bool (gapOk (a, b))) ∧ Below w.heap.size w w' := by
  have hB : ∀ o, Below w.heap.size w (w.alloc o) := fun o => (Below.refl _ _).alloc (Nat.le_refl _) _
  by_cases a0 : a = 0
  · have ia : (a == 0) = true := by rw [beq_iff_eq]; exact a0
    by_cases b0 : b = 0
    · have ib : (b == 0) = true := by rw [beq_iff_eq]; exact b0
      rw [gap_out (r := true) (by rw [decide_eq_true (⟨a0, b0⟩ : a = 0 ∧ b = 0)] <;> rfl)]
      have hE : ∀ w, (Op.equalIn 10000 108 (.agg #[.int .i64 a, .int .i64 b]) (.agg #[.int .i64 0, .int .i64 0])).run Try.prog w = .ok true w := fun w => by
        rw [eq_span, decide_eq_true a0, decide_eq_true b0]
        rfl
      clear a0 b0
      go_enter Try.func85, Try.ntmps85
      go_wp2_with fail
      go_ret
      exact ⟨rfl, hB _⟩
    · have ib : (b == 0) = false := by rw [beq_eq_false_iff_ne]; exact b0
      have p : 0 ≤ a := by omega
      have hE : ∀ w, (Op.equalIn 10000 108 (.agg #[.int .i64 a, .int .i64 b]) (.agg #[.int .i64 0, .int .i64 0])).run Try.prog w = .ok false w := fun w => by
        rw [eq_span, decide_eq_false b0]
        simp
      clear a0 ia
      by_cases q : a < b
      rotate_left
      · rw [gap_out (r := false) (by rw [decide_eq_false (by omega : ¬ (a = 0 ∧ b = 0)), decide_eq_false (by omega)] <;> rfl)]
        go_enter Try.func85, Try.ntmps85
        go_wp2_with fail
        go_ret
        exact ⟨rfl, hB _⟩
      by_cases r : b ≤ 65536
      rotate_left
      · rw [gap_out (r := false) (by rw [decide_eq_false (by omega : ¬ (a = 0 ∧ b = 0)), decide_eq_false (by omega)] <;> rfl)]
        go_enter Try.func85, Try.ntmps85
        go_wp2_with fail
        go_ret
        exact ⟨rfl, hB _⟩
      rw [gap_out (r := true) (by rw [decide_eq_false (by omega : ¬ (a = 0 ∧ b = 0)), decide_eq_true (by omega)] <;> rfl)]
      go_enter Try.func85, Try.ntmps85
      go_wp2_with fail
      go_ret
      exact ⟨rfl, hB _⟩
  · have ia : (a == 0) = false := by rw [beq_eq_false_iff_ne]; exact a0
    have hE : ∀ w, (Op.equalIn 10000 108 (.agg #[.int .i64 a, .int .i64 b]) (.agg #[.int .i64 0, .int .i64 0])).run Try.prog w = .ok false w := fun w => by
      rw [eq_span, decide_eq_false a0]
      rfl
    by_cases p : 0 ≤ a
    rotate_left
    · rw [gap_out (r := false) (by rw [decide_eq_false (by omega : ¬ (a = 0 ∧ b = 0)), decide_eq_false (by omega)] <;> rfl)]
      go_enter Try.func85, Try.ntmps85
      go_wp2_with fail
      go_ret
      exact ⟨rfl, hB _⟩
    by_cases q : a < b
    rotate_left
    · rw [gap_out (r := false) (by rw [decide_eq_false (by omega : ¬ (a = 0 ∧ b = 0)), decide_eq_false (by omega)] <;> rfl)]
      go_enter Try.func85, Try.ntmps85
      go_wp2_with fail
      go_ret
      exact ⟨rfl, hB _⟩
    by_cases r : b ≤ 65536
    rotate_left
    · rw [gap_out (r := false) (by rw [decide_eq_false (by omega : ¬ (a = 0 ∧ b = 0)), decide_eq_false (by omega)] <;> rfl)]
      go_enter Try.func85, Try.ntmps85
      go_wp2_with fail
      go_ret
      exact ⟨rfl, hB _⟩
    rw [gap_out (r := true) (by rw [decide_eq_false (by omega : ¬ (a = 0 ∧ b = 0)), decide_eq_true (by omega)] <;> rfl)]
    go_enter Try.func85, Try.ntmps85
    go_wp2_with fail
    go_ret
    exact ⟨rfl, hB _⟩
theorem odd_any (a b : Int) (w : World) : Calls Try.prog 84 #[.agg #[.int .i64 a, .int .i64 b]] w fun e w' => e = .returned (.bool (!gapOk (a, b))) ∧ Below w.heap.size w w' := by
  have CS := Lib.hid (fun V => spanMay_any a b V)
  have hB : ∀ o, Below w.heap.size w (w.alloc o) := fun o => (Below.refl _ _).alloc (Nat.le_refl _) _
  cases hk : gapOk (a, b)
  · simp only [hk] at CS
    clear hk
    go_enter Try.func84, Try.ntmps84
    go_wp2_with fail
    refine (CS.out _).mono ?_
    rintro e w1 ⟨rfl, hb⟩
    go_wp2_with fail
    go_ret
    exact ⟨rfl, (hB _).trans (hb.mono (hB _).size)⟩
  · simp only [hk] at CS
    clear hk
    go_enter Try.func84, Try.ntmps84
    go_wp2_with fail
    refine (CS.out _).mono ?_
    rintro e w1 ⟨rfl, hb⟩
    go_wp2_with fail
    go_ret
    exact ⟨rfl, (hB _).trans (hb.mono (hB _).size)⟩
end Go.Proofs.Ytianombjgdmbeaa
