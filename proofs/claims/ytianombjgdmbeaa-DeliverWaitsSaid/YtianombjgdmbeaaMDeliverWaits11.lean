/-
  The document's NoteMay. Two arrays of two ints are compared.
-/
import Derived.Test.YtianombjgdmbeaaMDeliverWaits7
import Derived.Deep.DeepCutAuto
import Derived.Test.YtianombjgdmbeaaMDeliverWaits4
import Derived.ChangeKeysEq
namespace Go.Proofs.Ytianombjgdmbeaa
set_option linter.unusedSimpArgs false
set_option linter.unusedVariables false
open Go.RowKit

theorem gap_out {a b : Int} {r : Bool} (h : (decide (a = 0 ∧ b = 0) || decide (0 ≤ a ∧ a < b ∧ b ≤ 65536)) = r) : gapOk (a, b) = r := h
theorem gapMay_any (a b : Int) (w : World) : Calls Try.prog 80 #[.agg #[.int .i64 a, .int .i64 b], .int .i64 65536] w fun e w' => e = .returned (.bool (gapOk (a, b))) ∧ Below w.heap.size w w' := by
  have hB : ∀ o, Below w.heap.size w (w.alloc o) := fun o => (Below.refl _ _).alloc (Nat.le_refl _) _
  by_cases a0 : a = 0
  · have ia : (a == 0) = true := by rw [beq_iff_eq]; exact a0
    by_cases b0 : b = 0
    · have ib : (b == 0) = true := by rw [beq_iff_eq]; exact b0
      rw [gap_out (r := true) (by rw [decide_eq_true (⟨a0, b0⟩ : a = 0 ∧ b = 0)] <;> rfl)]
      clear a0 b0
      go_enter Try.func80, Try.ntmps80
      go_wp2_with fail
      go_ret
      exact ⟨rfl, hB _⟩
    · have ib : (b == 0) = false := by rw [beq_eq_false_iff_ne]; exact b0
      by_cases p : 0 ≤ a
      rotate_left
      · exact absurd (by omega) p
      by_cases q : a < b
      · by_cases r : b ≤ 65536
        · rw [gap_out (r := true) (by rw [decide_eq_false (by omega : ¬ (a = 0 ∧ b = 0)), decide_eq_true (by omega)] <;> rfl)]
          go_enter Try.func80, Try.ntmps80
          go_wp2_with fail
          go_ret
          exact ⟨rfl, hB _⟩
        · rw [gap_out (r := false) (by rw [decide_eq_false (by omega : ¬ (a = 0 ∧ b = 0)), decide_eq_false (by omega)] <;> rfl)]
          go_enter Try.func80, Try.ntmps80
          go_wp2_with fail
          go_ret
          exact ⟨rfl, hB _⟩
      · rw [gap_out (r := false) (by rw [decide_eq_false (by omega : ¬ (a = 0 ∧ b = 0)), decide_eq_false (by omega)] <;> rfl)]
        go_enter Try.func80, Try.ntmps80
        go_wp2_with fail
        go_ret
        exact ⟨rfl, hB _⟩
  · have ia : (a == 0) = false := by rw [beq_eq_false_iff_ne]; exact a0
    by_cases p : 0 ≤ a
    · by_cases q : a < b
      · by_cases r : b ≤ 65536
        · rw [gap_out (r := true) (by rw [decide_eq_false (by omega : ¬ (a = 0 ∧ b = 0)), decide_eq_true (by omega)] <;> rfl)]
          go_enter Try.func80, Try.ntmps80
          go_wp2_with fail
          go_ret
          exact ⟨rfl, hB _⟩
        · rw [gap_out (r := false) (by rw [decide_eq_false (by omega : ¬ (a = 0 ∧ b = 0)), decide_eq_false (by omega)] <;> rfl)]
          go_enter Try.func80, Try.ntmps80
          go_wp2_with fail
          go_ret
          exact ⟨rfl, hB _⟩
      · rw [gap_out (r := false) (by rw [decide_eq_false (by omega : ¬ (a = 0 ∧ b = 0)), decide_eq_false (by omega)] <;> rfl)]
        go_enter Try.func80, Try.ntmps80
        go_wp2_with fail
        go_ret
        exact ⟨rfl, hB _⟩
    · rw [gap_out (r := false) (by rw [decide_eq_false (by omega : ¬ (a = 0 ∧ b = 0)), decide_eq_false (by omega)] <;> rfl)]
      go_enter Try.func80, Try.ntmps80
      go_wp2_with fail
      go_ret
      exact ⟨rfl, hB _⟩
set_option maxHeartbeats 6400000 in
set_option maxRecDepth 100000 in
theorem noteMay_bad (n : Nt) (D : Option Addr) (dn dc : Nat) (G : Option Addr) (gn gc : Nat) (w : World) (h : rngOk n.kind 1 6 = false ∨ rngOk n.id 0 65535 = false) :
    Calls Try.prog 38 #[ntv n D dn dc G gn gc] w fun e w' => e = .returned (.bool (noteOk n)) ∧ Below w.heap.size w w' := by
  have hno : noteOk n = false := by
    unfold noteOk
    rcases h with h | h <;> rw [h] <;> simp
  obtain ⟨kind, id, name, size, sum, at_, data, gaps, of_, code⟩ := n
  rw [hno]
  clear hno
  unfold ntv
  dsimp only at h ⊢
  have hB : ∀ o, Below w.heap.size w (w.alloc o) := fun o => (Below.refl _ _).alloc (Nat.le_refl _) _
  by_cases k1 : kind < 1
  · go_enter Try.func38, Try.ntmps38
    go_wp2_with fail
    go_ret
    exact ⟨rfl, hB _⟩
  by_cases k2 : 6 < kind
  · go_enter Try.func38, Try.ntmps38
    go_wp2_with fail
    go_ret
    exact ⟨rfl, hB _⟩
  have H : Hid (rngOk id 0 65535 = false) := Lib.hid (by
    rcases h with h | h
    · have : rngOk kind 1 6 = true := by unfold rngOk; rw [decide_eq_true_iff]; omega
      rw [this] at h
      cases h
    · exact h)
  clear h
  go_enter Try.func38, Try.ntmps38
  go_wp2_with (go_at_call 79; refine Calls.mono (by first | exact rin_is _ _ _ _ _ H) ?_; rintro e w1 ⟨rfl, rfl⟩)
  go_ret
  exact ⟨rfl, hB _⟩
end Go.Proofs.Ytianombjgdmbeaa
namespace Go.Proofs.Ytianombjgdmbeaa
set_option linter.unusedSimpArgs false
set_option linter.unusedVariables false
open Go.RowKit

set_option maxRecDepth 1000000 in
theorem eq_span (a b c d : Int) (w : World) : (Op.equalIn 10000 108 (.agg #[.int .i64 a, .int .i64 b]) (.agg #[.int .i64 c, .int .i64 d])).run Try.prog w = .ok (decide (a = c) && decide (b = d)) w := by
  obtain ⟨i0, hi0, hz0, hz1, hz2⟩ := info_parts i64info
  have h := run_equalIn_array (P := Try.prog) (w := w) 9999 #[.int .i64 a, .int .i64 b] #[.int .i64 c, .int .i64 d] Try.underlying108 hi0
  rw [show (10000 : Nat) = 9999 + 1 from rfl, h]
  have hc : Try.prog.cellsOf 3 = 1 := by kernel_rfl
  rw [hc]
  have hE := fun (x y : Int) (w : World) => run_equalIn_int (P := Try.prog) (w := w) 9998 3 .i64 .i64 x y Try.underlying3
  simp [Op.eqItems, List.range, List.range.loop, part, hE]
  by_cases h1 : a = c <;> by_cases h2 : b = d <;> simp [h1, h2]
end Go.Proofs.Ytianombjgdmbeaa
