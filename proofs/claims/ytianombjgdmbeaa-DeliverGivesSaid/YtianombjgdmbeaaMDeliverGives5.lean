/-
  One name for what stays as it was behind a call: .step; behind a call that writes to one row: .over. The document's NoteMay.
-/
import Derived.Test.YtianombjgdmbeaaMDeliverGives3
import Derived.Test.YtianombjgdmbeaaMDeliverGives2
import Derived.Test.YtianombjgdmbeaaMDeliverGives4
import Derived.Deep.DeepCutAuto
namespace Go.Proofs.Ytianombjgdmbeaa
set_option linter.unusedSimpArgs false
set_option linter.unusedVariables false
open Go.RowKit
section
variable {w w' : World} {A : Option Addr} {xs : List Value} {g : Nat} {l : List UInt8} {base : Nat} {e : TypeId} {size n c : Nat} {t : TypeId} {cs : Array Value} {row : Option Nat}
theorem Rd.step (h : Rd w A xs) (hb : Below w.heap.size w w') : Rd w' A xs := h.below hb
theorem Own.step (h : Own w base e size A n c xs) (hb : Below w.heap.size w w') : Own w' base e size A n c xs := h.below hb
theorem Room.step (h : Room w g l) (hb : Below w.heap.size w w') : Room w' g l := Room.below h hb
theorem Blk.step (h : Blk w g t cs) (hb : Below w.heap.size w w') : Blk w' g t cs := h.below' hb
theorem nextB {N : Nat} {w0 : World} (h : Below N w0 w) (hN : N ≤ w.heap.size) (k : Below w.heap.size w w') : Below N w0 w' := h.trans (k.mono hN)
theorem Rd.over (h : Rd w A xs) (hg : w.grownBy w' row) (hne : ∀ k, row = some k → blk A ≠ some k) : Rd w' A xs := h.grown hg hne
theorem Own.over (h : Own w base e size A n c xs) (hg : w.grownBy w' row) (hne : ∀ k, row = some k → blk A ≠ some k) : Own w' base e size A n c xs := h.grown hg hne
theorem Room.over (h : Room w g l) (hg : w.grownBy w' row) (hne : ∀ k, row = some k → some g ≠ some k) : Room w' g l := Room.grown h hg (fun e => hne g e rfl)
theorem Blk.over (h : Blk w g t cs) (hg : w.grownBy w' row) (hne : ∀ k, row = some k → some g ≠ some k) : Blk w' g t cs := h.grown hg (fun e => hne g e.symm rfl)
end
end Go.Proofs.Ytianombjgdmbeaa
namespace Go.Proofs.Ytianombjgdmbeaa
set_option linter.unusedSimpArgs false
set_option linter.unusedVariables false
open Go.RowKit

theorem gap_out {a b : Int} {r : Bool} (h : (decide (a = 0 ∧ b = 0) || decide (0 ≤ a ∧ a < b ∧ b ≤ 65536)) = r) : gapOk (a, b) = r := h
theorem gapMay_any (a b : Int) (w : World) : Calls Try.prog 80 #[.agg #[.int .i64 a, .int .i64 b], .int .i64 65536] w fun e w' => e = .returned (.bool (gapOk (a, b))) ∧ Below w.heap.size w w' := by
  have hB : ∀ o, Below w.heap.size w (w.alloc o) := fun o => (Below.refl _ _).alloc (Nat.le_refl _) _
  by_cases a0 : a = 0
  · have ia : (a == 0) = true := by rw [beq_iff_eq]; exact a0
    by_cases b0 : b = 0
    · have ib : (b == 0) = true := by rw [beq_iff_eq]; exact b0
      rw [gap_out (r := true) (by rw [decide_eq_true (⟨a0, b0⟩ : a = 0 ∧ b = 0)] <;> rfl)]
      clear a0 b0
      go_enter Try.func80, Try.ntmps80
      go_wp2_with fail
      go_ret
      exact ⟨rfl, hB _⟩
    · have ib : (b == 0) = false := by rw [beq_eq_false_iff_ne]; exact b0
      by_cases p : 0 ≤ a
      rotate_left
      · exact absurd (by omega) p
      by_cases q : a < b
      · by_cases r : b ≤ 65536
        · rw [gap_out (r := true) (by rw [decide_eq_false (by omega : ¬ (a = 0 ∧ b = 0)), decide_eq_true (by omega)] <;> rfl)]
          go_enter Try.func80, Try.ntmps80
          go_wp2_with fail
          go_ret
          exact ⟨rfl, hB _⟩
        · rw [gap_out (r := false) (by rw [decide_eq_false (by omega : ¬ (a = 0 ∧ b = 0)), decide_eq_false (by omega)] <;> rfl)]
          go_enter Try.func80, Try.ntmps80
          go_wp2_with fail
          go_ret
          exact ⟨rfl, hB _⟩
      · rw [gap_out (r := false) (by rw [decide_eq_false (by omega : ¬ (a = 0 ∧ b = 0)), decide_eq_false (by omega)] <;> rfl)]
        go_enter Try.func80, Try.ntmps80
        go_wp2_with fail
        go_ret
        exact ⟨rfl, hB _⟩
  · have ia : (a == 0) = false := by rw [beq_eq_false_iff_ne]; exact a0
    by_cases p : 0 ≤ a
    · by_cases q : a < b
      · by_cases r : b ≤ 65536
        · rw [gap_out (r := true) (by rw [decide_eq_false (by omega : ¬ (a = 0 ∧ b = 0)), decide_eq_true (by omega)] <;> rfl)]
          go_enter Try.func80, Try.ntmps80
          go_wp2_with fail
          go_ret
          exact ⟨rfl, hB _⟩
        · rw [gap_out (r := false) (by rw [decide_eq_false (by omega : ¬ (a = 0 ∧ b = 0)), decide_eq_false (by omega)] <;> rfl)]
          go_enter Try.func80, Try.ntmps80
          go_wp2_with fail
          go_ret
          exact ⟨rfl, hB _⟩
      · rw [gap_out (r := false) (by rw [decide_eq_false (by omega : ¬ (a = 0 ∧ b = 0)), decide_eq_false (by omega)] <;> rfl)]
        go_enter Try.func80, Try.ntmps80
        go_wp2_with fail
        go_ret
        exact ⟨rfl, hB _⟩
    · rw [gap_out (r := false) (by rw [decide_eq_false (by omega : ¬ (a = 0 ∧ b = 0)), decide_eq_false (by omega)] <;> rfl)]
      go_enter Try.func80, Try.ntmps80
      go_wp2_with fail
      go_ret
      exact ⟨rfl, hB _⟩
set_option maxHeartbeats 6400000 in
set_option maxRecDepth 100000 in
theorem noteMay_bad (n : Nt) (D : Option Addr) (dn dc : Nat) (G : Option Addr) (gn gc : Nat) (w : World) (h : rngOk n.kind 1 6 = false ∨ rngOk n.id 0 65535 = false) :
    Calls Try.prog 38 #[ntv n D dn dc G gn gc] w fun e w' => e = .returned (.bool (noteOk n)) ∧ Below w.heap.size w w' := by
  have hno : noteOk n = false := by
    unfold noteOk
    rcases h with h | h <;> rw [h] <;> simp
  obtain ⟨kind, id, name, size, sum, at_, data, gaps, of_, code⟩ := n
  rw [hno]
  clear hno
  unfold ntv
  dsimp only at h ⊢
  have hB : ∀ o, Below w.heap.size w (w.alloc o) := fun o => (Below.refl _ _).alloc (Nat.le_refl _) _
  by_cases k1 : kind < 1
  · go_enter Try.func38, Try.ntmps38
    go_wp2_with fail
    go_ret
    exact ⟨rfl, hB _⟩
  by_cases k2 : 6 < kind
  · go_enter Try.func38, Try.ntmps38
    go_wp2_with fail
    go_ret
    exact ⟨rfl, hB _⟩
  have H : Hid (rngOk id 0 65535 = false) := Lib.hid (by
    rcases h with h | h
    · have : rngOk kind 1 6 = true := by unfold rngOk; rw [decide_eq_true_iff]; omega
      rw [this] at h
      cases h
    · exact h)
  clear h
  go_enter Try.func38, Try.ntmps38
  go_wp2_with (go_at_call 79; refine Calls.mono (by first | exact rin_is _ _ _ _ _ H) ?_; rintro e w1 ⟨rfl, rfl⟩)
  go_ret
  exact ⟨rfl, hB _⟩
end Go.Proofs.Ytianombjgdmbeaa
