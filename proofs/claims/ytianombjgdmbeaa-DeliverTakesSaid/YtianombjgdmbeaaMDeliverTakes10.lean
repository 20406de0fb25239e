/-
  Numbers in ranges, by the document and by the program. One name for what stays as it was behind a call: .step; behind a call that writes to one row: .over.
-/
import Derived.Test.YtianombjgdmbeaaMDeliverTakes8
import Derived.Test.YtianombjgdmbeaaMDeliverTakes9
import Derived.Test.YtianombjgdmbeaaMDeliverTakes1
import Derived.Test.YtianombjgdmbeaaMDeliverTakes2
namespace Go.Proofs.Ytianombjgdmbeaa
set_option linter.unusedSimpArgs false
set_option linter.unusedVariables false
open Go.RowKit

theorem din_any (n l m : Int) (w : World) :
    Calls Try.prog 81 #[.int .i64 n, .int .i64 l, .int .i64 m] w fun e w' => e = .returned (.bool (rngOk n l m)) ∧ w = w' := by
  unfold rngOk
  by_cases h0 : l ≤ n
  · by_cases h1 : n ≤ m
    · rw [decide_eq_true (⟨h0, h1⟩ : l ≤ n ∧ n ≤ m)]
      go_enter Try.func81, Try.ntmps81
      go_wp2
      go_ret
      exact ⟨rfl, rfl⟩
    · rw [decide_eq_false (fun h => h1 h.2 : ¬ (l ≤ n ∧ n ≤ m))]
      go_enter Try.func81, Try.ntmps81
      go_wp2
      go_ret
      exact ⟨rfl, rfl⟩
  · rw [decide_eq_false (fun h => h0 h.1 : ¬ (l ≤ n ∧ n ≤ m))]
    go_enter Try.func81, Try.ntmps81
    go_wp2
    go_ret
    exact ⟨rfl, rfl⟩
theorem din_is (n l m : Int) (r : Bool) (w : World) (h : Hid (rngOk n l m = r)) : Calls Try.prog 81 #[.int .i64 n, .int .i64 l, .int .i64 m] w fun e w' => e = .returned (.bool r) ∧ w = w' := by
  have := din_any n l m w
  rw [h.out] at this
  exact this
theorem rin_any (n l m : Int) (w : World) :
    Calls Try.prog 79 #[.int .i64 n, .int .i64 l, .int .i64 m] w fun e w' => e = .returned (.bool (rngOk n l m)) ∧ w = w' := by
  unfold rngOk
  by_cases h0 : l ≤ n
  · by_cases h1 : n ≤ m
    · rw [decide_eq_true (⟨h0, h1⟩ : l ≤ n ∧ n ≤ m)]
      go_enter Try.func79, Try.ntmps79
      go_wp2
      go_ret
      exact ⟨rfl, rfl⟩
    · rw [decide_eq_false (fun h => h1 h.2 : ¬ (l ≤ n ∧ n ≤ m))]
      go_enter Try.func79, Try.ntmps79
      go_wp2
      go_ret
      exact ⟨rfl, rfl⟩
  · rw [decide_eq_false (fun h => h0 h.1 : ¬ (l ≤ n ∧ n ≤ m))]
    go_enter Try.func79, Try.ntmps79
    go_wp2
    go_ret
    exact ⟨rfl, rfl⟩
theorem rin_is (n l m : Int) (r : Bool) (w : World) (h : Hid (rngOk n l m = r)) : Calls Try.prog 79 #[.int .i64 n, .int .i64 l, .int .i64 m] w fun e w' => e = .returned (.bool r) ∧ w = w' := by
  have := rin_any n l m w
  rw [h.out] at this
  exact this
end Go.Proofs.Ytianombjgdmbeaa
namespace Go.Proofs.Ytianombjgdmbeaa
set_option linter.unusedSimpArgs false
set_option linter.unusedVariables false
open Go.RowKit
section
variable {w w' : World} {A : Option Addr} {xs : List Value} {g : Nat} {l : List UInt8} {base : Nat} {e : TypeId} {size n c : Nat} {t : TypeId} {cs : Array Value} {row : Option Nat}
theorem Rd.step (h : Rd w A xs) (hb : Below w.heap.size w w') : Rd w' A xs := h.below hb
theorem Own.step (h : Own w base e size A n c xs) (hb : Below w.heap.size w w') : Own w' base e size A n c xs := h.below hb
theorem Room.step (h : Room w g l) (hb : Below w.heap.size w w') : Room w' g l := Room.below h hb
theorem Blk.step (h : Blk w g t cs) (hb : Below w.heap.size w w') : Blk w' g t cs := h.below' hb
theorem nextB {N : Nat} {w0 : World} (h : Below N w0 w) (hN : N ≤ w.heap.size) (k : Below w.heap.size w w') : Below N w0 w' := h.trans (k.mono hN)
theorem Rd.over (h : Rd w A xs) (hg : w.grownBy w' row) (hne : ∀ k, row = some k → blk A ≠ some k) : Rd w' A xs := h.grown hg hne
theorem Own.over (h : Own w base e size A n c xs) (hg : w.grownBy w' row) (hne : ∀ k, row = some k → blk A ≠ some k) : Own w' base e size A n c xs := h.grown hg hne
theorem Room.over (h : Room w g l) (hg : w.grownBy w' row) (hne : ∀ k, row = some k → some g ≠ some k) : Room w' g l := Room.grown h hg (fun e => hne g e rfl)
theorem Blk.over (h : Blk w g t cs) (hg : w.grownBy w' row) (hne : ∀ k, row = some k → some g ≠ some k) : Blk w' g t cs := h.grown hg (fun e => hne g e.symm rfl)
end
end Go.Proofs.Ytianombjgdmbeaa
