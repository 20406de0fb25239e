/-
  copied: ints in memory of their own.
-/
import Derived.Test.YtkbaganbfcbioaaStep
import Derived.Test.YtkbaganbfcbioaaByteAt
namespace Go.Proofs.Ytkbaganbfcbioaa
set_option linter.unusedSimpArgs false
set_option linter.unusedVariables false
open Go.RowKit

set_option maxHeartbeats 1600000 in
set_option maxRecDepth 100000 in
theorem copied_any (A : Option Addr) (l : List Int) (c : Nat) (w : World) (ha : Rd w A (ivs l)) (hn : l.length ≤ 17592186044400) :
    Calls Try.prog 15 #[.slice A l.length c] w fun e w' => ∃ A' c', e = .returned (.slice A' l.length c') ∧ Own w' w.heap.size 3 1 A' l.length c' (ivs l) ∧ Below w.heap.size w w' := by
  obtain ⟨j0, hj0, hy0, hy1, hy2⟩ := info_parts i64info
  have q1 : Hid ((ivs l).length = l.length * 1) := by show _ = _; simp [ivs]
  have q2 : 0 + l.length ≤ maxLen := by unfold maxLen; omega
  have q3 : (0 + l.length) * 8 ≤ 140737488355328 := by omega
  go_enter Try.func15, Try.ntmps15
  go_wp2_with (at_builtin; refine wpList_append_Own _ rfl (.const (.slice none 0 0)) (.tmp 3) 35 rfl w.heap.size 3 j0 _ 1 8 Try.underlying35 hj0 hy0 hy1 hy2 rfl none 0 0 [] rfl (Own.none_ _ _ _ _) A l.length c (ivs l) rfl q1.out ha (ivs_one _) q2 q3 (Nat.le_refl _) ?_; intro A3 c3 w3 hO3 hg3 hor3)
  go_ret
  rw [Nat.zero_add, List.nil_append] at hO3
  exact ⟨A3, c3, by simp, hO3, below_of_grown hg3⟩
end Go.Proofs.Ytkbaganbfcbioaa
