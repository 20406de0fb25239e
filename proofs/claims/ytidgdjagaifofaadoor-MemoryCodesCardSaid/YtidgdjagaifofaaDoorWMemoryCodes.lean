/-
  The law MemoryCodes, walked.
-/
import Derived.Test.YtidgdjagaifofaaDoorCodeG
namespace Go.Proofs.YtidgdjagaifofaaDoor
set_option linter.unusedSimpArgs false
set_option linter.unusedVariables false
open Go.RowKit

set_option maxHeartbeats 1600000 in
set_option maxRecDepth 100000 in
theorem memoryCodes_walk (n c : Int) (w : World) (hc : c < 9223372036854775808) (hT : TabOk w) : Calls Tryd.prog 3 #[.int .i64 n, .int .i64 c] w fun e w' => e = .returned (.bool true) ∧ w = w' := by
  have C1 := Lib.hid (rcodeOf_any n w)
  have C2 := Lib.hid (code_any n w hT)
  have C3 := Lib.hid (rmendOf_any c w)
  have C4 := Lib.hid (mend_any c w hT hc)
  clear hT
  generalize codeOf n = x at *
  generalize mendOf c = y at *
  obtain ⟨x1, x2⟩ := x
  obtain ⟨y1, y2, y3⟩ := y
  dsimp only at *
  have d1 : (x1 == x1) = true := by simp
  have d2 : (x2 == x2) = true := by simp
  have d3 : (y1 == y1) = true := by simp
  have d4 : (y2 == y2) = true := by simp
  have d5 : (y3 == y3) = true := by simp
  go_enter Tryd.func3, Tryd.ntmps3
  go_wp2_with (first
    | (go_at_call 4; (with_reducible refine C1.out.mono ?_); rintro e w' ⟨rfl, rfl⟩)
    | (go_at_call 5; (with_reducible refine C2.out.mono ?_); rintro e w' ⟨rfl, rfl⟩)
    | (go_at_call 6; (with_reducible refine C3.out.mono ?_); rintro e w' ⟨rfl, rfl⟩)
    | (go_at_call 7; (with_reducible refine C4.out.mono ?_); rintro e w' ⟨rfl, rfl⟩))
  go_ret
  exact ⟨rfl, rfl⟩
end Go.Proofs.YtidgdjagaifofaaDoor
