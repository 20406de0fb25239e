/-
  Two arrays of two ints are compared.
-/
import Derived.Test.YtianombjgdmbeaaNoteM
import Derived.Test.YtianombjgdmbeaaByteAt
import Derived.ChangeKeysEq
namespace Go.Proofs.Ytianombjgdmbeaa
set_option linter.unusedSimpArgs false
set_option linter.unusedVariables false
open Go.RowKit

set_option maxRecDepth 1000000 in
theorem eq_span (a b c d : Int) (w : World) : (Op.equalIn 10000 108 (.agg #[.int .i64 a, .int .i64 b]) (.agg #[.int .i64 c, .int .i64 d])).run Try.prog w = .ok (decide (a = c) && decide (b = d)) w := by
  obtain ⟨i0, hi0, hz0, hz1, hz2⟩ := info_parts i64info
  have h := run_equalIn_array (P := Try.prog) (w := w) 9999 #[.int .i64 a, .int .i64 b] #[.int .i64 c, .int .i64 d] Try.underlying108 hi0
  rw [show (10000 : Nat) = 9999 + 1 from rfl, h]
  have hc : Try.prog.cellsOf 3 = 1 := by kernel_rfl
  rw [hc]
  have hE := fun (x y : Int) (w : World) => run_equalIn_int (P := Try.prog) (w := w) 9998 3 .i64 .i64 x y Try.underlying3
  simp [Op.eqItems, List.range, List.range.loop, part, hE]
  by_cases h1 : a = c <;> by_cases h2 : b = d <;> simp [h1, h2]
end Go.Proofs.Ytianombjgdmbeaa
