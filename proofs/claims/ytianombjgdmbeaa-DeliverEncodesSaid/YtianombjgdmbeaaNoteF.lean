/-
  A number's four bytes, by the document.
-/
import Derived.Test.YtianombjgdmbeaaNoteN
namespace Go.Proofs.Ytianombjgdmbeaa
set_option linter.unusedSimpArgs false
set_option linter.unusedVariables false
open Go.RowKit

def be4 (n : Int) : List UInt8 := [bOf (n / 16777216), bOf (n / 65536), bOf (n / 256), bOf n]
theorem four_any (n : Int) (w : World) : Calls Try.prog 39 #[.int .i64 n] w fun e w' => e = .returned (.slice (some ⟨w.heap.size, 0, none⟩) 4 4) ∧ w' = w.alloc (.cells #[bv (bOf (n / 16777216)), bv (bOf (n / 65536)), bv (bOf (n / 256)), bv (bOf n)] 5) := by
  go_enter Try.func39, Try.ntmps39
  go_wp2
  go_ret
  rw [← bv_mod, ← bv_mod, ← bv_mod, ← bv_mod]
  exact ⟨rfl, rfl⟩
end Go.Proofs.Ytianombjgdmbeaa
