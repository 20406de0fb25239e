/-
  Words beside Base's.
-/
import Derived.Test.YtogiabligehfaaaBase
namespace Go.Proofs.Ytogiabligehfaaa
set_option linter.unusedSimpArgs false
set_option linter.unusedVariables false
open Go.RowKit
theorem blk_lit {g o q : Nat} (h : blk (some ⟨g, o, none⟩) = some q) : q = g := by
  simp [blk] at h
  exact h.symm
theorem blk_lit_ne {g o q : Nat} (h : g ≠ q) : blk (some ⟨g, o, none⟩) ≠ some q := by
  simp [blk]
  exact h
end Go.Proofs.Ytogiabligehfaaa
