import Derived.Test.YtkbaganbfcbioaaSame
import Derived.Test.YtkbaganbfcbioaaMore
namespace Go.Proofs.Ytkbaganbfcbioaa
set_option linter.unusedSimpArgs false
set_option linter.unusedVariables false
open Go.RowKit

theorem made_get (z : Value) (hz : z.oneCell' = true) (n i : Nat) (h : i < n) : (madeCells #[z] n)[i]? = some z := by
  have e := toList_madeCells_one z n
  rw [← Array.getElem?_toList, e]
  simp [h]
/-- A block of noughts, just made. -/
theorem Own.made8 (w : World) (n c : Nat) (hn : n ≤ c) (hc : c ≤ maxLen) : Own (w.alloc (.cells (madeCells #[.int .u8 0] c) 5)) w.heap.size 5 1 (some ⟨w.heap.size, 0, none⟩) n c (bvs (List.replicate n 0)) := by
  refine Own.of_block (heap_alloc_new w _) (Nat.le_refl _) (by simp [bvs]) hn hc (by simp [size_madeCells]) fun i u h => ?_
  have hi : i < n := by
    rcases Nat.lt_or_ge i n with h1 | h1
    · exact h1
    · rw [List.getElem?_eq_none (by simpa [bvs] using h1)] at h; cases h
  rw [made_get _ rfl c i (by omega)]
  rw [← h]
  simp [bvs, bv, hi]
end Go.Proofs.Ytkbaganbfcbioaa
