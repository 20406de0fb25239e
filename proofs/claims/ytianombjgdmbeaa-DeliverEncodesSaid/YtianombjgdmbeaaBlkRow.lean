/-
  A whole row is stored into a block.
-/
import Derived.Test.YtianombjgdmbeaaRes
import Derived.Deep.DeepCutAuto
namespace Go.Proofs.Ytianombjgdmbeaa
set_option linter.unusedSimpArgs false
set_option linter.unusedVariables false
open Go.RowKit

section
variable {w w' : World} {g : Nat} {t : TypeId} {cs ds : Array Value}
theorem Blk.row (h : Blk w g t cs) (ds : Array Value) : Blk (w.setRow g ds) g t ds := setRow_heap w g cs ds t (0, 0) h
theorem setRow_size (w : World) (g : Nat) (ds : Array Value) : (w.setRow g ds).heap.size = w.heap.size := by simp [World.setRow]
theorem grown_row (w : World) (g : Nat) (ds : Array Value) : w.grownBy (w.setRow g ds) (some g) := ⟨rfl, rfl, rfl, Nat.le_of_eq (setRow_size w g ds).symm, fun k _ hk => setRow_other w g k ds (fun e => hk (by rw [e]))⟩
theorem Blk.farRow {k : Nat} (h : Blk w k t cs) (hk : k ≠ g) (ds : Array Value) : Blk (w.setRow g ds) k t cs := (setRow_other w g k ds hk).trans h
theorem below_row {N : Nat} (h : Below N w w') (hg : N ≤ g) (ds : Array Value) : Below N w (w'.setRow g ds) := ⟨h.os, h.tape, h.output, by rw [setRow_size]; exact h.size, fun k hk => (setRow_other w' g k ds (by omega)).trans (h.block k hk)⟩
end
end Go.Proofs.Ytianombjgdmbeaa
