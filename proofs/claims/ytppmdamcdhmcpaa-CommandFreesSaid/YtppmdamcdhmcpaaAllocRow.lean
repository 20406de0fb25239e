/-
  A row that is stored into a block just made.
-/
import Derived.Test.YtppmdamcdhmcpaaHandO
namespace Go.Proofs.Ytppmdamcdhmcpaa
set_option linter.unusedSimpArgs false
set_option linter.unusedVariables false
open Go.RowKit
theorem OwnRs.allocRow {w : World} {base n c : Nat} {A : Option Addr} {l : List RowR} (h : OwnRs w base A n c l) (o : Obj) (ds : Array Value) : OwnRs ((w.alloc o).setRow w.heap.size ds) base A n c l :=
  (h.alloc o).keep fun q hq => setRow_other _ _ q _ (by have := (h.lt hq).2; omega)
theorem below_allocRow {N : Nat} {w0 w : World} (h : Below N w0 w) (hN : N ≤ w.heap.size) (o : Obj) (ds : Array Value) : Below N w0 ((w.alloc o).setRow w.heap.size ds) := below_row (h.alloc hN o) hN ds
end Go.Proofs.Ytppmdamcdhmcpaa
