/-
  XHeld's walk: a store of a whole row that alone may come up.
-/
import Derived.Test.YtaifogddoonabaaHeld3
import Derived.Laws.Tables
namespace Go.Proofs.Ytaifogddoonabaa
set_option linter.unusedSimpArgs false
set_option linter.unusedVariables false
open Go.RowKit
section
variable {P : Program} {md : Region.Mode} {Q : Exit → Act → World → Prop} {S : World → Prop} {l : List Oper} {n f : Nat} {listed : Array Bool} {a : Act} {w : World}
theorem walk_store_row (i : Nat) (oi : Oper) (ty : TypeId) (x y : Operand) (g : Nat) (cells old : Array Value) (t : TypeId) (hi : l.toArray[i]? = some oi) (hg : oi.guard = none) (ho : oi.op = .store ty x y) (hin : decide (i < n) = true) (hr : Region.ready md l.toArray listed = [i])
    (hx : a.eval x = .pointer (some ⟨g, 0, none⟩)) (hy : a.eval y = .agg cells) (hw : w.heap[g]? = some (.cells old t (0, 0))) (hf : (P.info? ty).map (·.size) = some cells.size) (hold : old.size = cells.size) (h1 : cells.all (·.oneCell') = true)
    (hS : S (w.setRow g cells)) (h : Walk P md l Q S n f (listed.setIfInBounds i true) (a.put oi.dst undef) (w.setRow g cells)) : Walk P md l Q S n (f + 1) listed a w :=
  walk_op i oi hi hg hin hr (fun K' hK => wp_store_row ty x y ho g cells hx hy t old hw hf hold h1 (hK _ _ hS h))
end
end Go.Proofs.Ytaifogddoonabaa
