/-
  XHeld's walk: an operation without a guard that alone may come up.
-/
import Derived.Test.YtaifogddoonabaaHeld2
namespace Go.Proofs.Ytaifogddoonabaa
set_option linter.unusedSimpArgs false
set_option linter.unusedVariables false
open Go.RowKit
section
variable {P : Program} {md : Region.Mode} {Q : Exit → Act → World → Prop} {S : World → Prop} {l : List Oper} {n f : Nat} {listed : Array Bool} {a : Act} {w : World}
theorem walk_op (i : Nat) (oi : Oper) (hi : l.toArray[i]? = some oi) (hg : oi.guard = none) (hin : decide (i < n) = true) (hr : Region.ready md l.toArray listed = [i])
    (h : ∀ K' : Act → World → Prop, (∀ a w, S w → Walk P md l Q S n f (listed.setIfInBounds i true) a w → K' a w) → Oper.wp P oi a w K' Q) : Walk P md l Q S n (f + 1) listed a w :=
  walk_step i hi hin hr (fun K' hK => by rw [if_pos (by unfold Region.wanted; rw [hg])]; exact h K' hK)
end
end Go.Proofs.Ytaifogddoonabaa
