/-
  Two operations that may come up (XHeld's walk).
-/
import Derived.Test.YtianombjgdmbeaaHeld
namespace Go.Proofs.Ytianombjgdmbeaa
set_option linter.unusedSimpArgs false
set_option linter.unusedVariables false
open Go.RowKit
section
variable {P : Program} {md : Region.Mode} {Q : Exit → Act → World → Prop} {S : World → Prop} {l : List Oper} {n f : Nat} {listed : Array Bool} {a : Act} {w : World}
theorem walk_step2 (i j : Nat) {oi oj : Oper} (hi : l.toArray[i]? = some oi) (hj : l.toArray[j]? = some oj) (hin : decide (i < n) = true) (hjn : decide (j < n) = true) (hr : Region.ready md l.toArray listed = [i, j])
    (h1 : ∀ K' : Act → World → Prop, (∀ a w, S w → Walk P md l Q S n f (listed.setIfInBounds i true) a w → K' a w) → if Region.wanted oi (yielded l.toArray a.tmps) = true then Oper.wp P oi a w K' Q else K' (a.put oi.dst undef) w)
    (h2 : ∀ K' : Act → World → Prop, (∀ a w, S w → Walk P md l Q S n f (listed.setIfInBounds j true) a w → K' a w) → if Region.wanted oj (yielded l.toArray a.tmps) = true then Oper.wp P oj a w K' Q else K' (a.put oj.dst undef) w) : Walk P md l Q S n (f + 1) listed a w := fun hB inv => by
  refine ⟨fun e => (by rw [hr] at e; cases e), fun k hk => ?_⟩
  have hk' := hk
  rw [hr] at hk'
  have hkij : k = i ∨ k = j := by simpa using hk'
  rcases hkij with e | e
  · subst e
    exact wpOp_step hi (fun K' hK => h1 K' fun a w hS hW => hK a w ⟨hS, hW hB (inv.set hk (by simpa using hin))⟩)
  · subst e
    exact wpOp_step hj (fun K' hK => h2 K' fun a w hS hW => hK a w ⟨hS, hW hB (inv.set hk (by simpa using hjn))⟩)
end
end Go.Proofs.Ytianombjgdmbeaa
