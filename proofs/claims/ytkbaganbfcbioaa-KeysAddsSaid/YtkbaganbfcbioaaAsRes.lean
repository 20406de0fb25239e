/-
  What is written over, and what a call of a ring's func says.
-/
import Derived.Test.YtkbaganbfcbioaaOverRing
import Derived.Test.YtkbaganbfcbioaaSameRing
import Derived.Test.YtkbaganbfcbioaaTwice
namespace Go.Proofs.Ytkbaganbfcbioaa
set_option linter.unusedSimpArgs false
set_option linter.unusedVariables false
open Go.RowKit

theorem TurnedIn.box {w w' : World} {base top : Nat} (h : TurnedIn w w' base top) {g : Nat} {t : TypeId} {cs : Array Value} (hb : Blk w g t cs) (hg : g < base ∨ top ≤ g) : Blk w' g t cs := by
  rcases hg with h1 | h1
  · exact (h.1.block _ h1).trans hb
  · exact (h.2 _ h1 hb.lt).trans hb
theorem TurnedIn.words {w w' : World} {base top b : Nat} {l : List KyR} (h : TurnedIn w w' base top) (hD : OwnWords w b l) (hA : ∀ (i : Nat) (y : KyR), l[i]? = some y → ∀ q, blk y.A = some q → q < base ∨ top ≤ q) : OwnWords w' b l :=
  ⟨fun i x hx => h.keepLow (hD.1 i x hx) (hA i x hx), hD.2⟩
/-- What a call of the func value says. -/
def AsRes (w w' : World) (M : List Ky) (k : Nat) (body : List UInt8) (nb : Nat) (id err : Int) (e : Ending) : Prop :=
  ∃ B2 d2 X2 c2, e = .returned (.tuple #[.agg #[.slice B2 k d2], .slice X2 nb c2, .int .i64 id, .int .i64 err]) ∧ OwnRing w' w.heap.size B2 k d2 M ∧ Own w' w.heap.size 5 1 X2 nb c2 (bvs body) ∧ Below w.heap.size w w'
end Go.Proofs.Ytkbaganbfcbioaa
