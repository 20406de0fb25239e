import Derived.Test.YtianombjgdmbeaaSame
import Derived.Test.YtianombjgdmbeaaMore
namespace Go.Proofs.Ytianombjgdmbeaa
set_option linter.unusedSimpArgs false
set_option linter.unusedVariables false
open Go.RowKit

/-- What comes of a packing: bytes in memory of their own. -/
def BytesRes (w w' : World) (r : List UInt8 × Int) (e : Ending) : Prop :=
  ∃ A c, e = .returned (.tuple #[.slice A r.1.length c, .int .i64 r.2]) ∧ Own w' w.heap.size 5 1 A r.1.length c (bvs r.1) ∧ Below w.heap.size w w'
theorem BytesRes.none_ {w w' : World} {k : Int} (h : Below w.heap.size w w') : BytesRes w w' ([], k) (.returned (.tuple #[.slice none 0 0, .int .i64 k])) := ⟨none, 0, rfl, Own.none_ _ _ _ _, h⟩
theorem BytesRes.open_ {w w' : World} {r : List UInt8 × Int} {e : Ending} {l : List UInt8} {k : Int} (hr : r = (l, k)) (h : BytesRes w w' r e) :
    ∃ A c, e = .returned (.tuple #[.slice A l.length c, .int .i64 k]) ∧ Own w' w.heap.size 5 1 A l.length c (bvs l) ∧ Below w.heap.size w w' := by
  subst hr
  exact h
/-- Bytes that came out, in memory of their own. -/
def RowsOut (w w' : World) (r : List UInt8) (e : Ending) : Prop := ∃ A' c', e = .returned (.slice A' r.length c') ∧ Own w' w.heap.size 5 1 A' r.length c' (bvs r) ∧ Below w.heap.size w w'
end Go.Proofs.Ytianombjgdmbeaa
