/-
  Cells that hold a string, a slice of whatever.
-/
import Derived.Test.YtianombjgdmbeaaOpen
import Derived.Deep.Slices
namespace Go.Proofs.Ytianombjgdmbeaa
set_option linter.unusedSimpArgs false
set_option linter.unusedVariables false
open Go.ChangeShapes Go.WideShapes Go.ChangeAt Go.RowKit Go.Joins Go.Deep
theorem cell_str {H : Type} {enc : TypeId × Value → H} {P : Program} {w : World} {base : Nat} {spare : Nat → Bool} {held : Bool} {t : TypeId} (ht : P.underlying t = some .string) {u : Value} {fuel : Nat} {x : DataW H × List MemPlace} (h : DataW.trod enc P w base spare held fuel t [u] = some x) : ∃ s, u = .string s := by
  obtain ⟨s, e, _⟩ := DataW.trod_string ht h
  simp only [List.cons.injEq, and_true] at e
  exact ⟨s, e⟩
theorem slice_at {H : Type} {enc : TypeId × Value → H} {P : Program} {w : World} {base : Nat} {spare : Nat → Bool} {held : Bool} {t e : TypeId} (ht : P.underlying t = some (.slice e)) {u : Value} {fuel : Nat} {x : DataW H × List MemPlace}
    (h : DataW.trod enc P w base spare held fuel t [u] = some x) : ∃ A len cap, u = .slice A len cap := by
  rcases open_slice ht h with ⟨hcs, _⟩ | ⟨a, len', cap', m, n, D, Pl, hcs, _⟩
  · simp only [List.cons.injEq, and_true] at hcs
    exact ⟨_, _, _, hcs⟩
  · simp only [List.cons.injEq, and_true] at hcs
    exact ⟨_, _, _, hcs⟩
end Go.Proofs.Ytianombjgdmbeaa
