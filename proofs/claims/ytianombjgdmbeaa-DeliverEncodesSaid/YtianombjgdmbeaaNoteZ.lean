/-
  What a note that may be tells of its kind's parts; the bytes of a note, plainly.
-/
import Derived.Test.YtianombjgdmbeaaNoteR5
import Derived.Test.YtianombjgdmbeaaAppS
namespace Go.Proofs.Ytianombjgdmbeaa
set_option linter.unusedSimpArgs false
set_option linter.unusedVariables false
open Go.RowKit

theorem note_kind' {n : Nt} (h : noteOk n = true) : kindOk n = true := by
  cases e : kindOk n
  · rw [note_kind e] at h
    cases h
  · rfl
theorem note_rng {n : Nt} (h : noteOk n = true) : n.kind = 1 ∨ n.kind = 2 ∨ n.kind = 3 ∨ n.kind = 4 ∨ n.kind = 5 ∨ n.kind = 6 := by
  unfold noteOk rngOk at h
  simp only [Bool.and_eq_true, decide_eq_true_eq] at h
  omega
def gapB (g : Int × Int) : List UInt8 := be4 g.1 ++ be4 g.2
/-- The bytes of a note. -/
def noteB (n : Nt) : List UInt8 :=
  hdB n.kind n.id ++ (if n.kind = 1 then be4 n.size ++ sbs n.name else if n.kind = 2 then be4 n.at_ ++ n.data else if n.kind = 3 then be4 n.size ++ be4 n.sum else if n.kind = 4 then n.gaps.flatMap gapB else if n.kind = 5 then [bOf n.code] else [bOf n.of_])
theorem gapB_len (l : List (Int × Int)) : (l.flatMap gapB).length = 8 * l.length := by
  induction l with
  | nil => rfl
  | cons x t ih =>
    rw [List.flatMap_cons, List.length_append, ih, List.length_cons]
    show 8 + _ = _
    omega
end Go.Proofs.Ytianombjgdmbeaa
