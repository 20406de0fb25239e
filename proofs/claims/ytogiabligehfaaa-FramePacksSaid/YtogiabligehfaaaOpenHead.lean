/-
  Structs of this seat as arguments: heads of frames.
-/
import Derived.Test.YtogiabligehfaaaOpen
import Derived.Test.YtogiabligehfaaaPackP
namespace Go.Proofs.Ytogiabligehfaaa
set_option linter.unusedSimpArgs false
set_option linter.unusedVariables false
open Go.ChangeShapes Go.WideShapes Go.ChangeAt Go.RowKit

theorem list5 {α : Type} {l : List α} (h : l.length = 5) : ∃ c0 c1 c2 c3 c4, l = [c0, c1, c2, c3, c4] := by
  match l, h with
  | [c0, c1, c2, c3, c4], _ => exact ⟨_, _, _, _, _, rfl⟩

set_option maxRecDepth 100000 in
theorem open_head {H : Type} {enc : TypeId × Value → H} {w : World} {base : Nat} {spare : Nat → Bool} {held : Bool} {r : Reach} {b0 : Nat} {v : Value} {d : DataW H} {p : List MemPlace}
    (hw : Value.okWide Try.prog w r b0 37 v) (h : DataW.Trod enc Try.prog w base spare held 37 v d p) (hz : Sized Try.prog 37 d) : ∃ x : Hd, v = hv x ∧ True := by
  obtain ⟨cs, rfl, hl, n, hf⟩ := open_agg Try.underlying37 (by kernel_rfl) (by kernel_rfl) hw h hz
  obtain ⟨c0, c1, c2, c3, c4, rfl⟩ := list5 (hl.trans rfl)
  obtain ⟨u0, y0, e0, t0, _⟩ := hf 0 _ rfl
  obtain ⟨z0, rfl, _⟩ := cell_int (t := 3) Try.underlying3 t0
  obtain rfl : c0 = .int .i64 z0 := by simpa using e0
  obtain ⟨u1, y1, e1, t1, _⟩ := hf 1 _ rfl
  obtain ⟨z1, rfl, _⟩ := cell_int (t := 3) Try.underlying3 t1
  obtain rfl : c1 = .int .i64 z1 := by simpa using e1
  obtain ⟨u2, y2, e2, t2, _⟩ := hf 2 _ rfl
  obtain ⟨z2, rfl, _⟩ := cell_int (t := 3) Try.underlying3 t2
  obtain rfl : c2 = .int .i64 z2 := by simpa using e2
  obtain ⟨u3, y3, e3, t3, _⟩ := hf 3 _ rfl
  obtain ⟨z3, rfl, _⟩ := cell_int (t := 3) Try.underlying3 t3
  obtain rfl : c3 = .int .i64 z3 := by simpa using e3
  obtain ⟨u4, y4, e4, t4, _⟩ := hf 4 _ rfl
  obtain ⟨z4, rfl, _⟩ := cell_int (t := 3) Try.underlying3 t4
  obtain rfl : c4 = .int .i64 z4 := by simpa using e4
  exact ⟨⟨z0, z1, z2, z3, z4⟩, rfl, trivial⟩
end Go.Proofs.Ytogiabligehfaaa
