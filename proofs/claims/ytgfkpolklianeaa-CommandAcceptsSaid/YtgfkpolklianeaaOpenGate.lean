import Derived.Test.YtgfkpolklianeaaOpen
import Derived.Test.YtgfkpolklianeaaGateP
namespace Go.Proofs.Ytgfkpolklianeaa
set_option linter.unusedSimpArgs false
set_option linter.unusedVariables false
open Go.ChangeShapes Go.WideShapes Go.ChangeAt Go.RowKit

theorem list7Gate {α : Type} {l : List α} (h : l.length = 7) : ∃ c0 c1 c2 c3 c4 c5 c6, l = [c0, c1, c2, c3, c4, c5, c6] := by
  match l, h with
  | [c0, c1, c2, c3, c4, c5, c6], _ => exact ⟨_, _, _, _, _, _, _, rfl⟩

set_option maxRecDepth 100000 in
theorem open_gate {H : Type} {enc : TypeId × Value → H} {w : World} {base : Nat} {spare : Nat → Bool} {held : Bool} {r : Reach} {b0 : Nat} {v : Value} {d : DataW H} {p : List MemPlace}
    (hw : Value.okWide Try.prog w r b0 53 v) (h : DataW.Trod enc Try.prog w base spare held 53 v d p) (hz : Sized Try.prog 53 d) :
    ∃ x : Gt, v = gtv x ∧ True := by
  obtain ⟨cs, rfl, hl, n, hf⟩ := open_agg Try.underlying53 (by kernel_rfl) (by kernel_rfl) hw h hz
  obtain ⟨c0, c1, c2, c3, c4, c5, c6, rfl⟩ := list7Gate (hl.trans rfl)
  obtain ⟨u0, y0, e0, t0, s0⟩ := hf 0 _ rfl
  obtain ⟨z0, rfl, _⟩ := cell_int (k := .i64) (by kernel_rfl) t0
  obtain rfl : c0 = .int .i64 z0 := by simpa using e0
  obtain ⟨u1, y1, e1, t1, s1⟩ := hf 1 _ rfl
  obtain ⟨z1, rfl, _⟩ := cell_int (k := .i64) (by kernel_rfl) t1
  obtain rfl : c1 = .int .i64 z1 := by simpa using e1
  obtain ⟨u2, y2, e2, t2, s2⟩ := hf 2 _ rfl
  obtain ⟨z2, rfl, _⟩ := cell_int (k := .i64) (by kernel_rfl) t2
  obtain rfl : c2 = .int .i64 z2 := by simpa using e2
  obtain ⟨u3, y3, e3, t3, s3⟩ := hf 3 _ rfl
  obtain ⟨z3, rfl⟩ := cell_bool (by kernel_rfl) t3
  obtain rfl : c3 = .bool z3 := by simpa using e3
  obtain ⟨u4, y4, e4, t4, s4⟩ := hf 4 _ rfl
  obtain ⟨z4, rfl⟩ := cell_bool (by kernel_rfl) t4
  obtain rfl : c4 = .bool z4 := by simpa using e4
  obtain ⟨u5, y5, e5, t5, s5⟩ := hf 5 _ rfl
  obtain ⟨z5, rfl⟩ := cell_bool (by kernel_rfl) t5
  obtain rfl : c5 = .bool z5 := by simpa using e5
  obtain ⟨u6, y6, e6, t6, s6⟩ := hf 6 _ rfl
  obtain ⟨z6, rfl, _⟩ := cell_int (k := .i64) (by kernel_rfl) t6
  obtain rfl : c6 = .int .i64 z6 := by simpa using e6
  exact ⟨⟨z0, z1, z2, z3, z4, z5, z6⟩, rfl, trivial⟩
end Go.Proofs.Ytgfkpolklianeaa
