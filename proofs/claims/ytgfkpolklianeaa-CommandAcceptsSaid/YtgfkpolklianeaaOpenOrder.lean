import Derived.Test.YtgfkpolklianeaaOpen
import Derived.Test.YtgfkpolklianeaaOrdP
namespace Go.Proofs.Ytgfkpolklianeaa
set_option linter.unusedSimpArgs false
set_option linter.unusedVariables false
open Go.ChangeShapes Go.WideShapes Go.ChangeAt Go.RowKit

theorem list5Order {α : Type} {l : List α} (h : l.length = 5) : ∃ c0 c1 c2 c3 c4, l = [c0, c1, c2, c3, c4] := by
  match l, h with
  | [c0, c1, c2, c3, c4], _ => exact ⟨_, _, _, _, _, rfl⟩

set_option maxRecDepth 100000 in
theorem open_order {H : Type} {enc : TypeId × Value → H} {w : World} {base : Nat} {spare : Nat → Bool} {held : Bool} {r : Reach} {b0 : Nat} {v : Value} {d : DataW H} {p : List MemPlace}
    (hw : Value.okWide Try.prog w r b0 64 v) (h : DataW.Trod enc Try.prog w base spare held 64 v d p) (hz : Sized Try.prog 64 d) :
    ∃ (x : Ord) (A4 : Option Addr) (d4 : Nat), v = ordv x A4 d4 ∧ Rd w A4 (bvs x.data) ∧ x.data.length ≤ d4 ∧ x.data.length ≤ 140737488351232 := by
  obtain ⟨cs, rfl, hl, n, hf⟩ := open_agg Try.underlying64 (by kernel_rfl) (by kernel_rfl) hw h hz
  obtain ⟨c0, c1, c2, c3, c4, rfl⟩ := list5Order (hl.trans rfl)
  obtain ⟨u0, y0, e0, t0, s0⟩ := hf 0 _ rfl
  obtain ⟨z0, rfl, _⟩ := cell_int (k := .i64) (by kernel_rfl) t0
  obtain rfl : c0 = .int .i64 z0 := by simpa using e0
  obtain ⟨u1, y1, e1, t1, s1⟩ := hf 1 _ rfl
  obtain ⟨z1, rfl⟩ := cell_bool (by kernel_rfl) t1
  obtain rfl : c1 = .bool z1 := by simpa using e1
  obtain ⟨u2, y2, e2, t2, s2⟩ := hf 2 _ rfl
  obtain ⟨z2, rfl⟩ := cell_bool (by kernel_rfl) t2
  obtain rfl : c2 = .bool z2 := by simpa using e2
  obtain ⟨u3, y3, e3, t3, s3⟩ := hf 3 _ rfl
  obtain ⟨z3, rfl, _⟩ := cell_int (k := .i64) (by kernel_rfl) t3
  obtain rfl : c3 = .int .i64 z3 := by simpa using e3
  obtain ⟨u4, y4, e4, t4, s4⟩ := hf 4 _ rfl
  obtain ⟨A4, l4, d4, rfl, hR4, hC4, hN4⟩ := cell_slice Try.underlying30 Try.underlying5 Try.cells1 Try.bytes1 t4 s4
  obtain rfl : c4 = .slice A4 l4.length d4 := by simpa using e4
  exact ⟨⟨z0, z1, z2, z3, l4⟩, A4, d4, rfl, hR4, hC4, hN4⟩
end Go.Proofs.Ytgfkpolklianeaa
