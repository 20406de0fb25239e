import Derived.Test.YtolcaolmdfbfhaaOpen
import Derived.Test.YtolcaolmdfbfhaaJoinP
namespace Go.Proofs.Ytolcaolmdfbfhaa
set_option linter.unusedSimpArgs false
set_option linter.unusedVariables false
open Go.ChangeShapes Go.WideShapes Go.ChangeAt Go.RowKit

theorem list4Joined {α : Type} {l : List α} (h : l.length = 4) : ∃ c0 c1 c2 c3, l = [c0, c1, c2, c3] := by
  match l, h with
  | [c0, c1, c2, c3], _ => exact ⟨_, _, _, _, rfl⟩

set_option maxRecDepth 100000 in
theorem open_joined {H : Type} {enc : TypeId × Value → H} {w : World} {base : Nat} {spare : Nat → Bool} {held : Bool} {r : Reach} {b0 : Nat} {v : Value} {d : DataW H} {p : List MemPlace}
    (hw : Value.okWide Try.prog w r b0 70 v) (h : DataW.Trod enc Try.prog w base spare held 70 v d p) (hz : Sized Try.prog 70 d) :
    ∃ (x : Jn) (A3 : Option Addr) (d3 : Nat), v = jnv x A3 d3 ∧ Rd w A3 (bvs x.unit) ∧ x.unit.length ≤ d3 ∧ x.unit.length ≤ 140737488351232 := by
  obtain ⟨cs, rfl, hl, n, hf⟩ := open_agg Try.underlying70 (by kernel_rfl) (by kernel_rfl) hw h hz
  obtain ⟨c0, c1, c2, c3, rfl⟩ := list4Joined (hl.trans rfl)
  obtain ⟨u0, y0, e0, t0, s0⟩ := hf 0 _ rfl
  obtain ⟨z0, rfl, _⟩ := cell_int (k := .i64) (by kernel_rfl) t0
  obtain rfl : c0 = .int .i64 z0 := by simpa using e0
  obtain ⟨u1, y1, e1, t1, s1⟩ := hf 1 _ rfl
  obtain ⟨z1, rfl, _⟩ := cell_int (k := .i64) (by kernel_rfl) t1
  obtain rfl : c1 = .int .i64 z1 := by simpa using e1
  obtain ⟨u2, y2, e2, t2, s2⟩ := hf 2 _ rfl
  obtain ⟨z2, rfl⟩ := cell_bool (by kernel_rfl) t2
  obtain rfl : c2 = .bool z2 := by simpa using e2
  obtain ⟨u3, y3, e3, t3, s3⟩ := hf 3 _ rfl
  obtain ⟨A3, l3, d3, rfl, hR3, hC3, hN3⟩ := cell_slice Try.underlying22 Try.underlying5 Try.cells1 Try.bytes1 t3 s3
  obtain rfl : c3 = .slice A3 l3.length d3 := by simpa using e3
  exact ⟨⟨z0, z1, z2, l3⟩, A3, d3, rfl, hR3, hC3, hN3⟩
end Go.Proofs.Ytolcaolmdfbfhaa
