import Derived.Test.YtolcaolmdfbfhaaOpen
import Derived.Test.YtolcaolmdfbfhaaPkt
namespace Go.Proofs.Ytolcaolmdfbfhaa
set_option linter.unusedSimpArgs false
set_option linter.unusedVariables false
open Go.ChangeShapes Go.WideShapes Go.ChangeAt Go.RowKit

theorem list6Packet {α : Type} {l : List α} (h : l.length = 6) : ∃ c0 c1 c2 c3 c4 c5, l = [c0, c1, c2, c3, c4, c5] := by
  match l, h with
  | [c0, c1, c2, c3, c4, c5], _ => exact ⟨_, _, _, _, _, _, rfl⟩

set_option maxRecDepth 100000 in
theorem open_packet {H : Type} {enc : TypeId × Value → H} {w : World} {base : Nat} {spare : Nat → Bool} {held : Bool} {r : Reach} {b0 : Nat} {v : Value} {d : DataW H} {p : List MemPlace}
    (hw : Value.okWide Try.prog w r b0 34 v) (h : DataW.Trod enc Try.prog w base spare held 34 v d p) (hz : Sized Try.prog 34 d) :
    ∃ (x : Pkt) (A5 : Option Addr) (d5 : Nat), v = pv x A5 d5 ∧ Rd w A5 (bvs x.data) ∧ x.data.length ≤ d5 ∧ x.data.length ≤ 140737488351232 := by
  obtain ⟨cs, rfl, hl, n, hf⟩ := open_agg Try.underlying34 (by kernel_rfl) (by kernel_rfl) hw h hz
  obtain ⟨c0, c1, c2, c3, c4, c5, rfl⟩ := list6Packet (hl.trans rfl)
  obtain ⟨u0, y0, e0, t0, s0⟩ := hf 0 _ rfl
  obtain ⟨z0, rfl⟩ := cell_bool (by kernel_rfl) t0
  obtain rfl : c0 = .bool z0 := by simpa using e0
  obtain ⟨u1, y1, e1, t1, s1⟩ := hf 1 _ rfl
  obtain ⟨z1, rfl⟩ := cell_bool (by kernel_rfl) t1
  obtain rfl : c1 = .bool z1 := by simpa using e1
  obtain ⟨u2, y2, e2, t2, s2⟩ := hf 2 _ rfl
  obtain ⟨z2, rfl, _⟩ := cell_int (k := .i64) (by kernel_rfl) t2
  obtain rfl : c2 = .int .i64 z2 := by simpa using e2
  obtain ⟨u3, y3, e3, t3, s3⟩ := hf 3 _ rfl
  obtain ⟨z3, rfl, _⟩ := cell_int (k := .i64) (by kernel_rfl) t3
  obtain rfl : c3 = .int .i64 z3 := by simpa using e3
  obtain ⟨u4, y4, e4, t4, s4⟩ := hf 4 _ rfl
  obtain ⟨z4, rfl, _⟩ := cell_int (k := .i64) (by kernel_rfl) t4
  obtain rfl : c4 = .int .i64 z4 := by simpa using e4
  obtain ⟨u5, y5, e5, t5, s5⟩ := hf 5 _ rfl
  obtain ⟨A5, l5, d5, rfl, hR5, hC5, hN5⟩ := cell_slice Try.underlying22 Try.underlying5 Try.cells1 Try.bytes1 t5 s5
  obtain rfl : c5 = .slice A5 l5.length d5 := by simpa using e5
  exact ⟨⟨z0, z1, z2, z3, z4, l5⟩, A5, d5, rfl, hR5, hC5, hN5⟩
end Go.Proofs.Ytolcaolmdfbfhaa
