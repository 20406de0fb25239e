/-
  An argument that is a hand.
-/
import Derived.Test.YtppmdamcdhmcpaaOpenRows
import Derived.Test.YtppmdamcdhmcpaaHandD
namespace Go.Proofs.Ytppmdamcdhmcpaa
set_option linter.unusedSimpArgs false
set_option linter.unusedVariables false
open Go.ChangeShapes Go.WideShapes Go.ChangeAt Go.RowKit Go.Joins Go.Deep

/-- A hand that came in: it, and where its rows lie. -/
structure HandA where
  h : Hnd
  S : Option Addr
  c : Nat
  A : Option Addr
  d : Nat
def hav (x : HandA) : Value := hvn x.h x.S x.h.sent.length x.c x.A x.h.asked.length x.d
def HandArg (w : World) (x : HandA) : Prop := RdRows w x.S x.h.sent ∧ RdRows w x.A x.h.asked ∧ RowsFit x.h.sent x.h.sent.length ∧ RowsFit x.h.asked x.h.asked.length
theorem list12 {α : Type} {l : List α} (h : l.length = 12) : ∃ c0 c1 c2 c3 c4 c5 c6 c7 c8 c9 c10 c11, l = [c0, c1, c2, c3, c4, c5, c6, c7, c8, c9, c10, c11] := by
  match l, h with
  | [c0, c1, c2, c3, c4, c5, c6, c7, c8, c9, c10, c11], _ => exact ⟨_, _, _, _, _, _, _, _, _, _, _, _, rfl⟩
set_option maxRecDepth 100000 in
theorem open_hand {H : Type} {enc : TypeId × Value → H} {w : World} {base : Nat} {spare : Nat → Bool} {held : Bool} {r : Reach} {b0 : Nat} {v : Value} {d : DataW H} {p : List MemPlace}
    (hw : Value.okWide Try.prog w r b0 25 v) (h : DataW.Trod enc Try.prog w base spare held 25 v d p) (hz : Sized Try.prog 25 d) :
    ∃ x : HandA, v = hav x ∧ HandArg w x := by
  obtain ⟨cs, rfl, hl, n, hf⟩ := open_agg Try.underlying25 (by kernel_rfl) (by kernel_rfl) hw h hz
  obtain ⟨c0, c1, c2, c3, c4, c5, c6, c7, c8, c9, c10, c11, rfl⟩ := list12 (hl.trans rfl)
  obtain ⟨u0, y0, e0, t0, s0⟩ := hf 0 _ rfl
  obtain ⟨z0, rfl, _⟩ := cell_int (k := .i64) (by kernel_rfl) t0
  obtain rfl : c0 = .int .i64 z0 := by simpa using e0
  obtain ⟨u1, y1, e1, t1, s1⟩ := hf 1 _ rfl
  obtain ⟨z1, rfl, _⟩ := cell_int (k := .i64) (by kernel_rfl) t1
  obtain rfl : c1 = .int .i64 z1 := by simpa using e1
  obtain ⟨u2, y2, e2, t2, s2⟩ := hf 2 _ rfl
  obtain ⟨z2, rfl, _⟩ := cell_int (k := .i64) (by kernel_rfl) t2
  obtain rfl : c2 = .int .i64 z2 := by simpa using e2
  obtain ⟨u5, y5, e5, t5, s5⟩ := hf 5 _ rfl
  obtain ⟨z5, rfl, _⟩ := cell_int (k := .i64) (by kernel_rfl) t5
  obtain rfl : c5 = .int .i64 z5 := by simpa using e5
  obtain ⟨u6, y6, e6, t6, s6⟩ := hf 6 _ rfl
  obtain ⟨z6, rfl, _⟩ := cell_int (k := .i64) (by kernel_rfl) t6
  obtain rfl : c6 = .int .i64 z6 := by simpa using e6
  obtain ⟨u7, y7, e7, t7, s7⟩ := hf 7 _ rfl
  obtain ⟨z7, rfl, _⟩ := cell_int (k := .i64) (by kernel_rfl) t7
  obtain rfl : c7 = .int .i64 z7 := by simpa using e7
  obtain ⟨u8, y8, e8, t8, s8⟩ := hf 8 _ rfl
  obtain ⟨z8, rfl, _⟩ := cell_int (k := .i64) (by kernel_rfl) t8
  obtain rfl : c8 = .int .i64 z8 := by simpa using e8
  obtain ⟨u9, y9, e9, t9, s9⟩ := hf 9 _ rfl
  obtain ⟨z9, rfl, _⟩ := cell_int (k := .i64) (by kernel_rfl) t9
  obtain rfl : c9 = .int .i64 z9 := by simpa using e9
  obtain ⟨u10, y10, e10, t10, s10⟩ := hf 10 _ rfl
  obtain ⟨z10, rfl, _⟩ := cell_int (k := .i64) (by kernel_rfl) t10
  obtain rfl : c10 = .int .i64 z10 := by simpa using e10
  obtain ⟨u11, y11, e11, t11, s11⟩ := hf 11 _ rfl
  obtain ⟨z11, rfl, _⟩ := cell_int (k := .i64) (by kernel_rfl) t11
  obtain rfl : c11 = .int .i64 z11 := by simpa using e11
  obtain ⟨u3, y3, e3, t3, s3⟩ := hf 3 _ rfl
  obtain ⟨A3, len3, d3, rfl⟩ := slice_of_cell Try.underlying22 t3
  obtain ⟨l3, rfl, hR3, hC3, hN3, hM3⟩ := cell_rows Try.underlying22 Try.underlying26 Try.underlying5 Try.cells1 Try.bytes1 (by kernel_rfl) (by kernel_rfl) t3 s3
  obtain rfl : c3 = .slice A3 l3.length d3 := by simpa using e3
  obtain ⟨u4, y4, e4, t4, s4⟩ := hf 4 _ rfl
  obtain ⟨A4, len4, d4, rfl⟩ := slice_of_cell Try.underlying22 t4
  obtain ⟨l4, rfl, hR4, hC4, hN4, hM4⟩ := cell_rows Try.underlying22 Try.underlying26 Try.underlying5 Try.cells1 Try.bytes1 (by kernel_rfl) (by kernel_rfl) t4 s4
  obtain rfl : c4 = .slice A4 l4.length d4 := by simpa using e4
  exact ⟨⟨⟨z0, z1, z2, l3, l4, z5, z6, z7, z8, z9, z10, z11⟩, A3, d3, A4, d4⟩, rfl, hR3, hR4, ⟨hN3, fun l hl => Nat.le_trans (hM3 l hl) (by decide)⟩, ⟨hN4, fun l hl => Nat.le_trans (hM4 l hl) (by decide)⟩⟩
end Go.Proofs.Ytppmdamcdhmcpaa
