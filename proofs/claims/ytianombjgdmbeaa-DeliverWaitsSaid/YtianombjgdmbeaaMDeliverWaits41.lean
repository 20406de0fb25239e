/-
  An argument that is a taker.
-/
import Derived.Test.YtianombjgdmbeaaMDeliverWaits40
import Derived.Test.YtianombjgdmbeaaMDeliverWaits29
import Derived.Test.YtianombjgdmbeaaMDeliverWaits27
namespace Go.Proofs.Ytianombjgdmbeaa
set_option linter.unusedSimpArgs false
set_option linter.unusedVariables false
open Go.ChangeShapes Go.WideShapes Go.ChangeAt Go.RowKit Go.Joins Go.Deep

structure TkA where
  g : Tk
  F : Option Addr
  fc : Nat
  A : Option Addr
  ac : Nat
def tkav (x : TkA) : Value := tvv x.g x.F x.g.file.length x.fc x.A x.g.have_.length x.ac
structure TakerArg (w : World) (x : TkA) : Prop where
  file : Rd w x.F (bvs x.g.file)
  have_ : Rd w x.A (gps x.g.have_)
  fle : x.g.file.length ≤ 140737488351232
  fcap : x.g.file.length ≤ x.fc
  ale : x.g.have_.length ≤ 8796093022200
theorem list14T {α : Type} {l : List α} (h : l.length = 14) : ∃ c0 c1 c2 c3 c4 c5 c6 c7 c8 c9 c10 c11 c12 c13, l = [c0, c1, c2, c3, c4, c5, c6, c7, c8, c9, c10, c11, c12, c13] := by
  match l, h with
  | [c0, c1, c2, c3, c4, c5, c6, c7, c8, c9, c10, c11, c12, c13], _ => exact ⟨_, _, _, _, _, _, _, _, _, _, _, _, _, _, rfl⟩
set_option maxRecDepth 100000 in
theorem open_taker {H : Type} {enc : TypeId × Value → H} {w : World} {base : Nat} {spare : Nat → Bool} {held : Bool} {r : Reach} {b0 : Nat} {v : Value} {d : DataW H} {p : List MemPlace}
    (hw : Value.okWide Try.prog w r b0 44 v) (h : DataW.Trod enc Try.prog w base spare held 44 v d p) (hz : Sized Try.prog 44 d) :
    ∃ x : TkA, v = tkav x ∧ TakerArg w x := by
  obtain ⟨cs, rfl, hl, n, hf⟩ := open_agg Try.underlying44 (by kernel_rfl) (by kernel_rfl) hw h hz
  obtain ⟨c0, c1, c2, c3, c4, c5, c6, c7, c8, c9, c10, c11, c12, c13, rfl⟩ := list14T (hl.trans rfl)
  obtain ⟨u0, y0, e0, t0, s0⟩ := hf 0 _ rfl
  obtain ⟨z0, rfl, _⟩ := cell_int (k := .i64) (by kernel_rfl) t0
  obtain rfl : c0 = .int .i64 z0 := by simpa using e0
  obtain ⟨u3, y3, e3, t3, s3⟩ := hf 3 _ rfl
  obtain ⟨z3, rfl, _⟩ := cell_int (k := .i64) (by kernel_rfl) t3
  obtain rfl : c3 = .int .i64 z3 := by simpa using e3
  obtain ⟨u5, y5, e5, t5, s5⟩ := hf 5 _ rfl
  obtain ⟨z5, rfl, _⟩ := cell_int (k := .i64) (by kernel_rfl) t5
  obtain rfl : c5 = .int .i64 z5 := by simpa using e5
  obtain ⟨u6, y6, e6, t6, s6⟩ := hf 6 _ rfl
  obtain ⟨z6, rfl, _⟩ := cell_int (k := .i64) (by kernel_rfl) t6
  obtain rfl : c6 = .int .i64 z6 := by simpa using e6
  obtain ⟨u9, y9, e9, t9, s9⟩ := hf 9 _ rfl
  obtain ⟨z9, rfl, _⟩ := cell_int (k := .i64) (by kernel_rfl) t9
  obtain rfl : c9 = .int .i64 z9 := by simpa using e9
  obtain ⟨u10, y10, e10, t10, s10⟩ := hf 10 _ rfl
  obtain ⟨z10, rfl, _⟩ := cell_int (k := .i64) (by kernel_rfl) t10
  obtain rfl : c10 = .int .i64 z10 := by simpa using e10
  obtain ⟨u11, y11, e11, t11, s11⟩ := hf 11 _ rfl
  obtain ⟨z11, rfl, _⟩ := cell_int (k := .i64) (by kernel_rfl) t11
  obtain rfl : c11 = .int .i64 z11 := by simpa using e11
  obtain ⟨u12, y12, e12, t12, s12⟩ := hf 12 _ rfl
  obtain ⟨z12, rfl, _⟩ := cell_int (k := .i64) (by kernel_rfl) t12
  obtain rfl : c12 = .int .i64 z12 := by simpa using e12
  obtain ⟨u13, y13, e13, t13, s13⟩ := hf 13 _ rfl
  obtain ⟨z13, rfl, _⟩ := cell_int (k := .i64) (by kernel_rfl) t13
  obtain rfl : c13 = .int .i64 z13 := by simpa using e13
  obtain ⟨u1, y1, e1, t1, s1⟩ := hf 1 _ rfl
  obtain ⟨z1, rfl⟩ := cell_bool (by kernel_rfl) t1
  obtain rfl : c1 = .bool z1 := by simpa using e1
  obtain ⟨u4, y4, e4, t4, s4⟩ := hf 4 _ rfl
  obtain ⟨z4, rfl⟩ := cell_bool (by kernel_rfl) t4
  obtain rfl : c4 = .bool z4 := by simpa using e4
  obtain ⟨u2, y2, e2, t2, s2⟩ := hf 2 _ rfl
  obtain ⟨z2, rfl⟩ := cell_str (by kernel_rfl) t2
  obtain rfl : c2 = .string z2 := by simpa using e2
  obtain ⟨u8, y8, e8, t8, s8⟩ := hf 8 _ rfl
  obtain ⟨A2, l2, d2, rfl, hR2, hC2, hN2⟩ := cell_slice Try.underlying23 Try.underlying5 Try.cells1 Try.bytes1 t8 s8
  obtain rfl : c8 = .slice A2 l2.length d2 := by simpa using e8
  obtain ⟨u7, y7, e7, t7, s7⟩ := hf 7 _ rfl
  obtain ⟨A8, len8, cap8, rfl⟩ := slice_at Try.underlying24 t7
  obtain rfl : c7 = .slice A8 len8 cap8 := by simpa using e7
  obtain ⟨l8, rfl, hR8, hC8, hN8⟩ := cell_pairs Try.underlying24 Try.underlying66 Try.underlying3 (by kernel_rfl) cells66 bytes66 t7 s7
  exact ⟨⟨⟨z0, z1, z2, z3, z4, z5, z6, l8, l2, z9, z10, z11, z12, z13⟩, A2, d2, A8, cap8⟩, rfl, hR2, hR8, hN2, hC2, hN8⟩
end Go.Proofs.Ytianombjgdmbeaa
namespace Go.Proofs.Ytianombjgdmbeaa
set_option linter.unusedSimpArgs false
set_option linter.unusedVariables false
open Go.RowKit

set_option maxHeartbeats 800000 in
set_option maxRecDepth 100000 in
theorem twice_yes (base : Nat) (A B C : Option Addr) (l : List UInt8) (c d f : Nat) (w : World) (hA : Own w base 5 1 A l.length c (bvs l)) (hB : Rd w B (bvs l)) (hC : Rd w C (bvs l))
    (hBA : ∀ k, blk A = some k → blk B ≠ some k) (hCA : ∀ k, blk A = some k → blk C ≠ some k) (hn : l.length ≤ 140737488351300) (hbase : base ≤ w.heap.size) :
    Calls Try.prog 12 #[.slice A l.length c, .slice B l.length d, .slice C l.length f] w fun e w' => e = .returned (.bool true) ∧ w.grownBy w' (blk A) := by
  go_enter Try.func12, Try.ntmps12
  go_wp2_with fail
  refine (sameBytes_yes A C l c f w hA.rd hC).mono ?_
  rintro e w1 ⟨rfl, rfl⟩
  go_wp2_with fail
  refine (sameBytes_yes B C l d f w hB hC).mono ?_
  rintro e w1 ⟨rfl, rfl⟩
  go_wp2_with fail
  refine (spoil_any base A l.length c l w hA hn hbase).mono ?_
  rintro e w1 ⟨rfl, hg⟩
  go_wp2_with fail
  refine (sameBytes_yes B C l d f w1 (hB.grown hg hBA) (hC.grown hg hCA)).mono ?_
  rintro e w2 ⟨rfl, rfl⟩
  go_wp2_with fail
  go_ret
  exact ⟨rfl, hg⟩
end Go.Proofs.Ytianombjgdmbeaa
