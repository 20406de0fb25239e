/-
  An argument that is a key.
-/
import Derived.Test.YtkbaganbfcbioaaOpenI
import Derived.Test.YtkbaganbfcbioaaKey
namespace Go.Proofs.Ytkbaganbfcbioaa
set_option linter.unusedSimpArgs false
set_option linter.unusedVariables false
open Go.ChangeShapes Go.WideShapes Go.ChangeAt Go.RowKit

theorem list4Key {α : Type} {l : List α} (h : l.length = 4) : ∃ c0 c1 c2 c3, l = [c0, c1, c2, c3] := by
  match l, h with
  | [c0, c1, c2, c3], _ => exact ⟨_, _, _, _, rfl⟩
/-- A cell that holds a list of ints. -/
theorem cell_slice_ints {H : Type} {enc : TypeId × Value → H} {P : Program} {w : World} {base : Nat} {spare : Nat → Bool} {held : Bool} {t e : TypeId} (ht : P.underlying t = some (.slice e)) (he : P.underlying e = some (.int .i64)) (hc : P.cellsOf e = 1) (hb : P.bytesOf e = 8) {u : Value} {fuel : Nat} {x : DataW H × List MemPlace}
    (h : DataW.trod enc P w base spare held fuel t [u] = some x) (hs : Sized P t x.1) :
    ∃ (A : Option Addr) (l : List Int) (c : Nat), u = .slice A l.length c ∧ Rd w A (ivs l) ∧ l.length ≤ c ∧ l.length ≤ 17592186044400 := by
  have hu : ∃ A len cap, u = .slice A len cap := by
    rcases open_ints ht he hc h with ⟨hcs, _⟩ | ⟨a, len', cap', zs, hcs, _⟩
    · simp only [List.cons.injEq, and_true] at hcs
      exact ⟨_, _, _, hcs⟩
    · simp only [List.cons.injEq, and_true] at hcs
      exact ⟨_, _, _, hcs⟩
  obtain ⟨A, len, cap, rfl⟩ := hu
  obtain ⟨l, rfl, hr, hc2, hn, _⟩ := cell_ints ht he hc hb h hs
  exact ⟨A, l, cap, rfl, hr, hc2, hn⟩
theorem wf_i64 {z : Int} (h : (Lit.int .i64 z).wf = true) : -9223372036854775808 ≤ z ∧ z < 9223372036854775808 := by
  have := bounds_i64 h
  omega

set_option maxRecDepth 100000 in
theorem open_key {H : Type} {enc : TypeId × Value → H} {w : World} {base : Nat} {spare : Nat → Bool} {held : Bool} {r : Reach} {b0 : Nat} {v : Value} {d : DataW H} {p : List MemPlace}
    (hw : Value.okWide Try.prog w r b0 46 v) (h : DataW.Trod enc Try.prog w base spare held 46 v d p) (hz : Sized Try.prog 46 d) :
    ∃ (x : Ky) (A1 : Option Addr) (d1 : Nat), v = kyv x A1 d1 ∧ Rd w A1 (ivs x.words) ∧ x.words.length ≤ d1 ∧ (x.words.length ≤ 17592186044400 ∧ x.seen < 9223372036854775808) := by
  obtain ⟨cs, rfl, hl, n, hf⟩ := open_agg Try.underlying46 (by kernel_rfl) (by kernel_rfl) hw h hz
  obtain ⟨c0, c1, c2, c3, rfl⟩ := list4Key (hl.trans rfl)
  obtain ⟨u0, y0, e0, t0, s0⟩ := hf 0 _ rfl
  obtain ⟨z0, rfl, _⟩ := cell_int (k := .i64) (by kernel_rfl) t0
  obtain rfl : c0 = .int .i64 z0 := by simpa using e0
  obtain ⟨u1, y1, e1, t1, s1⟩ := hf 1 _ rfl
  obtain ⟨A1, l1, d1, rfl, hR1, hC1, hN1⟩ := cell_slice_ints Try.underlying35 Try.underlying3 Try.cells3 Try.bytes3 t1 s1
  obtain rfl : c1 = .slice A1 l1.length d1 := by simpa using e1
  obtain ⟨u2, y2, e2, t2, s2⟩ := hf 2 _ rfl
  obtain ⟨z2, rfl, _⟩ := cell_int (k := .i64) (by kernel_rfl) t2
  obtain rfl : c2 = .int .i64 z2 := by simpa using e2
  obtain ⟨u3, y3, e3, t3, s3⟩ := hf 3 _ rfl
  obtain ⟨z3, rfl, w3⟩ := cell_int (k := .i64) (by kernel_rfl) t3
  obtain rfl : c3 = .int .i64 z3 := by simpa using e3
  exact ⟨⟨z0, l1, z2, z3⟩, A1, d1, rfl, hR1, hC1, hN1, (wf_i64 w3).2⟩
end Go.Proofs.Ytkbaganbfcbioaa
