/-
  An argument that holds a list of lists of bytes. An argument that is a hand.
-/
import Derived.Test.YtppmdamcdhmcpaaMCommandSteps1
import Derived.Test.YtppmdamcdhmcpaaMCommandSteps3
import Derived.Deep.Slices
import Derived.Test.YtppmdamcdhmcpaaMCommandSteps10
namespace Go.Proofs.Ytppmdamcdhmcpaa
set_option linter.unusedSimpArgs false
set_option linter.unusedVariables false
open Go.ChangeShapes Go.WideShapes Go.ChangeAt Go.RowKit Go.Joins Go.Deep
section
variable {H : Type} {enc : TypeId × Value → H} {P : Program} {w : World} {base : Nat} {spare : Nat → Bool} {held : Bool}
theorem slice_of_cell {t e : TypeId} (ht : P.underlying t = some (.slice e)) {u : Value} {fuel : Nat} {x : DataW H × List MemPlace}
    (h : DataW.trod enc P w base spare held fuel t [u] = some x) : ∃ A len cap, u = .slice A len cap := by
  rcases open_slice ht h with ⟨hcs, _⟩ | ⟨a, len', cap', m, n, D, Pl, hcs, _⟩
  · simp only [List.cons.injEq, and_true] at hcs
    exact ⟨_, _, _, hcs⟩
  · simp only [List.cons.injEq, and_true] at hcs
    exact ⟨_, _, _, hcs⟩
/-- A cell that holds a list of lists of bytes. -/
theorem cell_rows {t e b : TypeId} (ht : P.underlying t = some (.slice e)) (he : P.underlying e = some (.slice b)) (hb : P.underlying b = some (.int .u8)) (hc : P.cellsOf b = 1) (hb1 : P.bytesOf b = 1) (hce : P.cellsOf e = 1) (hbe : P.bytesOf e = 24) {A : Option Addr} {len cap fuel : Nat} {x : DataW H × List MemPlace}
    (h : DataW.trod enc P w base spare held fuel t [.slice A len cap] = some x) (hs : Sized P t x.1) :
    ∃ ls : List (List UInt8), len = ls.length ∧ RdRows w A ls ∧ ls.length ≤ cap ∧ ls.length ≤ 5864062014634 ∧ ∀ l ∈ ls, l.length ≤ 140737488351232 := by
  rcases open_slice1 ht hce h with ⟨hcs, hx⟩ | ⟨a, len', cap', m, n, V, D, Pl, hcs, _, hl, hm, hmm, hx, hel⟩
  · simp only [List.cons.injEq, Value.slice.injEq, and_true] at hcs
    obtain ⟨rfl, rfl, rfl⟩ := hcs
    exact ⟨[], rfl, RdRows.nil _ _, Nat.le_refl _, by simp, fun l hl => by cases hl⟩
  · simp only [List.cons.injEq, Value.slice.injEq, and_true] at hcs
    obtain ⟨rfl, rfl, rfl⟩ := hcs
    have hlm : len ≤ m := by rw [hmm]; split <;> omega
    rw [hx] at hs
    have hsz := hs.slice ht
    rw [hbe] at hsz
    simp only [List.length_map, List.length_range, reachBytes] at hsz
    have each : ∀ i, i < len → ∃ r : (List UInt8) × Option Addr × Nat, V i = .slice r.2.1 r.1.length r.2.2 ∧ Rd w r.2.1 (bvs r.1) ∧ r.1.length ≤ r.2.2 ∧ r.1.length ≤ 140737488351232 := by
      intro i hi
      obtain ⟨h1, h2⟩ := hel i (by omega)
      have hsi : Sized P e (D i) := hs.elem ht (List.mem_map.2 ⟨i, List.mem_range.2 hi, rfl⟩)
      obtain ⟨B, l, c, e1, e2, e3, e4⟩ := cell_slice he hb hc hb1 h2 hsi
      exact ⟨⟨l, B, c⟩, e1, e2, e3, e4⟩
    obtain ⟨f, hf⟩ := choose_lt each
    refine ⟨(List.range len).map fun i => (f i).1, by simp, ⟨(List.range len).map V, ?_, by simp, ?_⟩, by simpa using hl, by simp; omega, ?_⟩
    · intro i u hu
      rw [List.getElem?_map] at hu
      obtain ⟨k, hk, rfl⟩ := Option.map_eq_some_iff.1 hu
      obtain ⟨h1, rfl⟩ := List.getElem?_eq_some_iff.1 hk
      simp only [List.length_range] at h1
      simp only [List.getElem_range]
      obtain ⟨hcell, _⟩ := hel i (by omega)
      obtain ⟨b0, off, spot⟩ := a
      have hspot : spot = none := by
        obtain ⟨h0, _⟩ := hel 0 (by omega)
        simpa [Addr.add] using World.cell?_spot h0
      subst hspot
      refine ⟨b0, off, rfl, ?_⟩
      rw [Addr.add_lit] at hcell
      exact hcell
    · intro i l hl
      rw [List.getElem?_map] at hl
      obtain ⟨k, hk, rfl⟩ := Option.map_eq_some_iff.1 hl
      obtain ⟨h1, rfl⟩ := List.getElem?_eq_some_iff.1 hk
      simp only [List.length_range] at h1
      simp only [List.getElem_range]
      obtain ⟨h2, h3, h4, _⟩ := hf i h1
      refine ⟨(f i).2.1, (f i).2.2, ?_, h3, h4⟩
      rw [List.getElem?_map, List.getElem?_range h1]
      simp [h2]
    · intro l hl
      simp only [List.mem_map, List.mem_range] at hl
      obtain ⟨i, hi, rfl⟩ := hl
      exact (hf i hi).2.2.2
end
end Go.Proofs.Ytppmdamcdhmcpaa
namespace Go.Proofs.Ytppmdamcdhmcpaa
set_option linter.unusedSimpArgs false
set_option linter.unusedVariables false
open Go.ChangeShapes Go.WideShapes Go.ChangeAt Go.RowKit Go.Joins Go.Deep

/-- A hand that came in: it, and where its rows lie. -/
structure HandA where
  h : Hnd
  S : Option Addr
  c : Nat
  A : Option Addr
  d : Nat
def hav (x : HandA) : Value := hvn x.h x.S x.h.sent.length x.c x.A x.h.asked.length x.d
def HandArg (w : World) (x : HandA) : Prop := RdRows w x.S x.h.sent ∧ RdRows w x.A x.h.asked ∧ RowsFit x.h.sent x.h.sent.length ∧ RowsFit x.h.asked x.h.asked.length
theorem list12 {α : Type} {l : List α} (h : l.length = 12) : ∃ c0 c1 c2 c3 c4 c5 c6 c7 c8 c9 c10 c11, l = [c0, c1, c2, c3, c4, c5, c6, c7, c8, c9, c10, c11] := by
  match l, h with
  | [c0, c1, c2, c3, c4, c5, c6, c7, c8, c9, c10, c11], _ => exact ⟨_, _, _, _, _, _, _, _, _, _, _, _, rfl⟩
set_option maxRecDepth 100000 in
theorem open_hand {H : Type} {enc : TypeId × Value → H} {w : World} {base : Nat} {spare : Nat → Bool} {held : Bool} {r : Reach} {b0 : Nat} {v : Value} {d : DataW H} {p : List MemPlace}
    (hw : Value.okWide Try.prog w r b0 25 v) (h : DataW.Trod enc Try.prog w base spare held 25 v d p) (hz : Sized Try.prog 25 d) :
    ∃ x : HandA, v = hav x ∧ HandArg w x := by
  obtain ⟨cs, rfl, hl, n, hf⟩ := open_agg Try.underlying25 (by kernel_rfl) (by kernel_rfl) hw h hz
  obtain ⟨c0, c1, c2, c3, c4, c5, c6, c7, c8, c9, c10, c11, rfl⟩ := list12 (hl.trans rfl)
  obtain ⟨u0, y0, e0, t0, s0⟩ := hf 0 _ rfl
  obtain ⟨z0, rfl, _⟩ := cell_int (k := .i64) (by kernel_rfl) t0
  obtain rfl : c0 = .int .i64 z0 := by simpa using e0
  obtain ⟨u1, y1, e1, t1, s1⟩ := hf 1 _ rfl
  obtain ⟨z1, rfl, _⟩ := cell_int (k := .i64) (by kernel_rfl) t1
  obtain rfl : c1 = .int .i64 z1 := by simpa using e1
  obtain ⟨u2, y2, e2, t2, s2⟩ := hf 2 _ rfl
  obtain ⟨z2, rfl, _⟩ := cell_int (k := .i64) (by kernel_rfl) t2
  obtain rfl : c2 = .int .i64 z2 := by simpa using e2
  obtain ⟨u5, y5, e5, t5, s5⟩ := hf 5 _ rfl
  obtain ⟨z5, rfl, _⟩ := cell_int (k := .i64) (by kernel_rfl) t5
  obtain rfl : c5 = .int .i64 z5 := by simpa using e5
  obtain ⟨u6, y6, e6, t6, s6⟩ := hf 6 _ rfl
  obtain ⟨z6, rfl, _⟩ := cell_int (k := .i64) (by kernel_rfl) t6
  obtain rfl : c6 = .int .i64 z6 := by simpa using e6
  obtain ⟨u7, y7, e7, t7, s7⟩ := hf 7 _ rfl
  obtain ⟨z7, rfl, _⟩ := cell_int (k := .i64) (by kernel_rfl) t7
  obtain rfl : c7 = .int .i64 z7 := by simpa using e7
  obtain ⟨u8, y8, e8, t8, s8⟩ := hf 8 _ rfl
  obtain ⟨z8, rfl, _⟩ := cell_int (k := .i64) (by kernel_rfl) t8
  obtain rfl : c8 = .int .i64 z8 := by simpa using e8
  obtain ⟨u9, y9, e9, t9, s9⟩ := hf 9 _ rfl
  obtain ⟨z9, rfl, _⟩ := cell_int (k := .i64) (by kernel_rfl) t9
  obtain rfl : c9 = .int .i64 z9 := by simpa using e9
  obtain ⟨u10, y10, e10, t10, s10⟩ := hf 10 _ rfl
  obtain ⟨z10, rfl, _⟩ := cell_int (k := .i64) (by kernel_rfl) t10
  obtain rfl : c10 = .int .i64 z10 := by simpa using e10
  obtain ⟨u11, y11, e11, t11, s11⟩ := hf 11 _ rfl
  obtain ⟨z11, rfl, _⟩ := cell_int (k := .i64) (by kernel_rfl) t11
  obtain rfl : c11 = .int .i64 z11 := by simpa using e11
  obtain ⟨u3, y3, e3, t3, s3⟩ := hf 3 _ rfl
  obtain ⟨A3, len3, d3, rfl⟩ := slice_of_cell Try.underlying22 t3
  obtain ⟨l3, rfl, hR3, hC3, hN3, hM3⟩ := cell_rows Try.underlying22 Try.underlying26 Try.underlying5 Try.cells1 Try.bytes1 (by kernel_rfl) (by kernel_rfl) t3 s3
  obtain rfl : c3 = .slice A3 l3.length d3 := by simpa using e3
  obtain ⟨u4, y4, e4, t4, s4⟩ := hf 4 _ rfl
  obtain ⟨A4, len4, d4, rfl⟩ := slice_of_cell Try.underlying22 t4
  obtain ⟨l4, rfl, hR4, hC4, hN4, hM4⟩ := cell_rows Try.underlying22 Try.underlying26 Try.underlying5 Try.cells1 Try.bytes1 (by kernel_rfl) (by kernel_rfl) t4 s4
  obtain rfl : c4 = .slice A4 l4.length d4 := by simpa using e4
  exact ⟨⟨⟨z0, z1, z2, l3, l4, z5, z6, z7, z8, z9, z10, z11⟩, A3, d3, A4, d4⟩, rfl, hR3, hR4, ⟨hN3, fun l hl => Nat.le_trans (hM3 l hl) (by decide)⟩, ⟨hN4, fun l hl => Nat.le_trans (hM4 l hl) (by decide)⟩⟩
end Go.Proofs.Ytppmdamcdhmcpaa
