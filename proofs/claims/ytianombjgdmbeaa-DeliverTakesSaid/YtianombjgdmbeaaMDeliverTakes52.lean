/-
  Cells that hold a string, a slice of whatever. An argument that is a note.
-/
import Derived.Test.YtianombjgdmbeaaMDeliverTakes7
import Derived.Deep.Slices
import Derived.Test.YtianombjgdmbeaaMDeliverTakes8
import Derived.OpenShut
namespace Go.Proofs.Ytianombjgdmbeaa
set_option linter.unusedSimpArgs false
set_option linter.unusedVariables false
open Go.ChangeShapes Go.WideShapes Go.ChangeAt Go.RowKit Go.Joins Go.Deep
theorem cell_str {H : Type} {enc : TypeId × Value → H} {P : Program} {w : World} {base : Nat} {spare : Nat → Bool} {held : Bool} {t : TypeId} (ht : P.underlying t = some .string) {u : Value} {fuel : Nat} {x : DataW H × List MemPlace} (h : DataW.trod enc P w base spare held fuel t [u] = some x) : ∃ s, u = .string s := by
  obtain ⟨s, e, _⟩ := DataW.trod_string ht h
  simp only [List.cons.injEq, and_true] at e
  exact ⟨s, e⟩
theorem slice_at {H : Type} {enc : TypeId × Value → H} {P : Program} {w : World} {base : Nat} {spare : Nat → Bool} {held : Bool} {t e : TypeId} (ht : P.underlying t = some (.slice e)) {u : Value} {fuel : Nat} {x : DataW H × List MemPlace}
    (h : DataW.trod enc P w base spare held fuel t [u] = some x) : ∃ A len cap, u = .slice A len cap := by
  rcases open_slice ht h with ⟨hcs, _⟩ | ⟨a, len', cap', m, n, D, Pl, hcs, _⟩
  · simp only [List.cons.injEq, and_true] at hcs
    exact ⟨_, _, _, hcs⟩
  · simp only [List.cons.injEq, and_true] at hcs
    exact ⟨_, _, _, hcs⟩
end Go.Proofs.Ytianombjgdmbeaa
namespace Go.Proofs.Ytianombjgdmbeaa
set_option linter.unusedSimpArgs false
set_option linter.unusedVariables false
open Go.ChangeShapes Go.WideShapes Go.ChangeAt Go.RowKit Go.Joins Go.Deep

/-- A cell that holds a list of pairs of ints. -/
theorem cell_pairs {H : Type} {enc : TypeId × Value → H} {P : Program} {w : World} {base : Nat} {spare : Nat → Bool} {held : Bool} {t e i : TypeId} (ht : P.underlying t = some (.slice e)) (he : P.underlying e = some (.array 2 i)) (hi : P.underlying i = some (.int .i64)) (hci : P.cellsOf i = 1) (hce : P.cellsOf e = 2) (hbe : P.bytesOf e = 16) {A : Option Addr} {len cap fuel : Nat} {x : DataW H × List MemPlace}
    (h : DataW.trod enc P w base spare held fuel t [.slice A len cap] = some x) (hs : Sized P t x.1) :
    ∃ l : List (Int × Int), len = l.length ∧ Rd w A (gps l) ∧ l.length ≤ cap ∧ l.length ≤ 8796093022200 := by
  rcases open_slice ht h with ⟨hcs, hx⟩ | ⟨a, len', cap', m, n, D, Pl, hcs, _, hl, hm, hmm, hx, hel⟩
  · simp only [List.cons.injEq, Value.slice.injEq, and_true] at hcs
    obtain ⟨rfl, rfl, rfl⟩ := hcs
    exact ⟨[], rfl, Rd.nil _ _, Nat.le_refl _, by simp⟩
  · simp only [List.cons.injEq, Value.slice.injEq, and_true] at hcs
    obtain ⟨rfl, rfl, rfl⟩ := hcs
    have hlm : len ≤ m := by rw [hmm]; split <;> omega
    rw [hx] at hs
    have hsz := hs.slice ht
    rw [hbe] at hsz
    simp only [List.length_map, List.length_range, reachBytes] at hsz
    have each : ∀ i, i < len → ∃ r : Int × Int, w.cell? ((a.add (i * 2)).add 0) = some (.int .i64 r.1) ∧ w.cell? ((a.add (i * 2)).add 1) = some (.int .i64 r.2) := by
      intro i hi2
      obtain ⟨cs', h1, h2⟩ := hel i (by omega)
      rw [hce] at h1
      obtain ⟨_, hlen, hcell⟩ := World.cells?_some h1
      obtain ⟨xs, k, _, _, _, hxl, hf⟩ := DataW.trod_array he h2
      rw [hci] at hf
      have c0 := hf 0 (by omega)
      have c1 := hf 1 (by omega)
      match cs', hlen with
      | [u0, u1], _ =>
        have x0 : xs[0]? = some xs[0] := List.getElem?_eq_getElem (by omega)
        have x1 : xs[1]? = some xs[1] := List.getElem?_eq_getElem (by omega)
        simp only [Nat.zero_mul, Nat.one_mul, List.drop_zero, List.drop_succ_cons, List.take_succ_cons, List.take_zero] at c0 c1
        rw [x0] at c0
        rw [x1] at c1
        obtain ⟨z0, e0, _⟩ := cell_int (k := .i64) hi c0
        obtain ⟨z1, e1, _⟩ := cell_int (k := .i64) hi c1
        subst e0
        subst e1
        have q0 := hcell 0 (by omega)
        have q1 := hcell 1 (by omega)
        exact ⟨(z0, z1), q0, q1⟩
    obtain ⟨f, hf⟩ := choose_lt each
    refine ⟨(List.range len).map f, by simp, ?_, by simpa using hl, by simp; omega⟩
    intro j u hu
    have hjl : j < (gps ((List.range len).map f)).length := (List.getElem?_eq_some_iff.1 hu).1
    rw [gps_len] at hjl
    simp only [List.length_map, List.length_range] at hjl
    have hq : j / 2 < len := by omega
    obtain ⟨b, off, spot⟩ := a
    have hspot : spot = none := by
      have hcc := (hf 0 (by omega)).1
      simpa [Addr.add] using World.cell?_spot hcc
    subst hspot
    refine ⟨b, off, rfl, ?_⟩
    have hg := gps_get (l := (List.range len).map f) (i := j / 2) (x := f (j / 2)) (by rw [List.getElem?_map, List.getElem?_range hq]; rfl) (j := j % 2) (by omega)
    rw [show j / 2 * 2 + j % 2 = j by omega] at hg
    rw [hg] at hu
    obtain ⟨h0, h1⟩ := hf (j / 2) hq
    simp only [Addr.add_lit] at h0 h1
    rcases Nat.mod_two_eq_zero_or_one j with hm2 | hm2
    · rw [hm2] at hu
      have : u = .int .i64 (f (j / 2)).1 := (Option.some.inj hu).symm
      rw [this, ← h0]
      congr 2
      omega
    · rw [hm2] at hu
      have : u = .int .i64 (f (j / 2)).2 := (Option.some.inj hu).symm
      rw [this, ← h1]
      congr 2
      omega
/-- A note that came in: it, and where its data and gaps lie. -/
structure NtA where
  n : Nt
  D : Option Addr
  dc : Nat
  G : Option Addr
  gc : Nat
def ntav (x : NtA) : Value := ntv x.n x.D x.n.data.length x.dc x.G x.n.gaps.length x.gc
structure NoteArg (w : World) (x : NtA) : Prop where
  data : Rd w x.D (bvs x.n.data)
  gaps : Rd w x.G (gps x.n.gaps)
  dle : x.n.data.length ≤ 140737488351232
  gle : x.n.gaps.length ≤ 8796093022200
theorem list10N {α : Type} {l : List α} (h : l.length = 10) : ∃ c0 c1 c2 c3 c4 c5 c6 c7 c8 c9, l = [c0, c1, c2, c3, c4, c5, c6, c7, c8, c9] := by
  match l, h with
  | [c0, c1, c2, c3, c4, c5, c6, c7, c8, c9], _ => exact ⟨_, _, _, _, _, _, _, _, _, _, rfl⟩
theorem cells66 : Try.prog.cellsOf 66 = 2 := by kernel_rfl
theorem bytes66 : Try.prog.bytesOf 66 = 16 := by kernel_rfl
set_option maxRecDepth 100000 in
theorem open_note {H : Type} {enc : TypeId × Value → H} {w : World} {base : Nat} {spare : Nat → Bool} {held : Bool} {r : Reach} {b0 : Nat} {v : Value} {d : DataW H} {p : List MemPlace}
    (hw : Value.okWide Try.prog w r b0 27 v) (h : DataW.Trod enc Try.prog w base spare held 27 v d p) (hz : Sized Try.prog 27 d) :
    ∃ x : NtA, v = ntav x ∧ NoteArg w x := by
  obtain ⟨cs, rfl, hl, n, hf⟩ := open_agg Try.underlying27 (by kernel_rfl) (by kernel_rfl) hw h hz
  obtain ⟨c0, c1, c2, c3, c4, c5, c6, c7, c8, c9, rfl⟩ := list10N (hl.trans rfl)
  obtain ⟨u0, y0, e0, t0, s0⟩ := hf 0 _ rfl
  obtain ⟨z0, rfl, _⟩ := cell_int (k := .i64) (by kernel_rfl) t0
  obtain rfl : c0 = .int .i64 z0 := by simpa using e0
  obtain ⟨u1, y1, e1, t1, s1⟩ := hf 1 _ rfl
  obtain ⟨z1, rfl, _⟩ := cell_int (k := .i64) (by kernel_rfl) t1
  obtain rfl : c1 = .int .i64 z1 := by simpa using e1
  obtain ⟨u3, y3, e3, t3, s3⟩ := hf 3 _ rfl
  obtain ⟨z3, rfl, _⟩ := cell_int (k := .i64) (by kernel_rfl) t3
  obtain rfl : c3 = .int .i64 z3 := by simpa using e3
  obtain ⟨u4, y4, e4, t4, s4⟩ := hf 4 _ rfl
  obtain ⟨z4, rfl, _⟩ := cell_int (k := .i64) (by kernel_rfl) t4
  obtain rfl : c4 = .int .i64 z4 := by simpa using e4
  obtain ⟨u5, y5, e5, t5, s5⟩ := hf 5 _ rfl
  obtain ⟨z5, rfl, _⟩ := cell_int (k := .i64) (by kernel_rfl) t5
  obtain rfl : c5 = .int .i64 z5 := by simpa using e5
  obtain ⟨u8, y8, e8, t8, s8⟩ := hf 8 _ rfl
  obtain ⟨z8, rfl, _⟩ := cell_int (k := .i64) (by kernel_rfl) t8
  obtain rfl : c8 = .int .i64 z8 := by simpa using e8
  obtain ⟨u9, y9, e9, t9, s9⟩ := hf 9 _ rfl
  obtain ⟨z9, rfl, _⟩ := cell_int (k := .i64) (by kernel_rfl) t9
  obtain rfl : c9 = .int .i64 z9 := by simpa using e9
  obtain ⟨u2, y2, e2, t2, s2⟩ := hf 2 _ rfl
  obtain ⟨z2, rfl⟩ := cell_str (by kernel_rfl) t2
  obtain rfl : c2 = .string z2 := by simpa using e2
  obtain ⟨u6, y6, e6, t6, s6⟩ := hf 6 _ rfl
  obtain ⟨A6, l6, d6, rfl, hR6, hC6, hN6⟩ := cell_slice Try.underlying23 Try.underlying5 Try.cells1 Try.bytes1 t6 s6
  obtain rfl : c6 = .slice A6 l6.length d6 := by simpa using e6
  obtain ⟨u7, y7, e7, t7, s7⟩ := hf 7 _ rfl
  obtain ⟨A7, len7, cap7, rfl⟩ := slice_at Try.underlying24 t7
  obtain rfl : c7 = .slice A7 len7 cap7 := by simpa using e7
  obtain ⟨l7, rfl, hR7, hC7, hN7⟩ := cell_pairs Try.underlying24 Try.underlying66 Try.underlying3 (by kernel_rfl) cells66 bytes66 t7 s7
  exact ⟨⟨⟨z0, z1, z2, z3, z4, z5, l6, l7, z8, z9⟩, A6, d6, A7, cap7⟩, rfl, hR6, hR7, hN6, hN7⟩
end Go.Proofs.Ytianombjgdmbeaa
