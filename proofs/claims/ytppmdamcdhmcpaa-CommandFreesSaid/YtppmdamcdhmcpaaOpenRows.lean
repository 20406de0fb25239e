/-
  An argument that holds a list of lists of bytes.
-/
import Derived.Test.YtppmdamcdhmcpaaOpen
import Derived.Test.YtppmdamcdhmcpaaRows2
import Derived.Deep.Slices
namespace Go.Proofs.Ytppmdamcdhmcpaa
set_option linter.unusedSimpArgs false
set_option linter.unusedVariables false
open Go.ChangeShapes Go.WideShapes Go.ChangeAt Go.RowKit Go.Joins Go.Deep
section
variable {H : Type} {enc : TypeId × Value → H} {P : Program} {w : World} {base : Nat} {spare : Nat → Bool} {held : Bool}
theorem slice_of_cell {t e : TypeId} (ht : P.underlying t = some (.slice e)) {u : Value} {fuel : Nat} {x : DataW H × List MemPlace}
    (h : DataW.trod enc P w base spare held fuel t [u] = some x) : ∃ A len cap, u = .slice A len cap := by
  rcases open_slice ht h with ⟨hcs, _⟩ | ⟨a, len', cap', m, n, D, Pl, hcs, _⟩
  · simp only [List.cons.injEq, and_true] at hcs
    exact ⟨_, _, _, hcs⟩
  · simp only [List.cons.injEq, and_true] at hcs
    exact ⟨_, _, _, hcs⟩
/-- A cell that holds a list of lists of bytes. -/
theorem cell_rows {t e b : TypeId} (ht : P.underlying t = some (.slice e)) (he : P.underlying e = some (.slice b)) (hb : P.underlying b = some (.int .u8)) (hc : P.cellsOf b = 1) (hb1 : P.bytesOf b = 1) (hce : P.cellsOf e = 1) (hbe : P.bytesOf e = 24) {A : Option Addr} {len cap fuel : Nat} {x : DataW H × List MemPlace}
    (h : DataW.trod enc P w base spare held fuel t [.slice A len cap] = some x) (hs : Sized P t x.1) :
    ∃ ls : List (List UInt8), len = ls.length ∧ RdRows w A ls ∧ ls.length ≤ cap ∧ ls.length ≤ 5864062014634 ∧ ∀ l ∈ ls, l.length ≤ 140737488351232 := by
  rcases open_slice1 ht hce h with ⟨hcs, hx⟩ | ⟨a, len', cap', m, n, V, D, Pl, hcs, _, hl, hm, hmm, hx, hel⟩
  · simp only [List.cons.injEq, Value.slice.injEq, and_true] at hcs
    obtain ⟨rfl, rfl, rfl⟩ := hcs
    exact ⟨[], rfl, RdRows.nil _ _, Nat.le_refl _, by simp, fun l hl => by cases hl⟩
  · simp only [List.cons.injEq, Value.slice.injEq, and_true] at hcs
    obtain ⟨rfl, rfl, rfl⟩ := hcs
    have hlm : len ≤ m := by rw [hmm]; split <;> omega
    rw [hx] at hs
    have hsz := hs.slice ht
    rw [hbe] at hsz
    simp only [List.length_map, List.length_range, reachBytes] at hsz
    have each : ∀ i, i < len → ∃ r : (List UInt8) × Option Addr × Nat, V i = .slice r.2.1 r.1.length r.2.2 ∧ Rd w r.2.1 (bvs r.1) ∧ r.1.length ≤ r.2.2 ∧ r.1.length ≤ 140737488351232 := by
      intro i hi
      obtain ⟨h1, h2⟩ := hel i (by omega)
      have hsi : Sized P e (D i) := hs.elem ht (List.mem_map.2 ⟨i, List.mem_range.2 hi, rfl⟩)
      obtain ⟨B, l, c, e1, e2, e3, e4⟩ := cell_slice he hb hc hb1 h2 hsi
      exact ⟨⟨l, B, c⟩, e1, e2, e3, e4⟩
    obtain ⟨f, hf⟩ := choose_lt each
    refine ⟨(List.range len).map fun i => (f i).1, by simp, ⟨(List.range len).map V, ?_, by simp, ?_⟩, by simpa using hl, by simp; omega, ?_⟩
    · intro i u hu
      rw [List.getElem?_map] at hu
      obtain ⟨k, hk, rfl⟩ := Option.map_eq_some_iff.1 hu
      obtain ⟨h1, rfl⟩ := List.getElem?_eq_some_iff.1 hk
      simp only [List.length_range] at h1
      simp only [List.getElem_range]
      obtain ⟨hcell, _⟩ := hel i (by omega)
      obtain ⟨b0, off, spot⟩ := a
      have hspot : spot = none := by
        obtain ⟨h0, _⟩ := hel 0 (by omega)
        simpa [Addr.add] using World.cell?_spot h0
      subst hspot
      refine ⟨b0, off, rfl, ?_⟩
      rw [Addr.add_lit] at hcell
      exact hcell
    · intro i l hl
      rw [List.getElem?_map] at hl
      obtain ⟨k, hk, rfl⟩ := Option.map_eq_some_iff.1 hl
      obtain ⟨h1, rfl⟩ := List.getElem?_eq_some_iff.1 hk
      simp only [List.length_range] at h1
      simp only [List.getElem_range]
      obtain ⟨h2, h3, h4, _⟩ := hf i h1
      refine ⟨(f i).2.1, (f i).2.2, ?_, h3, h4⟩
      rw [List.getElem?_map, List.getElem?_range h1]
      simp [h2]
    · intro l hl
      simp only [List.mem_map, List.mem_range] at hl
      obtain ⟨i, hi, rfl⟩ := hl
      exact (hf i hi).2.2.2
end
end Go.Proofs.Ytppmdamcdhmcpaa
