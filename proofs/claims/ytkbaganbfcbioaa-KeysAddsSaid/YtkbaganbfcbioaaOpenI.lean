/-
  An argument that is a list of ints.
-/
import Derived.Test.YtkbaganbfcbioaaOpen
namespace Go.Proofs.Ytkbaganbfcbioaa
set_option linter.unusedSimpArgs false
set_option linter.unusedVariables false
open Go.ChangeShapes Go.WideShapes Go.ChangeAt Go.RowKit Go.Joins Go.Deep
section
variable {H : Type} {enc : TypeId × Value → H} {P : Program} {w : World} {base : Nat} {spare : Nat → Bool} {held : Bool}
/-- A cell that holds a list of ints. -/
theorem cell_ints {t e : TypeId} (ht : P.underlying t = some (.slice e)) (he : P.underlying e = some (.int .i64)) (hc : P.cellsOf e = 1) (hb : P.bytesOf e = 8) {A : Option Addr} {len cap fuel : Nat} {x : DataW H × List MemPlace}
    (h : DataW.trod enc P w base spare held fuel t [.slice A len cap] = some x) (hs : Sized P t x.1) :
    ∃ l : List Int, len = l.length ∧ Rd w A (ivs l) ∧ l.length ≤ cap ∧ l.length ≤ 17592186044400 ∧ ∀ n ∈ l, (Lit.int .i64 n).wf = true := by
  rcases open_ints ht he hc h with ⟨hcs, hx⟩ | ⟨a, len', cap', zs, hcs, _, hl, hm, hz, hx, hcell, hwz⟩
  · simp only [List.cons.injEq, Value.slice.injEq, and_true] at hcs
    obtain ⟨rfl, rfl, rfl⟩ := hcs
    exact ⟨[], rfl, Rd.nil _ _, Nat.le_refl _, by simp, fun n hn => by cases hn⟩
  · simp only [List.cons.injEq, Value.slice.injEq, and_true] at hcs
    obtain ⟨rfl, rfl, rfl⟩ := hcs
    have hll : len ≤ zs.length := by
      rw [hz]
      split <;> omega
    subst hx
    have hsz := hs.slice ht
    rw [hb] at hsz
    simp only [lits, List.length_map, List.length_take, List.length_drop, reachBytes] at hsz
    refine ⟨zs.take len, by simp; omega, ?_, by simp; omega, by simp; omega, fun n hn => hwz n (List.mem_of_mem_take hn)⟩
    intro i u hu
    have hi : i < (zs.take len).length := by
      rcases Nat.lt_or_ge i (zs.take len).length with h | h
      · exact h
      · rw [List.getElem?_eq_none (by simpa [ivs] using h)] at hu; cases hu
    rw [ivs_get hi] at hu
    have hi2 : i < zs.length := by simp at hi; omega
    have hc := hcell i (by omega)
    obtain ⟨b, off, spot⟩ := a
    have hspot : spot = none := by
      have := World.cell?_spot hc
      unfold Addr.add at this
      split at this
      · exact this
      · have h0 := hcell 0 (by omega)
        simpa [Addr.add] using World.cell?_spot h0
    subst hspot
    refine ⟨b, off, rfl, ?_⟩
    rw [Addr.add_lit] at hc
    rw [hc, ← hu]
    simp [List.getD, hi2]
theorem open_ints_arg {r : Reach} {b0 : Nat} {t e : TypeId} (ht : P.underlying t = some (.slice e)) (he : P.underlying e = some (.int .i64)) (hc : P.cellsOf e = 1) (hb : P.bytesOf e = 8) {v : Value} {d : DataW H} {p : List MemPlace}
    (hv : Value.okWide P w r b0 t v) (h : DataW.Trod enc P w base spare held t v d p) (hs : Sized P t d) :
    ∃ (A : Option Addr) (l : List Int) (c : Nat), v = .slice A l.length c ∧ Rd w A (ivs l) ∧ l.length ≤ c ∧ l.length ≤ 17592186044400 ∧ ∀ n ∈ l, (Lit.int .i64 n).wf = true := by
  obtain ⟨A, len, cap, rfl⟩ := okWide_slice ht hv
  obtain ⟨fuel, hf⟩ := h
  obtain ⟨l, rfl, hr, hc2, hn, hw⟩ := cell_ints ht he hc hb (by simpa [Value.cells] using hf) hs
  exact ⟨A, l, cap, rfl, hr, hc2, hn, hw⟩
end
theorem Try.bytes3 : Try.prog.bytesOf 3 = 8 := by kernel_rfl
theorem Try.cells3 : Try.prog.cellsOf 3 = 1 := by kernel_rfl
end Go.Proofs.Ytkbaganbfcbioaa
