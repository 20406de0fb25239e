/-
  What the bound on the bulk of what is read gives: a list's length.
-/
import Derived.Test.YtclcgfngolfmlaaOpen
import Derived.JoinedCond
namespace Go.Proofs.Ytclcgfngolfmlaa
set_option linter.unusedSimpArgs false
set_option linter.unusedVariables false
open Go.ChangeShapes Go.WideShapes Go.ChangeAt Go.RowKit Go.Joins Go.Deep

theorem bulk_one {H : Type} (d : DataW H) : 1 ≤ Rows.uptoBulk d := by
  cases d with
  | lit l => cases l <;> simp [Rows.uptoBulk]
  | nil => simp [Rows.uptoBulk]
  | ptr d => simp [Rows.uptoBulk]
  | slice elems spare => simp [Rows.uptoBulk]
  | agg parts => simp [Rows.uptoBulk]
  | iface t d => simp [Rows.uptoBulk]
  | map entries => simp [Rows.uptoBulk]
  | held h => simp [Rows.uptoBulk]
theorem bulk_part {H : Type} {d : DataW H} {l : List (DataW H)} (h : d ∈ l) : Rows.uptoBulk d ≤ Rows.uptoBulkAll l := by
  induction l with
  | nil => cases h
  | cons x r ih =>
    simp only [Rows.uptoBulkAll]
    cases List.mem_cons.1 h with
    | inl e => subst e; omega
    | inr e => have := ih e; omega
theorem bulk_length {H : Type} (l : List (DataW H)) : l.length ≤ Rows.uptoBulkAll l := by
  induction l with
  | nil => simp [Rows.uptoBulkAll]
  | cons x r ih => have := bulk_one x; simp only [Rows.uptoBulkAll, List.length_cons]; omega
theorem bulk_slice {H : Type} (elems spare : List (DataW H)) : elems.length + spare.length + 1 ≤ Rows.uptoBulk (.slice elems spare) := by
  have h1 := bulk_length elems
  have h2 := bulk_length spare
  simp only [Rows.uptoBulk]
  omega
theorem bulk_at {H : Type} {l : List (DataW H)} {j : Nat} {d : DataW H} (hk : Rows.uptoSmall H l = true) (hd : l[j]? = some d) : Rows.uptoBulk d ≤ 1048576 := by
  have h : Rows.uptoBulkAll l ≤ 1048576 := of_decide_eq_true hk
  exact Nat.le_trans (bulk_part (List.mem_of_getElem? hd)) h

section
variable {H : Type} {enc : TypeId × Value → H} {P : Program} {w : World} {base : Nat} {spare : Nat → Bool} {held : Bool}
theorem cell_bytesU {t e : TypeId} (ht : P.underlying t = some (.slice e)) (he : P.underlying e = some (.int .u8)) (hc : P.cellsOf e = 1) {A : Option Addr} {len cap fuel : Nat} {x : DataW H × List MemPlace}
    (h : DataW.trod enc P w base spare held fuel t [.slice A len cap] = some x) (hs : Rows.uptoBulk x.1 ≤ 1048576) :
    ∃ l : List UInt8, len = l.length ∧ Rd w A (bvs l) ∧ l.length ≤ cap ∧ l.length ≤ 1048576 := by
  rcases open_ints ht he hc h with ⟨hcs, hx⟩ | ⟨a, len', cap', zs, hcs, _, hl, hm, hz, hx, hcell, hwz⟩
  · simp only [List.cons.injEq, Value.slice.injEq, and_true] at hcs
    obtain ⟨rfl, rfl, rfl⟩ := hcs
    exact ⟨[], rfl, Rd.nil _ _, Nat.le_refl _, by simp⟩
  · simp only [List.cons.injEq, Value.slice.injEq, and_true] at hcs
    obtain ⟨rfl, rfl, rfl⟩ := hcs
    obtain ⟨L, rfl⟩ := bytes_of_wf hwz
    have hll : len ≤ L.length := by
      simp only [List.length_map] at hz
      rw [hz]
      split <;> omega
    subst hx
    have hsz := Nat.le_trans (bulk_slice _ _) hs
    simp only [lits, List.length_map, List.length_take, List.length_drop] at hsz
    refine ⟨L.take len, by simp; omega, ?_, by simp; omega, by simp; omega⟩
    intro i u hu
    have hi : i < (L.take len).length := by
      rcases Nat.lt_or_ge i (L.take len).length with h | h
      · exact h
      · rw [List.getElem?_eq_none (by simpa [bvs] using h)] at hu; cases hu
    rw [bvs_get hi] at hu
    have hi2 : i < L.length := by simp at hi; omega
    have hc := hcell i (by simpa using hi2)
    obtain ⟨b, off, spot⟩ := a
    have hspot : spot = none := by
      have := World.cell?_spot hc
      unfold Addr.add at this
      split at this
      · exact this
      · have h0 := hcell 0 (by simp; omega)
        simpa [Addr.add] using World.cell?_spot h0
    subst hspot
    refine ⟨b, off, rfl, ?_⟩
    rw [Addr.add_lit] at hc
    rw [hc, ← hu]
    simp [List.getD, hi2]
/-- One cell that holds a list of bytes. -/
theorem cell_sliceU {t e : TypeId} (ht : P.underlying t = some (.slice e)) (he : P.underlying e = some (.int .u8)) (hc : P.cellsOf e = 1) {u : Value} {fuel : Nat} {x : DataW H × List MemPlace}
    (h : DataW.trod enc P w base spare held fuel t [u] = some x) (hs : Rows.uptoBulk x.1 ≤ 1048576) :
    ∃ (A : Option Addr) (l : List UInt8) (c : Nat), u = .slice A l.length c ∧ Rd w A (bvs l) ∧ l.length ≤ c ∧ l.length ≤ 1048576 := by
  have hu : ∃ A len cap, u = .slice A len cap := by
    rcases open_ints ht he hc h with ⟨hcs, _⟩ | ⟨a, len', cap', zs, hcs, _⟩
    · simp only [List.cons.injEq, and_true] at hcs
      exact ⟨_, _, _, hcs⟩
    · simp only [List.cons.injEq, and_true] at hcs
      exact ⟨_, _, _, hcs⟩
  obtain ⟨A, len, cap, rfl⟩ := hu
  obtain ⟨l, rfl, hr, hc2, hn⟩ := cell_bytesU ht he hc h hs
  exact ⟨A, l, cap, rfl, hr, hc2, hn⟩

theorem open_bytesU {r : Reach} {b0 : Nat} {t e : TypeId} (ht : P.underlying t = some (.slice e)) (he : P.underlying e = some (.int .u8)) (hc : P.cellsOf e = 1) {v : Value} {d : DataW H} {p : List MemPlace}
    (hv : Value.okWide P w r b0 t v) (h : DataW.Trod enc P w base spare held t v d p) (hs : Rows.uptoBulk d ≤ 1048576) :
    ∃ (A : Option Addr) (l : List UInt8) (c : Nat), v = .slice A l.length c ∧ Rd w A (bvs l) ∧ l.length ≤ c ∧ l.length ≤ 1048576 := by
  obtain ⟨A, len, cap, rfl⟩ := okWide_slice ht hv
  obtain ⟨fuel, hf⟩ := h
  obtain ⟨l, rfl, hr, hc2, hn⟩ := cell_bytesU ht he hc (by simpa [Value.cells] using hf) hs
  exact ⟨A, l, cap, rfl, hr, hc2, hn⟩
/-- A field of a struct: its bulk is below the struct's. -/
theorem bulk_field {parts : List (DataW H)} {j : Nat} {d : DataW H} (h : Rows.uptoBulk (.agg parts) ≤ 1048576) (hd : parts[j]? = some d) : Rows.uptoBulk d ≤ 1048576 := by
  have := bulk_part (List.mem_of_getElem? hd)
  simp only [Rows.uptoBulk] at h
  omega
theorem open_aggU {r : Reach} {b0 : Nat} {t : TypeId} {fs : Array Field} {v : Value} {d : DataW H} {p : List MemPlace} (hs : P.underlying t = some (.struct fs)) (hone : oneCellFields P fs = true) (hC : P.cellsOf t = fs.size)
    (hv : Value.okWide P w r b0 t v) (h : DataW.Trod enc P w base spare held t v d p) (hz : Rows.uptoBulk d ≤ 1048576) :
    ∃ cs : List Value, v = .agg cs.toArray ∧ cs.length = fs.size ∧ ∃ n, ∀ (j : Nat) (f : Field), fs[j]? = some f → ∃ u y, cs[j]? = some u ∧ DataW.trod enc P w base spare held n f.type [u] = some y ∧ Rows.uptoBulk y.1 ≤ 1048576 := by
  obtain ⟨cs, rfl, hsz⟩ := okWide_struct hs hv
  obtain ⟨fuel, hf⟩ := h
  obtain ⟨xs, n, _, hx, _, hlen, hg⟩ := DataW.trod_struct hs hf
  simp only [Prod.mk.injEq] at hx
  have hsz2 : cs.size = fs.size := hsz.trans hC
  refine ⟨cs.toList, rfl, by simpa using hsz2, n, fun j f hj => ?_⟩
  obtain ⟨o, k⟩ := hone_of hone j f hj
  have hjl : j < fs.size := (Array.getElem?_eq_some_iff.1 hj).1
  have h1 := hg j f hj
  rw [o, k] at h1
  have hcl : j < cs.toList.length := by simp; omega
  have e : ((Value.cells (.agg cs)).toList.drop j).take 1 = [cs.toList[j]] := by
    show (cs.toList.drop j).take 1 = _
    rw [List.drop_eq_getElem_cons hcl]
    rfl
  rw [e] at h1
  have hxl : j < xs.length := by omega
  have hxs : xs[j]? = some xs[j] := List.getElem?_eq_getElem hxl
  refine ⟨cs.toList[j], xs[j], List.getElem?_eq_getElem hcl, h1.trans hxs, ?_⟩
  rw [hx.1] at hz
  exact bulk_field hz (by rw [List.getElem?_map, hxs]; rfl)
end
end Go.Proofs.Ytclcgfngolfmlaa
