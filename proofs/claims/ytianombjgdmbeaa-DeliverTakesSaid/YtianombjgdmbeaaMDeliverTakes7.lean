/-
  How the arguments of a law are read: from the form's own reading to the words of Base. Rows of structs: the cells of a list of them. Plainly.
-/
import Derived.Test.YtianombjgdmbeaaRows
import Derived.Test.YtianombjgdmbeaaMDeliverTakes1
import Derived.ProofKit
import Derived.OpenShut
import Derived.ShutString
import Derived.ChangeOld
import Derived.Below
import Derived.SizedLaws
import Derived.Lib.SmallJoins
import Derived.Deep.Fields
namespace Go.Proofs.Ytianombjgdmbeaa
set_option linter.unusedSimpArgs false
set_option linter.unusedVariables false
open Go.ChangeShapes Go.WideShapes Go.ChangeAt Go.RowKit Go.Joins Go.Deep

theorem own : ownKnob Try.prog.godebug = none := by kernel_rfl
theorem laidOut : laidOutB Try.prog = true := by kernel_rfl

/-- Each slice of a datum is within the form's reach. -/
def Sized {H : Type} (P : Program) (t : TypeId) (d : DataW H) : Prop := ∀ n ∈ d.weights P t, n ≤ reachBytes
theorem sized_at {H : Type} {P : Program} {ts : List TypeId} {ds : List (DataW H)} (h : (DataW.weightsEach P ts ds).all (· ≤ reachBytes) = true) {j : Nat} {t : TypeId} {d : DataW H} (ht : ts[j]? = some t) (hd : ds[j]? = some d) : Sized P t d := by
  intro n hn
  have := List.all_eq_true.1 h _ (DataW.weights_mem_each ht hd n hn)
  simpa using this
theorem Sized.slice {H : Type} {P : Program} {t e : TypeId} {elems spare : List (DataW H)} (h : Sized P t (.slice elems spare)) (hu : P.underlying t = some (.slice e)) : (elems.length + spare.length) * P.bytesOf e ≤ reachBytes := h _ (by simp [DataW.weights, hu])
theorem weightsAll_mem {H : Type} {P : Program} {e : TypeId} {d : DataW H} {n : Nat} : ∀ {l : List (DataW H)}, d ∈ l → n ∈ d.weights P e → n ∈ DataW.weightsAll P e l
  | x :: l, hd, hn => by
    simp only [DataW.weightsAll, List.mem_append]
    rcases List.mem_cons.1 hd with rfl | hd
    · exact .inl hn
    · exact .inr (weightsAll_mem hd hn)
theorem Sized.elem {H : Type} {P : Program} {t e : TypeId} {elems spare : List (DataW H)} (h : Sized P t (.slice elems spare)) (hu : P.underlying t = some (.slice e)) {d : DataW H} (hd : d ∈ elems) : Sized P e d :=
  fun n hn => h n (by simp only [DataW.weights, hu]; exact List.mem_cons_of_mem _ (List.mem_append_left _ (weightsAll_mem hd hn)))
theorem Sized.field {H : Type} {P : Program} {t : TypeId} {fs : Array Field} {parts : List (DataW H)} (h : Sized P t (.agg parts)) (hu : P.underlying t = some (.struct fs)) {j : Nat} {f : Field} {d : DataW H} (hf : fs[j]? = some f) (hd : parts[j]? = some d) : Sized P f.type d :=
  fun n hn => h n (by
    simp only [DataW.weights, hu]
    exact DataW.weights_mem_each (by rw [List.getElem?_map, Array.getElem?_toList, hf]; rfl) hd n hn)

section
variable {H : Type} {enc : TypeId × Value → H} {P : Program} {w : World} {base : Nat} {spare : Nat → Bool} {held : Bool}

theorem bytes_of_wf {zs : List Int} (h : ∀ n ∈ zs, (Lit.int .u8 n).wf = true) : ∃ l : List UInt8, zs = l.map fun x => (x.toNat : Int) := by
  induction zs with
  | nil => exact ⟨[], rfl⟩
  | cons z zs ih =>
    obtain ⟨l, hl⟩ := ih (fun n hn => h n (List.mem_cons_of_mem _ hn))
    have hz := bounds_u8 (h z (List.mem_cons_self ..))
    refine ⟨UInt8.ofNat z.toNat :: l, ?_⟩
    rw [List.map_cons, hl]
    congr 1
    rw [UInt8.toNat_ofNat']
    omega

/-- A cell that holds a list of bytes. -/
theorem cell_bytes {t e : TypeId} (ht : P.underlying t = some (.slice e)) (he : P.underlying e = some (.int .u8)) (hc : P.cellsOf e = 1) (hb : P.bytesOf e = 1) {A : Option Addr} {len cap fuel : Nat} {x : DataW H × List MemPlace}
    (h : DataW.trod enc P w base spare held fuel t [.slice A len cap] = some x) (hs : Sized P t x.1) :
    ∃ l : List UInt8, len = l.length ∧ Rd w A (bvs l) ∧ l.length ≤ cap ∧ l.length ≤ 140737488351232 := by
  rcases open_ints ht he hc h with ⟨hcs, hx⟩ | ⟨a, len', cap', zs, hcs, _, hl, hm, hz, hx, hcell, hwz⟩
  · simp only [List.cons.injEq, Value.slice.injEq, and_true] at hcs
    obtain ⟨rfl, rfl, rfl⟩ := hcs
    exact ⟨[], rfl, Rd.nil _ _, Nat.le_refl _, by simp⟩
  · simp only [List.cons.injEq, Value.slice.injEq, and_true] at hcs
    obtain ⟨rfl, rfl, rfl⟩ := hcs
    obtain ⟨L, rfl⟩ := bytes_of_wf hwz
    have hll : len ≤ L.length := by
      simp only [List.length_map] at hz
      rw [hz]
      split <;> omega
    subst hx
    have hsz := hs.slice ht
    rw [hb] at hsz
    simp only [lits, List.length_map, List.length_take, List.length_drop, reachBytes] at hsz
    refine ⟨L.take len, by simp; omega, ?_, by simp; omega, by simp; omega⟩
    intro i u hu
    have hi : i < (L.take len).length := by
      rcases Nat.lt_or_ge i (L.take len).length with h | h
      · exact h
      · rw [List.getElem?_eq_none (by simpa [bvs] using h)] at hu; cases hu
    rw [bvs_get hi] at hu
    have hi2 : i < L.length := by simp at hi; omega
    have hc := hcell i (by simpa using hi2)
    obtain ⟨b, off, spot⟩ := a
    have hspot : spot = none := by
      have := World.cell?_spot hc
      unfold Addr.add at this
      split at this
      · exact this
      · have h0 := hcell 0 (by simp; omega)
        simpa [Addr.add] using World.cell?_spot h0
    subst hspot
    refine ⟨b, off, rfl, ?_⟩
    rw [Addr.add_lit] at hc
    rw [hc, ← hu]
    simp [List.getD, hi2]

/-- One cell that holds a list of bytes. -/
theorem cell_slice {t e : TypeId} (ht : P.underlying t = some (.slice e)) (he : P.underlying e = some (.int .u8)) (hc : P.cellsOf e = 1) (hb : P.bytesOf e = 1) {u : Value} {fuel : Nat} {x : DataW H × List MemPlace}
    (h : DataW.trod enc P w base spare held fuel t [u] = some x) (hs : Sized P t x.1) :
    ∃ (A : Option Addr) (l : List UInt8) (c : Nat), u = .slice A l.length c ∧ Rd w A (bvs l) ∧ l.length ≤ c ∧ l.length ≤ 140737488351232 := by
  have hu : ∃ A len cap, u = .slice A len cap := by
    rcases open_ints ht he hc h with ⟨hcs, _⟩ | ⟨a, len', cap', zs, hcs, _⟩
    · simp only [List.cons.injEq, and_true] at hcs
      exact ⟨_, _, _, hcs⟩
    · simp only [List.cons.injEq, and_true] at hcs
      exact ⟨_, _, _, hcs⟩
  obtain ⟨A, len, cap, rfl⟩ := hu
  obtain ⟨l, rfl, hr, hc2, hn⟩ := cell_bytes ht he hc hb h hs
  exact ⟨A, l, cap, rfl, hr, hc2, hn⟩

/-- An argument that is a list of bytes. -/
theorem open_bytes {r : Reach} {b0 : Nat} {t e : TypeId} (ht : P.underlying t = some (.slice e)) (he : P.underlying e = some (.int .u8)) (hc : P.cellsOf e = 1) (hb : P.bytesOf e = 1) {v : Value} {d : DataW H} {p : List MemPlace}
    (hv : Value.okWide P w r b0 t v) (h : DataW.Trod enc P w base spare held t v d p) (hs : Sized P t d) :
    ∃ (A : Option Addr) (l : List UInt8) (c : Nat), v = .slice A l.length c ∧ Rd w A (bvs l) ∧ l.length ≤ c ∧ l.length ≤ 140737488351232 := by
  obtain ⟨A, len, cap, rfl⟩ := okWide_slice ht hv
  obtain ⟨fuel, hf⟩ := h
  obtain ⟨l, rfl, hr, hc2, hn⟩ := cell_bytes ht he hc hb (by simpa [Value.cells] using hf) hs
  exact ⟨A, l, cap, rfl, hr, hc2, hn⟩

/-- A cell that holds an integer; a bool. -/
theorem cell_int {t : TypeId} {k : IntKind} (ht : P.underlying t = some (.int k)) {u : Value} {fuel : Nat} {x : DataW H × List MemPlace} (h : DataW.trod enc P w base spare held fuel t [u] = some x) : ∃ z, u = .int k z ∧ (Lit.int k z).wf = true := by
  obtain ⟨z, e, _, wf⟩ := DataW.trod_int ht h
  simp only [List.cons.injEq, and_true] at e
  exact ⟨z, e, wf⟩
theorem cell_bool {t : TypeId} (ht : P.underlying t = some .bool) {u : Value} {fuel : Nat} {x : DataW H × List MemPlace} (h : DataW.trod enc P w base spare held fuel t [u] = some x) : ∃ z, u = .bool z := by
  obtain ⟨z, e, _⟩ := DataW.trod_bool ht h
  simp only [List.cons.injEq, and_true] at e
  exact ⟨z, e⟩

/-- A struct by value, whatever the number of its fields, each of one cell. -/
theorem open_agg {r : Reach} {b0 : Nat} {t : TypeId} {fs : Array Field} {v : Value} {d : DataW H} {p : List MemPlace} (hs : P.underlying t = some (.struct fs)) (hone : oneCellFields P fs = true) (hC : P.cellsOf t = fs.size)
    (hv : Value.okWide P w r b0 t v) (h : DataW.Trod enc P w base spare held t v d p) (hz : Sized P t d) :
    ∃ cs : List Value, v = .agg cs.toArray ∧ cs.length = fs.size ∧ ∃ n, ∀ (j : Nat) (f : Field), fs[j]? = some f → ∃ u y, cs[j]? = some u ∧ DataW.trod enc P w base spare held n f.type [u] = some y ∧ Sized P f.type y.1 := by
  obtain ⟨cs, rfl, hsz⟩ := okWide_struct hs hv
  obtain ⟨fuel, hf⟩ := h
  obtain ⟨xs, n, _, hx, _, hlen, hg⟩ := DataW.trod_struct hs hf
  simp only [Prod.mk.injEq] at hx
  have hsz2 : cs.size = fs.size := hsz.trans hC
  refine ⟨cs.toList, rfl, by simpa using hsz2, n, fun j f hj => ?_⟩
  obtain ⟨o, k⟩ := hone_of hone j f hj
  have hjl : j < fs.size := (Array.getElem?_eq_some_iff.1 hj).1
  have h1 := hg j f hj
  rw [o, k] at h1
  have hcl : j < cs.toList.length := by simp; omega
  have e : ((Value.cells (.agg cs)).toList.drop j).take 1 = [cs.toList[j]] := by
    show (cs.toList.drop j).take 1 = _
    rw [List.drop_eq_getElem_cons hcl]
    rfl
  rw [e] at h1
  have hxl : j < xs.length := by omega
  have hxs : xs[j]? = some xs[j] := List.getElem?_eq_getElem hxl
  refine ⟨cs.toList[j], xs[j], List.getElem?_eq_getElem hcl, h1.trans hxs, ?_⟩
  rw [hx.1] at hz
  exact hz.field hs hj (by rw [List.getElem?_map, hxs]; rfl)
end
theorem byte_nat {z : Int} (h : (Lit.int .u8 z).wf = true) : ∃ a : Nat, z = (a : Int) ∧ a < 256 := by
  have := bounds_u8 h
  exact ⟨z.toNat, by omega, by omega⟩
theorem Try.bytes1 : Try.prog.bytesOf 5 = 1 := by kernel_rfl
theorem Try.cells1 : Try.prog.cellsOf 5 = 1 := by kernel_rfl
end Go.Proofs.Ytianombjgdmbeaa
namespace Go.Proofs.Ytianombjgdmbeaa
set_option linter.unusedSimpArgs false
set_option linter.unusedVariables false
section
variable {α : Type} {f : α → List Value} {s : Nat}
theorem fm_len (hf : ∀ x, (f x).length = s) : ∀ l : List α, (l.flatMap f).length = l.length * s
  | [] => by simp
  | x :: l => by rw [List.flatMap_cons, List.length_append, hf, fm_len hf l, List.length_cons, Nat.succ_mul]; omega
theorem fm_get (hf : ∀ x, (f x).length = s) : ∀ (l : List α) (i : Nat) (x : α) (j : Nat), l[i]? = some x → j < s → (l.flatMap f)[i * s + j]? = (f x)[j]?
  | [], i, x, j, h, _ => by simp at h
  | y :: l, 0, x, j, h, hj => by
    simp at h
    subst h
    rw [List.flatMap_cons, Nat.zero_mul, Nat.zero_add, List.getElem?_append_left (by rw [hf]; exact hj)]
  | y :: l, i + 1, x, j, h, hj => by
    rw [List.flatMap_cons, List.getElem?_append_right (by rw [hf, Nat.succ_mul]; omega), hf, show (i + 1) * s + j - s = i * s + j by rw [Nat.succ_mul]; omega]
    exact fm_get hf l i x j (by simpa using h) hj
theorem fm_set (hf : ∀ x, (f x).length = s) : ∀ (l : List α) (i : Nat) (x y : α) (j : Nat) (v : Value), l[i]? = some x → j < s → f y = (f x).set j v → (l.flatMap f).set (i * s + j) v = (l.set i y).flatMap f
  | [], i, x, y, j, v, h, _, _ => by simp at h
  | z :: l, 0, x, y, j, v, h, hj, hy => by
    simp at h
    subst h
    rw [List.flatMap_cons, Nat.zero_mul, Nat.zero_add, List.set_append_left _ _ (by rw [hf]; exact hj), List.set_cons_zero, List.flatMap_cons, hy]
  | z :: l, i + 1, x, y, j, v, h, hj, hy => by
    rw [List.flatMap_cons, List.set_append_right _ _ (by rw [hf, Nat.succ_mul]; omega), hf, show (i + 1) * s + j - s = i * s + j by rw [Nat.succ_mul]; omega, List.set_cons_succ, List.flatMap_cons,
      fm_set hf l i x y j v (by simpa using h) hj hy]
theorem fm_snoc (l : List α) (x : α) : (l ++ [x]).flatMap f = l.flatMap f ++ f x := by simp
end
end Go.Proofs.Ytianombjgdmbeaa
