/-
  Words beside Base's. Rows of structs: the cells of a list of them. Plainly.
-/
import Derived.Test.YtianombjgdmbeaaMDeliverWaits1
namespace Go.Proofs.Ytianombjgdmbeaa
set_option linter.unusedSimpArgs false
set_option linter.unusedVariables false
open Go.RowKit
theorem blk_lit {g o q : Nat} (h : blk (some ⟨g, o, none⟩) = some q) : q = g := by
  simp [blk] at h
  exact h.symm
theorem blk_lit_ne {g o q : Nat} (h : g ≠ q) : blk (some ⟨g, o, none⟩) ≠ some q := by
  simp [blk]
  exact h
/-- A list that is written out, in a block of its own. -/
theorem Rd_lit (W : World) (cs : List Value) (t : TypeId) : Rd (W.alloc (.cells cs.toArray t)) (some ⟨W.heap.size, 0, none⟩) cs :=
  Rd.of_block (heap_alloc_new W _) fun i u h => by simpa using h
theorem bOf_mod (n : Int) : n % 256 = ((bOf n).toNat : Int) := by
  rw [bOf, UInt8.toNat_ofNat']
  omega
theorem bOf_in {n : Int} (h : 0 ≤ n ∧ n ≤ 255) : n = ((bOf n).toNat : Int) := by
  have := bOf_mod n
  omega
theorem bv_mod (n : Int) : Value.int .u8 (n % 256) = bv (bOf n) := by rw [bOf_mod]; rfl
theorem bv_in {n : Int} (h : 0 ≤ n ∧ n ≤ 255) : Value.int .u8 n = bv (bOf n) := by
  unfold bv
  rw [← bOf_in h]
section
variable {P : Program}
/-- make: an equation for every world. -/
theorem run_make_rowN (t e : TypeId) (i : TypeInfo) (z : Value) (ht : P.underlying t = some (.slice e)) (hi : P.info? e = some i) (hz : i.zero = some z)
    (kl kc : IntKind) (n c : Nat) (hnc : n ≤ c) (hbytes : i.bytes * c ≤ 281474976710656) (h63 : c ≤ 9223372036854775807) (w : World) :
    (Instr.makeSlice t (.int kl (n : Int)) (.int kc (c : Int))).run P w = .ok (.slice (some ⟨w.heap.size, 0, none⟩) n c) (w.alloc (.cells (madeCells z.cells (c * i.size)) e)) := by
  have hb : (i.bytes : Int) * (c : Int) ≤ 281474976710656 := by
    have h : ((i.bytes * c : Nat) : Int) ≤ 281474976710656 := by omega
    rwa [Int.natCast_mul] at h
  have hr := run_make (P := P) w t e i z ht hi hz kl kc n c (by omega) (by omega) hb (by omega)
  simp only [Int.toNat_natCast] at hr
  exact hr
end
theorem make_fn {P : Program} (fn : Fn) (first cap : Array Value) (w : World) : (Instr.makeFunc fn first cap).run P w = .ok (.func fn first cap) w := rfl
end Go.Proofs.Ytianombjgdmbeaa
namespace Go.Proofs.Ytianombjgdmbeaa
set_option linter.unusedSimpArgs false
set_option linter.unusedVariables false
section
variable {α : Type} {f : α → List Value} {s : Nat}
theorem fm_len (hf : ∀ x, (f x).length = s) : ∀ l : List α, (l.flatMap f).length = l.length * s
  | [] => by simp
  | x :: l => by rw [List.flatMap_cons, List.length_append, hf, fm_len hf l, List.length_cons, Nat.succ_mul]; omega
theorem fm_get (hf : ∀ x, (f x).length = s) : ∀ (l : List α) (i : Nat) (x : α) (j : Nat), l[i]? = some x → j < s → (l.flatMap f)[i * s + j]? = (f x)[j]?
  | [], i, x, j, h, _ => by simp at h
  | y :: l, 0, x, j, h, hj => by
    simp at h
    subst h
    rw [List.flatMap_cons, Nat.zero_mul, Nat.zero_add, List.getElem?_append_left (by rw [hf]; exact hj)]
  | y :: l, i + 1, x, j, h, hj => by
    rw [List.flatMap_cons, List.getElem?_append_right (by rw [hf, Nat.succ_mul]; omega), hf, show (i + 1) * s + j - s = i * s + j by rw [Nat.succ_mul]; omega]
    exact fm_get hf l i x j (by simpa using h) hj
theorem fm_set (hf : ∀ x, (f x).length = s) : ∀ (l : List α) (i : Nat) (x y : α) (j : Nat) (v : Value), l[i]? = some x → j < s → f y = (f x).set j v → (l.flatMap f).set (i * s + j) v = (l.set i y).flatMap f
  | [], i, x, y, j, v, h, _, _ => by simp at h
  | z :: l, 0, x, y, j, v, h, hj, hy => by
    simp at h
    subst h
    rw [List.flatMap_cons, Nat.zero_mul, Nat.zero_add, List.set_append_left _ _ (by rw [hf]; exact hj), List.set_cons_zero, List.flatMap_cons, hy]
  | z :: l, i + 1, x, y, j, v, h, hj, hy => by
    rw [List.flatMap_cons, List.set_append_right _ _ (by rw [hf, Nat.succ_mul]; omega), hf, show (i + 1) * s + j - s = i * s + j by rw [Nat.succ_mul]; omega, List.set_cons_succ, List.flatMap_cons,
      fm_set hf l i x y j v (by simpa using h) hj hy]
theorem fm_snoc (l : List α) (x : α) : (l ++ [x]).flatMap f = l.flatMap f ++ f x := by simp
end
end Go.Proofs.Ytianombjgdmbeaa
