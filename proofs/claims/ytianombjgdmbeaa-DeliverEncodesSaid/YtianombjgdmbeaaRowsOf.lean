/-
  Rows of structs: the cells of a list of them. Plainly.
-/
import Derived.Test.YtianombjgdmbeaaBase
namespace Go.Proofs.Ytianombjgdmbeaa
set_option linter.unusedSimpArgs false
set_option linter.unusedVariables false
section
variable {α : Type} {f : α → List Value} {s : Nat}
theorem fm_len (hf : ∀ x, (f x).length = s) : ∀ l : List α, (l.flatMap f).length = l.length * s
  | [] => by simp
  | x :: l => by rw [List.flatMap_cons, List.length_append, hf, fm_len hf l, List.length_cons, Nat.succ_mul]; omega
theorem fm_get (hf : ∀ x, (f x).length = s) : ∀ (l : List α) (i : Nat) (x : α) (j : Nat), l[i]? = some x → j < s → (l.flatMap f)[i * s + j]? = (f x)[j]?
  | [], i, x, j, h, _ => by simp at h
  | y :: l, 0, x, j, h, hj => by
    simp at h
    subst h
    rw [List.flatMap_cons, Nat.zero_mul, Nat.zero_add, List.getElem?_append_left (by rw [hf]; exact hj)]
  | y :: l, i + 1, x, j, h, hj => by
    rw [List.flatMap_cons, List.getElem?_append_right (by rw [hf, Nat.succ_mul]; omega), hf, show (i + 1) * s + j - s = i * s + j by rw [Nat.succ_mul]; omega]
    exact fm_get hf l i x j (by simpa using h) hj
theorem fm_set (hf : ∀ x, (f x).length = s) : ∀ (l : List α) (i : Nat) (x y : α) (j : Nat) (v : Value), l[i]? = some x → j < s → f y = (f x).set j v → (l.flatMap f).set (i * s + j) v = (l.set i y).flatMap f
  | [], i, x, y, j, v, h, _, _ => by simp at h
  | z :: l, 0, x, y, j, v, h, hj, hy => by
    simp at h
    subst h
    rw [List.flatMap_cons, Nat.zero_mul, Nat.zero_add, List.set_append_left _ _ (by rw [hf]; exact hj), List.set_cons_zero, List.flatMap_cons, hy]
  | z :: l, i + 1, x, y, j, v, h, hj, hy => by
    rw [List.flatMap_cons, List.set_append_right _ _ (by rw [hf, Nat.succ_mul]; omega), hf, show (i + 1) * s + j - s = i * s + j by rw [Nat.succ_mul]; omega, List.set_cons_succ, List.flatMap_cons,
      fm_set hf l i x y j v (by simpa using h) hj hy]
theorem fm_snoc (l : List α) (x : α) : (l ++ [x]).flatMap f = l.flatMap f ++ f x := by simp
end
end Go.Proofs.Ytianombjgdmbeaa
