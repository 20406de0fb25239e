/-
  Through: what the document's loops hold (plain).
-/
import Derived.Test.YtclcgfngolfmlaaThruP
import Derived.Test.YtclcgfngolfmlaaAt
namespace Go.Proofs.Ytclcgfngolfmlaa
set_option linter.unusedSimpArgs false
set_option linter.unusedVariables false
open Go.RowKit

theorem atDown_ev (l : List UInt8) (x : UInt8) : ∀ k, atDown l x k (ev x (l.drop k)) = ev x l
  | 0 => rfl
  | k + 1 => by
    show atDown l x k (mulB (ev x (l.drop (k + 1))) x ^^^ l.getD k 0) = _
    rw [UInt8.xor_comm, ← ev_drop]
    exact atDown_ev l x k
theorem atF_ev (l : List UInt8) (x : UInt8) : atF l x = ev x l := by
  have := atDown_ev l x l.length
  rw [List.drop_eq_nil_of_le (Nat.le_refl _)] at this
  exact this
theorem divB_U (a b : UInt8) : divB a b = divU a b := rfl
theorem ext_getD {a b : List UInt8} (hl : a.length = b.length) (h : ∀ m, m < a.length → a.getD m 0 = b.getD m 0) : a = b := by
  apply List.ext_getElem hl
  intro i h1 h2
  have := h i h1
  simpa [List.getD, h1, h2] using this
theorem set_getD (l : List UInt8) (i m : Nat) (v : UInt8) (h : i < l.length) : (l.set i v).getD m 0 = if m = i then v else l.getD m 0 := by
  by_cases e : m = i
  · subst e
    simp [List.getD, h]
  · rw [if_neg e]
    simp [List.getD, List.getElem?_set_ne (Ne.symm e)]

/-- The next base when j terms of the base are in. -/
def nxF (x : UInt8) (b : List UInt8) (j m : Nat) : UInt8 := (if m < j then mulB (b.getD m 0) x else 0) ^^^ (if 1 ≤ m ∧ m ≤ j then b.getD (m - 1) 0 else 0)
def nxL (x : UInt8) (b : List UInt8) (j : Nat) : List UInt8 := (List.range (b.length + 1)).map (nxF x b j)
theorem nxL_len (x : UInt8) (b : List UInt8) (j : Nat) : (nxL x b j).length = b.length + 1 := by simp [nxL]
theorem nxL_get (x : UInt8) (b : List UInt8) (j : Nat) {m : Nat} (h : m < b.length + 1) : (nxL x b j).getD m 0 = nxF x b j m := by simp [nxL, List.getD, h]
theorem nxL_zero (x : UInt8) (b : List UInt8) : nxL x b 0 = List.replicate (b.length + 1) 0 := by
  refine ext_getD (by simp [nxL]) fun m hm => ?_
  rw [nxL_len] at hm
  rw [nxL_get _ _ _ hm, getD_zeros]
  unfold nxF
  rw [if_neg (by omega), if_neg (fun h => by omega)]
  rfl
theorem nxL_all (x : UInt8) (b : List UInt8) : nxL x b b.length = nextP x b := by
  refine ext_getD (by rw [nxL_len, nextP_len]) fun m hm => ?_
  rw [nxL_len] at hm
  rw [nxL_get _ _ _ hm, nextP_get, UInt8.xor_comm, mulB_comm x]
  unfold nxF
  rw [UInt8.xor_comm]
  have e1 : (if m < b.length then mulB (b.getD m 0) x else 0) = mulB (b.getD m 0) x := by
    by_cases h : m < b.length
    · rw [if_pos h]
    · rw [if_neg h, show b.getD m 0 = 0 from by simp [List.getD, List.getElem?_eq_none (Nat.le_of_not_lt h)], mulB_zero]
  have e2 : (if 1 ≤ m ∧ m ≤ b.length then b.getD (m - 1) 0 else 0) = (0 :: b).getD m 0 := by
    rcases m with _ | m
    · rfl
    · rw [if_pos ⟨by omega, by omega⟩]
      simp [List.getD]
  rw [e1, e2, UInt8.xor_comm]
theorem nxL_at (x : UInt8) (b : List UInt8) {j : Nat} (h : j < b.length) : (nxL x b j).getD j 0 = nxF x b j j := nxL_get _ _ _ (by omega)
theorem nxL_at2 (x v : UInt8) (b : List UInt8) {j : Nat} (h : j < b.length) : ((nxL x b j).set j v).getD (j + 1) 0 = 0 := by
  rw [set_getD _ _ _ _ (by rw [nxL_len]; omega), if_neg (by omega), nxL_get _ _ _ (by omega)]
  unfold nxF
  rw [if_neg (by omega), if_neg (fun h => by omega)]
  rfl
theorem nxL_next (x : UInt8) (b : List UInt8) {j : Nat} (h : j < b.length) : nxL x b (j + 1) = ((nxL x b j).set j (nxF x b j j ^^^ mulB (b.getD j 0) x)).set (j + 1) (0 ^^^ b.getD j 0) := by
  refine ext_getD (by simp [nxL_len]) fun m hm => ?_
  rw [nxL_len] at hm
  rw [nxL_get _ _ _ hm, set_getD _ _ _ _ (by rw [List.length_set, nxL_len]; omega)]
  by_cases h1 : m = j + 1
  · rw [if_pos h1, h1]
    unfold nxF
    rw [if_neg (by omega), if_pos ⟨by omega, by omega⟩, Nat.add_sub_cancel]
  · rw [if_neg h1, set_getD _ _ _ _ (by rw [nxL_len]; omega)]
    by_cases h2 : m = j
    · rw [if_pos h2, h2]
      unfold nxF
      rw [if_pos (by omega), if_neg (show ¬ j < j from by omega), UInt8.zero_xor, UInt8.xor_comm]
      by_cases h3 : 1 ≤ j
      · rw [if_pos ⟨h3, by omega⟩, if_pos ⟨h3, Nat.le_refl _⟩]
      · rw [if_neg (fun h => h3 h.1), if_neg (fun h => h3 h.1)]
    · rw [if_neg h2, nxL_get _ _ _ hm]
      unfold nxF
      by_cases h3 : m < j
      · rw [if_pos (by omega), if_pos h3]
        by_cases h4 : 1 ≤ m
        · rw [if_pos ⟨h4, by omega⟩, if_pos ⟨h4, by omega⟩]
        · rw [if_neg (fun h => h4 h.1), if_neg (fun h => h4 h.1)]
      · rw [if_neg (by omega), if_neg h3, if_neg (fun h => by omega), if_neg (fun h => by omega)]
/-- The base's multiple when j terms are in. -/
def moL (k : UInt8) (b : List UInt8) (j : Nat) : List UInt8 := (List.range b.length).map fun i => if i < j then mulB k (b.getD i 0) else 0
theorem moL_len (k : UInt8) (b : List UInt8) (j : Nat) : (moL k b j).length = b.length := by simp [moL]
theorem moL_get (k : UInt8) (b : List UInt8) (j : Nat) {m : Nat} (h : m < b.length) : (moL k b j).getD m 0 = if m < j then mulB k (b.getD m 0) else 0 := by simp [moL, List.getD, h]
theorem moL_zero (k : UInt8) (b : List UInt8) : moL k b 0 = List.replicate b.length 0 := by
  refine ext_getD (by simp [moL]) fun m hm => ?_
  rw [moL_len] at hm
  rw [moL_get _ _ _ hm, getD_zeros, if_neg (by omega)]
theorem moL_all (k : UInt8) (b : List UInt8) : moL k b b.length = moreOf k b := by
  refine ext_getD (by simp [moL, moreOf]) fun m hm => ?_
  rw [moL_len] at hm
  rw [moL_get _ _ _ hm, moreOf_get, if_pos hm]
theorem moL_next (k : UInt8) (b : List UInt8) {j : Nat} (h : j < b.length) : moL k b (j + 1) = (moL k b j).set j (mulB k (b.getD j 0)) := by
  refine ext_getD (by simp [moL_len]) fun m hm => ?_
  rw [moL_len] at hm
  rw [moL_get _ _ _ hm, set_getD _ _ _ _ (by rw [moL_len]; omega), moL_get _ _ _ hm]
  by_cases h2 : m = j
  · rw [if_pos h2, if_pos (by omega), h2]
  · rw [if_neg h2]
    by_cases h3 : m < j
    · rw [if_pos h3, if_pos (by omega)]
    · rw [if_neg h3, if_neg (by omega)]

/-- What comes of points. -/
def thruF (xs ys : List UInt8) : List UInt8 × Int := if xs.length ≠ ys.length ∨ 255 < xs.length then ([], 1) else if xs.Nodup then (refT xs ys [] [1], 0) else ([], 4)
theorem thruF_size {xs ys : List UInt8} (h : xs.length ≠ ys.length ∨ 255 < xs.length) : thruF xs ys = ([], 1) := if_pos h
theorem nodup_of {xs : List UInt8} (h : ∀ a b, a < b → b < xs.length → xs.getD a 0 ≠ xs.getD b 0) : xs.Nodup := by
  rw [List.nodup_iff_pairwise_ne, List.pairwise_iff_getElem]
  intro i j hi hj hij
  have := h i j hij hj
  simpa [List.getD, hi, hj] using this
theorem not_nodup {xs : List UInt8} {a b : Nat} (h1 : a < b) (h2 : b < xs.length) (h : xs.getD b 0 = xs.getD a 0) : ¬ xs.Nodup := by
  rw [List.nodup_iff_pairwise_ne, List.pairwise_iff_getElem]
  intro hn
  have := hn a b (by omega) h2 h1
  refine this ?_
  have h3 : a < xs.length := by omega
  have := h.symm
  simpa [List.getD, h2, h3] using this
theorem thruF_good {xs ys : List UInt8} (h1 : xs.length = ys.length) (h2 : xs.length ≤ 255) (h : xs.Nodup) : thruF xs ys = (refT xs ys [] [1], 0) := by
  unfold thruF
  rw [if_neg (by omega), if_pos h]
theorem thruF_twice {xs ys : List UInt8} (h1 : xs.length = ys.length) (h2 : xs.length ≤ 255) (h : ¬ xs.Nodup) : thruF xs ys = ([], 4) := by
  unfold thruF
  rw [if_neg (by omega), if_neg h]
theorem refT_next (xs ys p b : List UInt8) {i : Nat} (h1 : i < xs.length) (h2 : i < ys.length) : refT (xs.drop i) (ys.drop i) p b = refT (xs.drop (i + 1)) (ys.drop (i + 1)) (sumF p (moreOf (divU (ys.getD i 0 ^^^ ev (xs.getD i 0) p) (ev (xs.getD i 0) b)) b)) (nextP (xs.getD i 0) b) := by
  rw [List.drop_eq_getElem_cons h1, List.drop_eq_getElem_cons h2]
  simp [refT, List.getD, h1, h2]
theorem refT_end (xs ys p b : List UInt8) {i : Nat} (h1 : xs.length ≤ i) : refT (xs.drop i) (ys.drop i) p b = p := by
  rw [List.drop_eq_nil_of_le h1]
  simp [refT]
end Go.Proofs.Ytclcgfngolfmlaa
