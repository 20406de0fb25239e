/-
  The program's Through: which points have been seen (plain).
-/
import Derived.Test.YtclcgfngolfmlaaThruG
namespace Go.Proofs.Ytclcgfngolfmlaa
set_option linter.unusedSimpArgs false
set_option linter.unusedVariables false
open Go.RowKit

def seenF (p : List UInt8) (k v : Nat) : Bool := (List.range k).any fun a => (p.getD a 0).toNat == v
def seenC (p : List UInt8) (k : Nat) : Array Value := ((List.range 256).map fun v => Value.bool (seenF p k v)).toArray
theorem seenC_get (p : List UInt8) (k : Nat) {v : Nat} (h : v < 256) : (seenC p k)[v]? = some (.bool (seenF p k v)) := by
  simp [seenC, h]
theorem seenF_next (p : List UInt8) (k v : Nat) : seenF p (k + 1) v = (seenF p k v || (p.getD k 0).toNat == v) := by
  unfold seenF
  rw [List.range_succ, List.any_append]
  simp
theorem seenC_next (p : List UInt8) (k : Nat) : seenC p (k + 1) = (seenC p k).setIfInBounds (p.getD k 0).toNat (.bool true) := by
  have hx := byte_lt (p.getD k 0)
  apply Array.ext_getElem?
  intro v
  by_cases hv : v < 256
  · rw [seenC_get _ _ hv, seenF_next]
    by_cases e : (p.getD k 0).toNat = v
    · subst e
      rw [Array.getElem?_setIfInBounds_self_of_lt (by simp [seenC]; exact hx)]
      simp
    · rw [Array.getElem?_setIfInBounds_ne e, seenC_get _ _ hv]
      have : ((p.getD k 0).toNat == v) = false := by rw [beq_eq_false_iff_ne]; exact e
      rw [this, Bool.or_false]
  · have h1 : (seenC p (k + 1)).size = 256 := by simp [seenC]
    have h2 : (seenC p k).size = 256 := by simp [seenC]
    rw [Array.getElem?_eq_none (by omega), Array.getElem?_eq_none (by rw [Array.size_setIfInBounds]; omega)]
set_option maxRecDepth 100000 in
theorem seenC_zero (p : List UInt8) : Try.zeroCells128 = seenC p 0 := by
  have e : seenC p 0 = ((List.range 256).map fun _ => Value.bool false).toArray := by
    unfold seenC seenF
    simp
  rw [e]
  show Try.zeroCells128 = _
  kernel_rfl
theorem seenF_true {p : List UInt8} {k v : Nat} (h : seenF p k v = true) : ∃ a, a < k ∧ (p.getD a 0).toNat = v := by
  unfold seenF at h
  obtain ⟨a, ha, hv⟩ := List.any_eq_true.1 h
  exact ⟨a, List.mem_range.1 ha, by simpa using hv⟩
theorem seenF_false {p : List UInt8} {k v : Nat} (h : seenF p k v = false) : ∀ a, a < k → (p.getD a 0).toNat ≠ v := by
  intro a ha e
  have : seenF p k v = true := List.any_eq_true.2 ⟨a, List.mem_range.2 ha, by simpa using e⟩
  rw [h] at this
  cases this
theorem baseOf_take (p : List UInt8) {k : Nat} (h : k < p.length) : baseOf (p.take (k + 1)) = nextP (p.getD k 0) (baseOf (p.take k)) := by
  rw [← baseOf_snoc, List.take_succ_eq_append_getElem h]
  simp [List.getD, h]
theorem trimL_twice (l : List UInt8) : trimL (trimL l) = trimL l := trimL_congr (trimL_get l)
theorem refT_trimmed : ∀ (xs ys p b : List UInt8), trimL p = p → trimL (refT xs ys p b) = refT xs ys p b
  | [], ys, p, b, h => by simpa [refT] using h
  | x :: xs, [], p, b, h => by simpa [refT] using h
  | x :: xs, y :: ys, p, b, h => by
    show trimL (refT xs ys _ _) = refT xs ys _ _
    exact refT_trimmed xs ys _ _ (by unfold sumF; exact trimL_twice _)
/-- What the program's sum trims to is what the document builds. -/
theorem thru_prog (xs ys : List UInt8) (hl : xs.length = ys.length) (hn : xs.Nodup) : trimL (lagr (baseOf xs) xs.length xs ys (List.replicate xs.length 0)) = refT xs ys [] [1] := by
  rw [← thru_both xs ys hl hn]
  exact refT_trimmed _ _ _ _ rfl
theorem lagr_next (all xs ys s : List UInt8) (n : Nat) {i : Nat} (h1 : i < xs.length) (h2 : i < ys.length) : lagr all n (xs.drop i) (ys.drop i) s = lagr all n (xs.drop (i + 1)) (ys.drop (i + 1)) (addTo s (oneOf all (xs.getD i 0)) (divU (ys.getD i 0) (ev (xs.getD i 0) (oneOf all (xs.getD i 0)))) 0 n) := by
  rw [List.drop_eq_getElem_cons h1, List.drop_eq_getElem_cons h2]
  simp [lagr, List.getD, h1, h2]
theorem lagr_end (all xs ys s : List UInt8) (n : Nat) {i : Nat} (h1 : xs.length ≤ i) : lagr all n (xs.drop i) (ys.drop i) s = s := by
  rw [List.drop_eq_nil_of_le h1]
  simp [lagr]
end Go.Proofs.Ytclcgfngolfmlaa
