/-
  Polynomials, plainly. No program is named here.
-/
import Derived.Test.YtclcgfngolfmlaaFieldP
namespace Go.Proofs.Ytclcgfngolfmlaa
set_option linter.unusedSimpArgs false
set_option linter.unusedVariables false
open Go.RowKit

def mulB (a b : UInt8) : UInt8 := UInt8.ofNat (mul a.toNat b.toNat)
theorem mulB_nat (a b : UInt8) : (mulB a b).toNat = mul a.toNat b.toNat := by
  have := mul_lt a.toNat_lt b.toNat
  rw [mulB, UInt8.toNat_ofNat']
  omega
theorem mulB_one (a : UInt8) : mulB 1 a = a := by
  apply UInt8.toNat_inj.1
  rw [mulB_nat]
  exact mul_one_left a.toNat_lt
/-- q, times k and raised by i, is added: its first j terms. -/
def addTo (s q : List UInt8) (k : UInt8) (i : Nat) : Nat → List UInt8
  | 0 => s
  | j + 1 => (addTo s q k i j).set (i + j) ((addTo s q k i j).getD (i + j) 0 ^^^ mulB k (q.getD j 0))
theorem addTo_length (s q : List UInt8) (k : UInt8) (i j : Nat) : (addTo s q k i j).length = s.length := by
  induction j with
  | zero => rfl
  | succ j ih => simp [addTo, ih]
/-- The products of the first i terms of p with q are added. -/
def timesTo (p q : List UInt8) : Nat → List UInt8
  | 0 => List.replicate (p.length + q.length) 0
  | i + 1 => addTo (timesTo p q i) q (p.getD i 0) i q.length
theorem timesTo_length (p q : List UInt8) (i : Nat) : (timesTo p q i).length = p.length + q.length := by
  induction i with
  | zero => simp [timesTo]
  | succ i ih => rw [timesTo, addTo_length, ih]
/-- How many terms are left without noughts at the end. -/
def trimN (l : List UInt8) : Nat → Nat
  | 0 => 0
  | n + 1 => if l.getD n 0 = 0 then trimN l n else n + 1
theorem trimN_le (l : List UInt8) (n : Nat) : trimN l n ≤ n := by
  induction n with
  | zero => exact Nat.le_refl _
  | succ n ih =>
    unfold trimN
    split
    · omega
    · omega
def trimL (l : List UInt8) : List UInt8 := l.take (trimN l l.length)
theorem trimL_length (l : List UInt8) : (trimL l).length = trimN l l.length := by
  have := trimN_le l l.length
  simp [trimL]
  omega
def sumAt (p q : List UInt8) (i : Nat) : UInt8 := p.getD i 0 ^^^ q.getD i 0
/-- The sum of two polynomials, as long as the longer one. -/
def sumL (p q : List UInt8) (n : Nat) : List UInt8 := (List.range n).map (sumAt p q)
def timesF (p q : List UInt8) : List UInt8 × Int := if p.length > 512 ∨ q.length > 512 then ([], 1) else (trimL (timesTo p q p.length), 0)
def sumF (p q : List UInt8) : List UInt8 := trimL (sumL p q (max p.length q.length))

theorem getD_set (l : List UInt8) (i j : Nat) (x : UInt8) (h : i < l.length) : (l.set i x).getD j 0 = if i = j then x else l.getD j 0 := by
  simp only [List.getD, List.getElem?_set]
  split
  · rename_i e
    subst e
    simp [h]
  · rfl
theorem addTo_get (s q : List UInt8) (k : UInt8) (i : Nat) : ∀ j, i + j ≤ s.length → ∀ m, (addTo s q k i j).getD m 0 = if i ≤ m ∧ m < i + j then s.getD m 0 ^^^ mulB k (q.getD (m - i) 0) else s.getD m 0
  | 0, _, m => by rw [if_neg (by omega)]; rfl
  | j + 1, h, m => by
    show ((addTo s q k i j).set (i + j) _).getD m 0 = _
    rw [getD_set _ _ _ _ (by rw [addTo_length]; omega), addTo_get s q k i j (by omega), addTo_get s q k i j (by omega)]
    by_cases e : i + j = m
    · subst e
      rw [if_pos rfl, if_neg (by omega), if_pos (by omega), show i + j - i = j from by omega]
    · rw [if_neg e]
      by_cases h1 : i ≤ m ∧ m < i + j
      · rw [if_pos h1, if_pos (by omega)]
      · rw [if_neg h1, if_neg (by omega)]
theorem getD_out {l : List UInt8} {i : Nat} (h : l.length ≤ i) : l.getD i 0 = 0 := by simp [List.getD, List.getElem?_eq_none h]
theorem list_eq {a b : List UInt8} (hl : a.length = b.length) (h : ∀ i, i < a.length → a.getD i 0 = b.getD i 0) : a = b := by
  apply List.ext_getElem hl
  intro i h1 h2
  have := h i h1
  simpa [List.getD, List.getElem?_eq_getElem h1, List.getElem?_eq_getElem h2] using this
theorem sum_prog (p q : List UInt8) (n : Nat) (h1 : p.length ≤ n) (h2 : q.length ≤ n) : addTo (addTo (List.replicate n 0) p 1 0 p.length) q 1 0 q.length = sumL p q n := by
  apply list_eq
  · simp [addTo_length, sumL]
  · intro i hi
    have hin : i < n := by simpa [addTo_length] using hi
    rw [addTo_get _ _ _ _ _ (by simp [addTo_length]; omega), addTo_get _ _ _ _ _ (by simp; omega)]
    have e0 : (List.replicate n (0 : UInt8)).getD i 0 = 0 := by simp [List.getD, hin]
    have es : (sumL p q n).getD i 0 = sumAt p q i := by simp [sumL, List.getD, hin]
    rw [e0, es, mulB_one, mulB_one, Nat.sub_zero]
    unfold sumAt
    by_cases a : i < p.length
    · by_cases b : i < q.length
      · rw [if_pos (by omega), if_pos (by omega)]; simp
      · rw [if_neg (by omega), if_pos (by omega), getD_out (l := q) (by omega)]; simp
    · by_cases b : i < q.length
      · rw [if_pos (by omega), if_neg (by omega), getD_out (l := p) (by omega)]
      · rw [if_neg (by omega), if_neg (by omega), getD_out (l := p) (by omega), getD_out (l := q) (by omega)]; simp
end Go.Proofs.Ytclcgfngolfmlaa
