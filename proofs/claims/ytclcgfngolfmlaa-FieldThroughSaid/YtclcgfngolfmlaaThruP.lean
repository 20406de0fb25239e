/-
  The polynomial through points, plainly: there is but one. No program is named here.
-/
import Derived.Test.YtclcgfngolfmlaaOverP
namespace Go.Proofs.Ytclcgfngolfmlaa
set_option linter.unusedSimpArgs false
set_option linter.unusedVariables false
open Go.RowKit

/-! values -/
def ev (x : UInt8) : List UInt8 → UInt8
  | [] => 0
  | a :: l => a ^^^ mulB (ev x l) x
theorem mulB_xor_left (a b c : UInt8) : mulB (a ^^^ b) c = mulB a c ^^^ mulB b c := by
  apply UInt8.toNat_inj.1
  rw [UInt8.toNat_xor, mulB_nat, mulB_nat, mulB_nat, UInt8.toNat_xor]
  exact mul_xor_left _ _ _
theorem mulB_xor_right (a b c : UInt8) : mulB a (b ^^^ c) = mulB a b ^^^ mulB a c := by
  rw [mulB_comm, mulB_xor_left, mulB_comm b, mulB_comm c]
theorem mulB_zero' (a : UInt8) : mulB a 0 = 0 := by rw [mulB_comm, mulB_zero]
theorem mulB_cancel {a b : UInt8} (hb : b ≠ 0) (h : mulB a b = 0) : a = 0 := by
  have h1 := congrArg (fun z => mulB z (invB b)) h
  simp only [mulB_zero] at h1
  rw [mulB_assoc, mulB_comm b, mulB_inv hb, mulB_comm, mulB_one] at h1
  exact h1
theorem xor_ne {a b : UInt8} (h : a ≠ b) : a ^^^ b ≠ 0 := fun e => h (by
  have h1 := congrArg (fun z => z ^^^ b) e
  simp only [UInt8.xor_assoc, UInt8.xor_self, UInt8.xor_zero, UInt8.zero_xor] at h1
  exact h1)
theorem ev_drop (x : UInt8) (l : List UInt8) (j : Nat) : ev x (l.drop j) = l.getD j 0 ^^^ mulB (ev x (l.drop (j + 1))) x := by
  by_cases h : j < l.length
  · rw [List.drop_eq_getElem_cons h]
    show l[j] ^^^ _ = _
    rw [List.getD, List.getElem?_eq_getElem h]
    rfl
  · rw [List.drop_eq_nil_of_le (by omega), List.drop_eq_nil_of_le (by omega), getD_out (by omega)]
    show (0 : UInt8) = 0 ^^^ mulB 0 x
    rw [mulB_zero, UInt8.xor_zero]
theorem ev_lin_from (x k : UInt8) (a b c : List UInt8) (h : ∀ i, c.getD i 0 = a.getD i 0 ^^^ mulB k (b.getD i 0)) : ∀ f j, a.length ≤ j + f → b.length ≤ j + f → c.length ≤ j + f → ev x (c.drop j) = ev x (a.drop j) ^^^ mulB k (ev x (b.drop j))
  | 0, j, ha, hb, hc => by
    rw [List.drop_eq_nil_of_le (by omega), List.drop_eq_nil_of_le (by omega), List.drop_eq_nil_of_le (by omega)]
    show (0 : UInt8) = 0 ^^^ mulB k 0
    rw [mulB_zero', UInt8.xor_zero]
  | f + 1, j, ha, hb, hc => by
    have ih := ev_lin_from x k a b c h f (j + 1) (by omega) (by omega) (by omega)
    rw [ev_drop x c, ev_drop x a, ev_drop x b, ih, h j, mulB_xor_left, mulB_xor_right, ← mulB_assoc]
    ac_rfl
theorem ev_lin (x k : UInt8) {a b c : List UInt8} (h : ∀ i, c.getD i 0 = a.getD i 0 ^^^ mulB k (b.getD i 0)) : ev x c = ev x a ^^^ mulB k (ev x b) := by
  have := ev_lin_from x k a b c h (a.length + b.length + c.length) 0 (by omega) (by omega) (by omega)
  simpa using this
theorem ev_congr (x : UInt8) {a b : List UInt8} (h : ∀ i, a.getD i 0 = b.getD i 0) : ev x a = ev x b := by
  have := ev_lin x 0 (a := b) (b := []) (c := a) (fun i => by rw [h, mulB_zero, UInt8.xor_zero])
  rw [this, mulB_zero, UInt8.xor_zero]
theorem ev_trim (x : UInt8) (l : List UInt8) : ev x (trimL l) = ev x l := ev_congr x (trimL_get l)
theorem ev_shift (x : UInt8) (l : List UInt8) : ev x (0 :: l) = mulB (ev x l) x := by show 0 ^^^ _ = _; rw [UInt8.zero_xor]

/-! division by x + x0 -/
def syn (x0 : UInt8) : List UInt8 → List UInt8
  | [] => []
  | [_] => []
  | _ :: b :: l => ev x0 (b :: l) :: syn x0 (b :: l)
theorem syn_len (x0 : UInt8) : ∀ l, (syn x0 l).length = l.length - 1
  | [] => rfl
  | [_] => rfl
  | _ :: b :: l => by show (syn x0 (b :: l)).length + 1 = _; rw [syn_len x0 (b :: l)]; rfl
theorem syn_get (x0 : UInt8) : ∀ (l : List UInt8) (j : Nat), (syn x0 l).getD j 0 = ev x0 (l.drop (j + 1))
  | [], j => by simp [syn, ev]
  | [a], j => by simp [syn, ev]
  | a :: b :: l, 0 => rfl
  | a :: b :: l, j + 1 => by
    have := syn_get x0 (b :: l) j
    show (syn x0 (b :: l)).getD j 0 = _
    rw [this]
    rfl
theorem syn_ev (x0 x : UInt8) : ∀ l, ev x l ^^^ ev x0 l = mulB (x ^^^ x0) (ev x (syn x0 l))
  | [] => by show (0 : UInt8) ^^^ 0 = mulB _ 0; rw [mulB_zero', UInt8.xor_self]
  | [a] => by
    show (a ^^^ mulB 0 x) ^^^ (a ^^^ mulB 0 x0) = mulB _ 0
    rw [mulB_zero, mulB_zero, mulB_zero', UInt8.xor_self]
  | a :: b :: l => by
    have ih := syn_ev x0 x (b :: l)
    show (a ^^^ mulB (ev x (b :: l)) x) ^^^ (a ^^^ mulB (ev x0 (b :: l)) x0) = mulB (x ^^^ x0) (ev x0 (b :: l) ^^^ mulB (ev x (syn x0 (b :: l))) x)
    generalize ev x (b :: l) = u at *
    generalize ev x0 (b :: l) = v at *
    generalize ev x (syn x0 (b :: l)) = q at *
    rw [mulB_xor_right, ← mulB_assoc, ← ih, mulB_xor_left (a := u) (b := v) (c := x), mulB_comm (x ^^^ x0) v, mulB_xor_right v x x0]
    generalize mulB u x = p
    generalize mulB v x = r
    generalize mulB v x0 = s
    have e1 : (a ^^^ p) ^^^ (a ^^^ s) = p ^^^ s := by
      rw [UInt8.xor_comm a p, UInt8.xor_assoc, ← UInt8.xor_assoc a a s, UInt8.xor_self, UInt8.zero_xor]
    have e2 : (r ^^^ s) ^^^ (p ^^^ r) = p ^^^ s := by
      rw [UInt8.xor_comm p r, ← UInt8.xor_assoc, UInt8.xor_comm r s, UInt8.xor_assoc s r r, UInt8.xor_self, UInt8.xor_zero, UInt8.xor_comm]
    rw [e1, e2]
/-- A polynomial that is nought at more places than it has a degree is nought. -/
theorem only_nought : ∀ (xs l : List UInt8), xs.Nodup → l.length ≤ xs.length → (∀ x ∈ xs, ev x l = 0) → ∀ j, l.getD j 0 = 0
  | [], l, _, hl, _, j => by
    obtain rfl : l = [] := List.eq_nil_of_length_eq_zero (by simpa using hl)
    rfl
  | x0 :: xs, l, hn, hl, hz, j => by
    rw [List.nodup_cons] at hn
    have hq : ∀ j, (syn x0 l).getD j 0 = 0 := only_nought xs (syn x0 l) hn.2 (by rw [syn_len]; simp at hl; omega) (fun x hx => by
      have h1 := syn_ev x0 x l
      rw [hz x (List.mem_cons_of_mem _ hx), hz x0 List.mem_cons_self, UInt8.xor_self] at h1
      refine mulB_cancel (b := x ^^^ x0) (xor_ne (fun e => hn.1 (e ▸ hx))) ?_
      rw [mulB_comm, ← h1])
    have h0 : ∀ j, ev x0 (l.drop j) = 0
      | 0 => by rw [List.drop_zero]; exact hz x0 List.mem_cons_self
      | j + 1 => by rw [← syn_get]; exact hq j
    have := ev_drop x0 l j
    rw [h0 j, h0 (j + 1), mulB_zero, UInt8.xor_zero] at this
    exact this.symm
/-- There is but one polynomial through points. -/
theorem only_one {xs a b : List UInt8} (hn : xs.Nodup) (ha : a.length ≤ xs.length) (hb : b.length ≤ xs.length) (h : ∀ x ∈ xs, ev x a = ev x b) : ∀ j, a.getD j 0 = b.getD j 0 := by
  intro j
  have hs : ∀ i, (sumL a b xs.length).getD i 0 = a.getD i 0 ^^^ mulB 1 (b.getD i 0) := fun i => by
    rw [mulB_one]
    by_cases hi : i < xs.length
    · simp only [sumL, List.getD, List.getElem?_map]
      rw [List.getElem?_range hi]
      rfl
    · rw [getD_out (by simp [sumL]; omega), getD_out (l := a) (by omega), getD_out (l := b) (by omega), UInt8.xor_self]
  have hz := only_nought xs (sumL a b xs.length) hn (by simp [sumL]) (fun x hx => by
    rw [ev_lin x 1 hs, h x hx, mulB_one, UInt8.xor_self]) j
  rw [hs, mulB_one] at hz
  refine Classical.byContradiction fun hne => xor_ne hne hz

/-! nought at all points so far -/
def nextP (x : UInt8) (b : List UInt8) : List UInt8 := addTo (addTo (List.replicate (b.length + 1) 0) b x 0 b.length) b 1 1 b.length
theorem getD_zeros (n i : Nat) : (List.replicate n (0 : UInt8)).getD i 0 = 0 := by
  simp only [List.getD, List.getElem?_replicate]
  split <;> rfl
theorem nextP_len (x : UInt8) (b : List UInt8) : (nextP x b).length = b.length + 1 := by simp [nextP, addTo_length]
theorem nextP_get (x : UInt8) (b : List UInt8) (m : Nat) : (nextP x b).getD m 0 = (0 :: b).getD m 0 ^^^ mulB x (b.getD m 0) := by
  unfold nextP
  rw [addTo_get _ _ _ _ _ (by simp [addTo_length]; omega), addTo_get _ _ _ _ _ (by simp), getD_zeros, UInt8.zero_xor, Nat.sub_zero, mulB_one]
  rcases Nat.eq_zero_or_pos m with rfl | hm
  · rw [if_neg (by omega)]
    show _ = 0 ^^^ _
    rw [UInt8.zero_xor]
    split
    · rfl
    · rw [getD_out (l := b) (by omega), mulB_zero']
  · obtain ⟨k, rfl⟩ : ∃ k, m = k + 1 := ⟨m - 1, by omega⟩
    show _ = b.getD k 0 ^^^ _
    rw [show k + 1 - 1 = k from rfl]
    by_cases h1 : k + 1 < b.length
    · have c1 : 1 ≤ k + 1 ∧ k + 1 < 1 + b.length := ⟨by omega, by omega⟩
      have c2 : 0 ≤ k + 1 ∧ k + 1 < 0 + b.length := ⟨by omega, by omega⟩
      rw [if_pos c1, if_pos c2, UInt8.xor_comm]
    · have c2 : ¬ (0 ≤ k + 1 ∧ k + 1 < 0 + b.length) := by omega
      rw [if_neg c2, getD_out (l := b) (i := k + 1) (by omega), mulB_zero', UInt8.zero_xor, UInt8.xor_zero]
      by_cases h2 : k < b.length
      · rw [if_pos (by omega)]
      · rw [if_neg (by omega), getD_out (by omega)]
theorem nextP_ev (x y : UInt8) (b : List UInt8) : ev y (nextP x b) = mulB (ev y b) (y ^^^ x) := by
  rw [ev_lin y x (nextP_get x b), ev_shift, mulB_xor_right, mulB_comm x]
def baseOf (xs : List UInt8) : List UInt8 := xs.foldl (fun b x => nextP x b) [1]
theorem baseOf_snoc (xs : List UInt8) (x : UInt8) : baseOf (xs ++ [x]) = nextP x (baseOf xs) := by simp [baseOf]
theorem baseOf_len (xs : List UInt8) : (baseOf xs).length = xs.length + 1 := by
  have h : ∀ (xs b : List UInt8), (xs.foldl (fun b x => nextP x b) b).length = xs.length + b.length := by
    intro xs
    induction xs with
    | nil => intro b; simp
    | cons x xs ih => intro b; rw [List.foldl_cons, ih, nextP_len, List.length_cons]; omega
  exact h xs [1]
theorem base_zero_from (y : UInt8) : ∀ (xs b : List UInt8), ev y b = 0 → ev y (xs.foldl (fun b x => nextP x b) b) = 0
  | [], b, h => h
  | x :: xs, b, h => base_zero_from y xs _ (by rw [nextP_ev, h, mulB_zero])
theorem base_zero (y : UInt8) : ∀ (xs b : List UInt8), y ∈ xs → ev y (xs.foldl (fun b x => nextP x b) b) = 0
  | x :: xs, b, h => by
    rw [List.foldl_cons]
    rcases List.mem_cons.1 h with rfl | h
    · exact base_zero_from y xs _ (by rw [nextP_ev, UInt8.xor_self, mulB_zero'])
    · exact base_zero y xs _ h
theorem mulB_ne {a b : UInt8} (ha : a ≠ 0) (hb : b ≠ 0) : mulB a b ≠ 0 := fun e => ha (mulB_cancel hb e)
theorem base_ne (y : UInt8) : ∀ (xs b : List UInt8), y ∉ xs → ev y b ≠ 0 → ev y (xs.foldl (fun b x => nextP x b) b) ≠ 0
  | [], b, _, h => h
  | x :: xs, b, hn, h => by
    rw [List.foldl_cons]
    refine base_ne y xs _ (fun e => hn (List.mem_cons_of_mem _ e)) ?_
    rw [nextP_ev]
    exact mulB_ne h (xor_ne (fun e => hn (e ▸ List.mem_cons_self)))
theorem ev_one (y : UInt8) : ev y [1] = 1 := by show (1 : UInt8) ^^^ mulB 0 y = 1; rw [mulB_zero, UInt8.xor_zero]
theorem base_top (xs : List UInt8) : (baseOf xs).getD xs.length 0 = 1 := by
  have h : ∀ (xs b : List UInt8) (n : Nat), b.length = n + 1 → b.getD n 0 = 1 → (xs.foldl (fun b x => nextP x b) b).getD (n + xs.length) 0 = 1 := by
    intro xs
    induction xs with
    | nil => intro b n _ h; exact h
    | cons x xs ih =>
      intro b n hl h
      rw [List.foldl_cons, List.length_cons, show n + (xs.length + 1) = n + 1 + xs.length from by omega]
      refine ih _ (n + 1) (by rw [nextP_len, hl]) ?_
      rw [nextP_get, getD_out (l := b) (by omega), mulB_zero', UInt8.xor_zero]
      exact h
  have := h xs [1] 0 rfl rfl
  rwa [Nat.zero_add] at this

/-! the document's way: one point more at a time -/
def divU (a b : UInt8) : UInt8 := if b = 0 then 0 else mulB a (invB b)
def moreOf (k : UInt8) (b : List UInt8) : List UInt8 := b.map (mulB k)
def refT : List UInt8 → List UInt8 → List UInt8 → List UInt8 → List UInt8
  | x :: xs, y :: ys, p, b => refT xs ys (sumF p (moreOf (divU (y ^^^ ev x p) (ev x b)) b)) (nextP x b)
  | _, _, p, _ => p
theorem moreOf_get (k : UInt8) (b : List UInt8) (i : Nat) : (moreOf k b).getD i 0 = mulB k (b.getD i 0) := by
  unfold moreOf
  simp only [List.getD, List.getElem?_map]
  cases b[i]? with
  | none => exact (mulB_zero' k).symm
  | some v => rfl
theorem sumF_get (p q : List UInt8) (i : Nat) : (sumF p q).getD i 0 = p.getD i 0 ^^^ q.getD i 0 := by
  unfold sumF
  rw [trimL_get]
  by_cases h : i < max p.length q.length
  · simp only [sumL, List.getD, List.getElem?_map]
    rw [List.getElem?_range h]
    rfl
  · rw [getD_out (by simp [sumL]; omega), getD_out (l := p) (by omega), getD_out (l := q) (by omega), UInt8.xor_self]
theorem sum_more_ev (x k : UInt8) (p b : List UInt8) : ev x (sumF p (moreOf k b)) = ev x p ^^^ mulB k (ev x b) :=
  ev_lin x k (fun i => by rw [sumF_get, moreOf_get])
theorem sumF_len (p q : List UInt8) : (sumF p q).length ≤ max p.length q.length := by
  unfold sumF
  rw [trimL_len]
  have := tlen_le (sumL p q (max p.length q.length))
  simpa [sumL] using this
theorem divU_back (a : UInt8) {b : UInt8} (h : b ≠ 0) : mulB (divU a b) b = a := by
  unfold divU
  rw [if_neg h]
  exact mulB_back a h
theorem refT_ok : ∀ (xs ys p b seen : List UInt8) (vals : UInt8 → UInt8), xs.length = ys.length → (seen ++ xs).Nodup → (∀ y ∈ seen, ev y b = 0) → (∀ y, y ∉ seen → ev y b ≠ 0) → (∀ y ∈ seen, ev y p = vals y) →
    p.length ≤ seen.length → b.length = seen.length + 1 → (∀ i, i < xs.length → vals (xs.getD i 0) = ys.getD i 0) →
    (∀ y ∈ seen ++ xs, ev y (refT xs ys p b) = vals y) ∧ (refT xs ys p b).length ≤ (seen ++ xs).length
  | [], ys, p, b, seen, vals, _, _, _, _, hp, hl, _, _ => by
    rw [List.append_nil]
    exact ⟨hp, hl⟩
  | x :: xs, [], p, b, seen, vals, h, _, _, _, _, _, _, _ => by simp at h
  | x :: xs, y :: ys, p, b, seen, vals, h, hn, hz, hne, hp, hl, hb, hv => by
    have hxs : x ∉ seen := by
      have := (List.nodup_append.1 hn).2.2
      intro e
      exact this x e x List.mem_cons_self rfl
    have hvx : vals x = y := hv 0 (by simp)
    have := refT_ok xs ys (sumF p (moreOf (divU (y ^^^ ev x p) (ev x b)) b)) (nextP x b) (seen ++ [x]) vals (by simpa using h) (by simpa using hn)
      (fun z hz' => by
        rw [nextP_ev]
        rcases List.mem_append.1 hz' with h1 | h1
        · rw [hz z h1, mulB_zero]
        · simp at h1
          rw [h1, UInt8.xor_self, mulB_zero'])
      (fun z hz' => by
        rw [nextP_ev]
        refine mulB_ne (hne z (fun e => hz' (List.mem_append_left _ e))) (xor_ne (fun e => hz' (List.mem_append_right _ (by simp [e])))))
      (fun z hz' => by
        rw [sum_more_ev]
        rcases List.mem_append.1 hz' with h1 | h1
        · rw [hz z h1, mulB_zero', UInt8.xor_zero, hp z h1]
        · simp at h1
          subst h1
          rw [divU_back _ (hne z hxs), hvx, UInt8.xor_comm y, ← UInt8.xor_assoc, UInt8.xor_self, UInt8.zero_xor])
      (by
        have h1 := sumF_len p (moreOf (divU (y ^^^ ev x p) (ev x b)) b)
        have h2 : (moreOf (divU (y ^^^ ev x p) (ev x b)) b).length = seen.length + 1 := by unfold moreOf; rw [List.length_map, hb]
        rw [h2] at h1
        simp
        omega)
      (by rw [nextP_len, hb]; simp)
      (fun i hi => by
        have := hv (i + 1) (by simpa using hi)
        simpa using this)
    have e : seen ++ [x] ++ xs = seen ++ x :: xs := by simp
    rw [e] at this
    exact this

/-! the program's way: the sum of those that are nought at all points but one -/
def oneOf (all : List UInt8) (x : UInt8) : List UInt8 := syn x all
def lagr (all : List UInt8) (n : Nat) : List UInt8 → List UInt8 → List UInt8 → List UInt8
  | x :: xs, y :: ys, s => lagr all n xs ys (addTo s (oneOf all x) (divU y (ev x (oneOf all x))) 0 n)
  | _, _, s => s
theorem one_ev {xs : List UInt8} (hn : xs.Nodup) {x z : UInt8} (hx : x ∈ xs) (hz : z ∈ xs) (hne : z ≠ x) : ev z (oneOf (baseOf xs) x) = 0 := by
  have h := syn_ev x z (baseOf xs)
  have e1 : ev z (baseOf xs) = 0 := base_zero z xs [1] hz
  have e2 : ev x (baseOf xs) = 0 := base_zero x xs [1] hx
  rw [e1, e2, UInt8.xor_self] at h
  refine mulB_cancel (b := z ^^^ x) (xor_ne hne) ?_
  rw [mulB_comm]
  exact h.symm
theorem one_ne_at {xs : List UInt8} (hn : xs.Nodup) {x : UInt8} (hx : x ∈ xs) : ev x (oneOf (baseOf xs) x) ≠ 0 := by
  intro e
  have hl : (oneOf (baseOf xs) x).length ≤ xs.length := by unfold oneOf; rw [syn_len, baseOf_len]; omega
  have h0 := only_nought xs (oneOf (baseOf xs) x) hn hl (fun z hz => by
    by_cases hzx : z = x
    · rw [hzx]; exact e
    · exact one_ev hn hx hz hzx) (xs.length - 1)
  have hpos : 0 < xs.length := List.length_pos_of_mem hx
  have h1 : (oneOf (baseOf xs) x).getD (xs.length - 1) 0 = 1 := by
    unfold oneOf
    rw [syn_get, show xs.length - 1 + 1 = xs.length from by omega, ev_drop, base_top, List.drop_eq_nil_of_le (by rw [baseOf_len]; exact Nat.le_refl _)]
    show (1 : UInt8) ^^^ mulB 0 x = 1
    rw [mulB_zero, UInt8.xor_zero]
  rw [h1] at h0
  exact absurd h0 (by decide)
theorem addTo_lin {s q : List UInt8} {k : UInt8} {n : Nat} (h : n ≤ s.length) (hq : q.length = n) (i : Nat) : (addTo s q k 0 n).getD i 0 = s.getD i 0 ^^^ mulB k (q.getD i 0) := by
  rw [addTo_get _ _ _ _ _ (by omega), Nat.sub_zero]
  by_cases hi : i < n
  · rw [if_pos ⟨Nat.zero_le _, by omega⟩]
  · rw [if_neg (by omega), getD_out (l := q) (by omega), mulB_zero', UInt8.xor_zero]
theorem lagr_ok (all : List UInt8) (pts : List UInt8) (hn : pts.Nodup) (hall : all = baseOf pts) (vals : UInt8 → UInt8) : ∀ (xs ys s seen : List UInt8), xs.length = ys.length → (seen ++ xs).Nodup → (∀ z ∈ seen ++ xs, z ∈ pts) → s.length = pts.length →
    (∀ z ∈ pts, ev z s = if z ∈ seen then vals z else 0) → (∀ i, i < xs.length → vals (xs.getD i 0) = ys.getD i 0) →
    (∀ z ∈ pts, ev z (lagr all pts.length xs ys s) = if z ∈ seen ++ xs then vals z else 0) ∧ (lagr all pts.length xs ys s).length = pts.length
  | [], ys, s, seen, _, _, _, hs, hv, _ => by
    rw [List.append_nil]
    exact ⟨hv, hs⟩
  | x :: xs, [], s, seen, h, _, _, _, _, _ => by simp at h
  | x :: xs, y :: ys, s, seen, h, hnd, hsub, hs, hv, hy => by
    have hxs : x ∉ seen := by
      have := (List.nodup_append.1 hnd).2.2
      intro e
      exact this x e x List.mem_cons_self rfl
    have hxp : x ∈ pts := hsub x (by simp)
    have hvx : vals x = y := hy 0 (by simp)
    have hol : (oneOf all x).length = pts.length := by unfold oneOf; rw [syn_len, hall, baseOf_len]; omega
    have := lagr_ok all pts hn hall vals xs ys (addTo s (oneOf all x) (divU y (ev x (oneOf all x))) 0 pts.length) (seen ++ [x]) (by simpa using h) (by simpa using hnd) (fun z hz => hsub z (by simpa using hz)) (by rw [addTo_length]; exact hs)
      (fun z hz => by
        rw [ev_lin z _ (addTo_lin (by omega) hol), hv z hz]
        by_cases hzx : z = x
        · subst hzx
          rw [if_neg hxs, if_pos (by simp), UInt8.zero_xor, divU_back _ (by rw [hall]; exact one_ne_at hn hxp), hvx]
        · have e0 : ev z (oneOf all x) = 0 := by rw [hall]; exact one_ev hn hxp hz hzx
          rw [e0, mulB_zero', UInt8.xor_zero]
          by_cases hzs : z ∈ seen
          · rw [if_pos hzs, if_pos (by simp [hzs])]
          · rw [if_neg hzs, if_neg (by simp [hzs, hzx])])
      (fun i hi => by
        have := hy (i + 1) (by simpa using hi)
        simpa using this)
    have e : seen ++ [x] ++ xs = seen ++ x :: xs := by simp
    rw [e] at this
    exact this
/-- The two ways come to one polynomial. -/
theorem thru_both (xs ys : List UInt8) (hl : xs.length = ys.length) (hn : xs.Nodup) : trimL (refT xs ys [] [1]) = trimL (lagr (baseOf xs) xs.length xs ys (List.replicate xs.length 0)) := by
  obtain ⟨vals, hv⟩ : ∃ vals : UInt8 → UInt8, ∀ i, i < xs.length → vals (xs.getD i 0) = ys.getD i 0 := by
    refine ⟨fun x => ys.getD (xs.idxOf x) 0, fun i hi => ?_⟩
    have e : xs.idxOf (xs.getD i 0) = i := by
      rw [List.getD, List.getElem?_eq_getElem hi]
      exact hn.idxOf_getElem i hi
    show ys.getD (xs.idxOf _) 0 = _
    rw [e]
  have h1 := refT_ok xs ys [] [1] [] vals hl (by simpa using hn) (by simp) (fun y _ => by rw [ev_one]; decide) (by simp) (by simp) rfl hv
  have h2 := lagr_ok (baseOf xs) xs hn rfl vals xs ys (List.replicate xs.length 0) [] hl (by simpa using hn) (by simp) (by simp) (fun z _ => by
    rw [if_neg (by simp)]
    have := ev_congr z (a := List.replicate xs.length 0) (b := []) (fun i => by rw [getD_zeros]; rfl)
    rw [this]
    rfl) hv
  simp only [List.nil_append] at h1 h2
  apply trimL_congr
  refine only_one hn h1.2 (by rw [h2.2]; exact Nat.le_refl _) (fun x hx => ?_)
  rw [h1.1 x hx, h2.1 x hx, if_pos hx]
end Go.Proofs.Ytclcgfngolfmlaa
