/-
  Code words, plainly: the document's division and the program's register come to the same checks. No program is named here.
-/
import Derived.Test.YtolcaolmdfbfhaaOverP
namespace Go.Proofs.Ytolcaolmdfbfhaa
set_option linter.unusedSimpArgs false
set_option linter.unusedVariables false
open Go.RowKit

/-- The power of two at n. -/
def pwB (n : Nat) : UInt8 := UInt8.ofNat (pow 2 (n % 255))
/-- The product, the highest term first. -/
def prodP : Nat → List UInt8
  | 0 => [1]
  | j + 1 => addTo (prodP j ++ [0]) (prodP j) (pwB (j + 1)) 1 (j + 1)
/-- The product, the lowest term first. -/
def genR : Nat → List UInt8
  | 0 => [1]
  | j + 1 => trimL (timesTo (genR j) [pwB (j + 1), 1] (genR j).length)
theorem prodP_len : ∀ j, (prodP j).length = j + 1
  | 0 => rfl
  | j + 1 => by show (addTo _ _ _ _ _).length = _; rw [addTo_length, List.length_append, prodP_len j]; rfl
theorem getD_snoc0 (l : List UInt8) (m : Nat) : (l ++ [0]).getD m 0 = l.getD m 0 := by
  simp only [List.getD]
  by_cases h : m < l.length
  · rw [List.getElem?_append_left h]
  · rw [List.getElem?_append_right (by omega), List.getElem?_eq_none (by omega : l.length ≤ m)]
    by_cases h2 : m - l.length = 0
    · rw [h2]; rfl
    · rw [List.getElem?_eq_none (by simp; omega)]
theorem prodP_get (j m : Nat) : (prodP (j + 1)).getD m 0 = (prodP j).getD m 0 ^^^ (if 1 ≤ m ∧ m < j + 2 then mulB (pwB (j + 1)) ((prodP j).getD (m - 1) 0) else 0) := by
  show (addTo _ _ _ _ _).getD m 0 = _
  rw [addTo_get _ _ _ _ _ (by rw [List.length_append, prodP_len]; simp; omega), getD_snoc0]
  by_cases h : 1 ≤ m ∧ m < j + 2
  · rw [if_pos (by omega), if_pos h]
  · rw [if_neg (by omega), if_neg h, UInt8.xor_zero]
theorem prodP_head : ∀ j, (prodP j).getD 0 0 = 1
  | 0 => rfl
  | j + 1 => by rw [prodP_get, prodP_head j, if_neg (by omega), UInt8.xor_zero]
theorem getD_rev (l : List UInt8) (i : Nat) (h : i < l.length) : l.reverse.getD i 0 = l.getD (l.length - 1 - i) 0 := by
  simp only [List.getD]
  rw [List.getElem?_reverse h]
theorem timesTwo_get (p : List UInt8) (a : UInt8) (m : Nat) : ∀ i, i ≤ p.length → (timesTo p [a, 1] i).getD m 0 = (if m < i then mulB (p.getD m 0) a else 0) ^^^ (if 1 ≤ m ∧ m ≤ i then p.getD (m - 1) 0 else 0)
  | 0, _ => by
    rw [if_neg (by omega), if_neg (by omega)]
    show (List.replicate _ (0 : UInt8)).getD m 0 = _
    by_cases h : m < p.length + [a, 1].length
    · simp only [List.getD, List.getElem?_replicate, if_pos h]; rfl
    · rw [getD_out (by rw [List.length_replicate]; omega)]; rfl
  | i + 1, h => by
    have ih := timesTwo_get p a m i (by omega)
    show (addTo (timesTo p [a, 1] i) [a, 1] (p.getD i 0) i 2).getD m 0 = _
    rw [addTo_get _ _ _ _ _ (by rw [timesTo_length]; simp; omega), ih]
    by_cases h1 : m = i
    · subst h1
      have c1 : m ≤ m ∧ m < m + 2 := ⟨by omega, by omega⟩
      have c2 : ¬ m < m := by omega
      have c3 : m < m + 1 := by omega
      have e0 : ([a, 1] : List UInt8).getD (m - m) 0 = a := by rw [Nat.sub_self]; rfl
      rw [if_pos c1, if_neg c2, if_pos c3, e0]
      by_cases h2 : 1 ≤ m
      · have c4 : 1 ≤ m ∧ m ≤ m := ⟨h2, Nat.le_refl _⟩
        have c5 : 1 ≤ m ∧ m ≤ m + 1 := ⟨h2, by omega⟩
        rw [if_pos c4, if_pos c5, UInt8.zero_xor, UInt8.xor_comm]
      · have c4 : ¬ (1 ≤ m ∧ m ≤ m) := fun h => h2 h.1
        have c5 : ¬ (1 ≤ m ∧ m ≤ m + 1) := fun h => h2 h.1
        rw [if_neg c4, if_neg c5, UInt8.zero_xor, UInt8.zero_xor, UInt8.xor_zero]
    · by_cases h2 : m = i + 1
      · subst h2
        have c1 : i ≤ i + 1 ∧ i + 1 < i + 2 := ⟨by omega, by omega⟩
        have c2 : ¬ i + 1 < i := by omega
        have c3 : ¬ (1 ≤ i + 1 ∧ i + 1 ≤ i) := by omega
        have c4 : ¬ i + 1 < i + 1 := by omega
        have c5 : 1 ≤ i + 1 ∧ i + 1 ≤ i + 1 := ⟨by omega, by omega⟩
        have e0 : ([a, 1] : List UInt8).getD (i + 1 - i) 0 = 1 := by rw [show i + 1 - i = 1 from by omega]; rfl
        rw [if_pos c1, if_neg c2, if_neg c3, if_neg c4, if_pos c5, e0, mulB_comm, mulB_one, UInt8.zero_xor, UInt8.zero_xor, UInt8.zero_xor]
        rfl
      · have c1 : ¬ (i ≤ m ∧ m < i + 2) := by omega
        rw [if_neg c1]
        by_cases h3 : m < i
        · have c2 : m < i + 1 := by omega
          rw [if_pos h3, if_pos c2]
          by_cases h4 : 1 ≤ m
          · have c3 : 1 ≤ m ∧ m ≤ i := ⟨h4, by omega⟩
            have c4 : 1 ≤ m ∧ m ≤ i + 1 := ⟨h4, by omega⟩
            rw [if_pos c3, if_pos c4]
          · have c3 : ¬ (1 ≤ m ∧ m ≤ i) := fun h => h4 h.1
            have c4 : ¬ (1 ≤ m ∧ m ≤ i + 1) := fun h => h4 h.1
            rw [if_neg c3, if_neg c4]
        · have c2 : ¬ m < i + 1 := by omega
          have c3 : ¬ (1 ≤ m ∧ m ≤ i) := by omega
          have c4 : ¬ (1 ≤ m ∧ m ≤ i + 1) := by omega
          rw [if_neg h3, if_neg c2, if_neg c3, if_neg c4]
theorem one_ne : (1 : UInt8) ≠ 0 := by decide
/-- The two products are one, read from either side. -/
theorem gen_rev : ∀ j, genR j = (prodP j).reverse
  | 0 => rfl
  | j + 1 => by
    have ih := gen_rev j
    have hl : (genR j).length = j + 1 := by rw [ih, List.length_reverse, prodP_len]
    have hg : ∀ m, m < j + 1 → (genR j).getD m 0 = (prodP j).getD (j - m) 0 := fun m hm => by
      rw [ih, getD_rev _ _ (by rw [prodP_len]; exact hm), prodP_len]
      congr 1
    have ht : ∀ m, (timesTo (genR j) [pwB (j + 1), 1] (genR j).length).getD m 0 = (prodP (j + 1)).reverse.getD m 0 := fun m => by
      rw [timesTwo_get _ _ _ _ (Nat.le_refl _), hl]
      by_cases hm : m < j + 2
      · rw [getD_rev _ _ (by rw [prodP_len]; exact hm), prodP_len, show j + 1 + 1 - 1 - m = j + 1 - m from by omega, prodP_get]
        by_cases h1 : 1 ≤ m
        · rw [if_pos (show 1 ≤ m ∧ m ≤ j + 1 by omega), hg (m - 1) (by omega), show j - (m - 1) = j + 1 - m from by omega]
          by_cases h2 : m < j + 1
          · rw [if_pos h2, if_pos (by omega), hg m h2, show j + 1 - m - 1 = j - m from by omega, mulB_comm, UInt8.xor_comm]
          · rw [if_neg h2, if_neg (by omega), UInt8.zero_xor, UInt8.xor_zero]
        · obtain rfl : m = 0 := by omega
          rw [if_pos (by omega), if_neg (by omega), if_pos (by omega), hg 0 (by omega), getD_out (l := prodP j) (i := j + 1 - 0) (by rw [prodP_len]; omega), UInt8.xor_zero, UInt8.zero_xor, mulB_comm]
          congr 2
      · rw [if_neg (by omega), if_neg (by omega), getD_out (by rw [List.length_reverse, prodP_len]; omega), UInt8.xor_zero]
    have hz : ∀ k, j + 2 ≤ k → (prodP (j + 1)).reverse.getD k 0 = 0 := fun k hk => getD_out (by rw [List.length_reverse, prodP_len]; omega)
    have htop : (prodP (j + 1)).reverse.getD (j + 2 - 1) 0 ≠ 0 := by
      rw [getD_rev _ _ (by rw [prodP_len]; omega), prodP_len, show j + 1 + 1 - 1 - (j + 2 - 1) = 0 from by omega, prodP_head]
      exact one_ne
    show trimL _ = _
    apply list_eq
    · rw [trimL_len, List.length_reverse, prodP_len]
      exact tlen_of (fun k hk => by rw [ht]; exact hz k hk) (.inr (by rw [ht]; exact htop))
    · intro i _
      rw [trimL_get, ht]
theorem genR_len (j : Nat) : (genR j).length = j + 1 := by rw [gen_rev, List.length_reverse, prodP_len]
theorem genR_top (j : Nat) : (genR j).getD j 0 = 1 := by
  rw [gen_rev, getD_rev _ _ (by rw [prodP_len]; omega), prodP_len, show j + 1 - 1 - j = 0 from by omega, prodP_head]
theorem genR_last (j : Nat) : lastB (genR j) = 1 := by unfold lastB; rw [genR_len]; exact genR_top j
theorem genR_trim (j : Nat) : trimL (genR j) = genR j := by
  have : tlen (genR j) = j + 1 := tlen_of (fun k hk => getD_out (by rw [genR_len]; exact hk)) (.inr (by rw [show j + 1 - 1 = j from rfl, genR_top]; exact one_ne))
  show (genR j).take (tlen (genR j)) = _
  rw [this, List.take_of_length_le (by rw [genR_len]; omega)]
theorem inv_of_one : invB 1 = 1 := by
  have := mulB_inv one_ne
  rwa [mulB_comm, mulB_one] at this

/-! the register -/
def regStep (dv rest : List UInt8) (b : UInt8) : List UInt8 := addTo (rest.tail ++ [0]) dv (b ^^^ rest.getD 0 0) 0 dv.length
def regs (dv : List UInt8) (data : List UInt8) : List UInt8 := data.foldl (regStep dv) (List.replicate dv.length 0)
theorem regStep_len {dv rest : List UInt8} {b : UInt8} (h : rest.length = dv.length) (h0 : 0 < dv.length) : (regStep dv rest b).length = dv.length := by
  unfold regStep
  rw [addTo_length, List.length_append, List.length_tail, h]
  simp
  omega
theorem getD_tail (l : List UInt8) (i : Nat) : l.tail.getD i 0 = l.getD (i + 1) 0 := by
  cases l <;> simp [List.getD]
theorem regStep_get {dv rest : List UInt8} {b : UInt8} (h : rest.length = dv.length) {i : Nat} (hi : i < dv.length) : (regStep dv rest b).getD i 0 = rest.getD (i + 1) 0 ^^^ mulB (b ^^^ rest.getD 0 0) (dv.getD i 0) := by
  unfold regStep
  rw [addTo_get _ _ _ _ _ (by rw [List.length_append, List.length_tail, h]; simp; omega), if_pos (by omega), getD_snoc0, getD_tail, Nat.sub_zero]
theorem regs_len (dv : List UInt8) (h0 : 0 < dv.length) : ∀ (data rest : List UInt8), rest.length = dv.length → (data.foldl (regStep dv) rest).length = dv.length
  | [], rest, h => h
  | b :: data, rest, h => regs_len dv h0 data _ (regStep_len h h0)
/-- The document's steps and the register's. -/
theorem lfsr (g dv up : List UInt8) (c : Nat) (hg : g.length = c + 1) (hd : dv.length = c) (hc : 0 < c) (htop : g.getD c 0 = 1) (hdv : ∀ i, i < c → dv.getD i 0 = g.getD (c - 1 - i) 0) (data : List UInt8)
    (hup : ∀ j, j < data.length → up.getD (c + j) 0 = data.getD (data.length - 1 - j) 0) :
    ∀ k, k ≤ data.length → ∀ (s r rest : List UInt8), r.length = data.length + c → rest.length = c → (∀ i, i < c → r.getD (k + i) 0 = rest.getD (c - 1 - i) 0 ^^^ up.getD (k + i) 0) → (∀ j, j < k → r.getD j 0 = up.getD j 0) → (∀ j, k + c ≤ j → j < data.length + c → r.getD j 0 = 0) → k ≤ data.length →
      (∀ i, i < c → (overR g 1 k (s, r)).2.getD i 0 = ((data.drop (data.length - k)).foldl (regStep dv) rest).getD (c - 1 - i) 0 ^^^ up.getD i 0) ∧ (∀ j, c ≤ j → (overR g 1 k (s, r)).2.getD j 0 = 0)
  | 0, _, s, r, rest, hrl, hl, h1, h2, h3, _ => by
    rw [Nat.sub_zero, List.drop_length]
    refine ⟨fun i hi => ?_, fun j hj => ?_⟩
    · have := h1 i hi
      rw [Nat.zero_add] at this
      exact this
    · by_cases hj2 : j < data.length + c
      · exact h3 j (by omega) hj2
      · exact getD_out (by show r.length ≤ j; omega)
  | k + 1, hk, s, r, rest, hrl, hl, h1, h2, h3, _ => by
    have hdrop : data.drop (data.length - (k + 1)) = data.getD (data.length - 1 - k) 0 :: data.drop (data.length - k) := by
      rw [List.drop_eq_getElem_cons (by omega)]
      congr 1
      · rw [List.getD, List.getElem?_eq_getElem (by omega)]
        simp only [Option.getD_some]
        congr 1
        omega
      · congr 1
        omega
    rw [hdrop]
    show (∀ i, i < c → (overR g 1 k (overS g 1 k (s, r))).2.getD i 0 = _) ∧ (∀ j, c ≤ j → (overR g 1 k (overS g 1 k (s, r))).2.getD j 0 = 0)
    have hkk : overK g 1 k (s, r) = data.getD (data.length - 1 - k) 0 ^^^ rest.getD 0 0 := by
      unfold overK
      rw [mulB_comm, mulB_one, hg, show k + (c + 1) - 1 = k + 1 + (c - 1) from by omega]
      have := h1 (c - 1) (by omega)
      show r.getD _ 0 = _
      rw [this, show c - 1 - (c - 1) = 0 from by omega, show k + 1 + (c - 1) = c + k from by omega, hup k (by omega), UInt8.xor_comm]
    have hS : overS g 1 k (s, r) = (s.set k (overK g 1 k (s, r)), addTo r g (overK g 1 k (s, r)) k (c + 1)) := by
      unfold overS
      rw [hg]
    rw [hS, hkk]
    generalize hb : data.getD (data.length - 1 - k) 0 = b
    refine lfsr g dv up c hg hd hc htop hdv data hup k (by omega) (s.set k (b ^^^ rest.getD 0 0)) (addTo r g (b ^^^ rest.getD 0 0) k (c + 1)) (regStep dv rest b) (by rw [addTo_length]; exact hrl) (by rw [regStep_len (by omega) (by omega)]; exact hd) (fun i hi => ?_) (fun j hj => ?_) (fun j hj hj2 => ?_) (by omega)
    · rw [addTo_get _ _ _ _ _ (by omega), if_pos (by omega), regStep_get (by omega) (by omega), hdv _ (by omega), show k + i - k = i from by omega, show c - 1 - (c - 1 - i) = i from by omega, show c - 1 - i + 1 = c - i from by omega]
      by_cases h0 : i = 0
      · subst h0
        rw [h2 (k + 0) (by omega), getD_out (l := rest) (i := c - 0) (by omega), UInt8.zero_xor, UInt8.xor_comm]
      · have := h1 (i - 1) (by omega)
        rw [show k + 1 + (i - 1) = k + i from by omega, show c - 1 - (i - 1) = c - i from by omega] at this
        rw [this, UInt8.xor_assoc, UInt8.xor_assoc, UInt8.xor_comm (up.getD (k + i) 0)]
    · rw [addTo_get _ _ _ _ _ (by omega), if_neg (by omega)]
      exact h2 j (by omega)
    · rw [addTo_get _ _ _ _ _ (by omega)]
      by_cases e : j = k + c
      · subst e
        rw [if_pos (by omega), show k + c - k = c from by omega, htop]
        have := h1 (c - 1) (by omega)
        rw [show k + 1 + (c - 1) = k + c from by omega, show c - 1 - (c - 1) = 0 from by omega, show k + c = c + k from by omega, hup k (by omega), hb] at this
        rw [show k + c = c + k from by omega, this, mulB_comm, mulB_one, UInt8.xor_comm b, UInt8.xor_self]
      · rw [if_neg (by omega)]
        exact h3 j (by omega) hj2

/-- What is copied over the first terms. -/
def copyTo (s rest : List UInt8) : Nat → List UInt8
  | 0 => s
  | j + 1 => (copyTo s rest j).set j (rest.getD j 0)
theorem copyTo_len (s rest : List UInt8) (j : Nat) : (copyTo s rest j).length = s.length := by
  induction j with
  | zero => rfl
  | succ j ih => simp [copyTo, ih]
theorem copyTo_get (s rest : List UInt8) (m : Nat) : ∀ j, j ≤ s.length → (copyTo s rest j).getD m 0 = if m < j then rest.getD m 0 else s.getD m 0
  | 0, _ => by rw [if_neg (by omega)]; rfl
  | j + 1, h => by
    show ((copyTo s rest j).set j _).getD m 0 = _
    rw [getD_set _ _ _ _ (by rw [copyTo_len]; omega), copyTo_get s rest m j (by omega)]
    by_cases e : j = m
    · subst e
      rw [if_pos rfl, if_pos (by omega)]
    · rw [if_neg e]
      by_cases h1 : m < j
      · rw [if_pos h1, if_pos (by omega)]
      · rw [if_neg h1, if_neg (by omega)]
def upOf (data : List UInt8) (c : Nat) : List UInt8 := List.replicate c 0 ++ data.reverse
theorem upOf_len (data : List UInt8) (c : Nat) : (upOf data c).length = data.length + c := by simp [upOf]; omega
/-- A code word. -/
def encL (data : List UInt8) (c : Nat) : List UInt8 := data ++ regs (prodP c).tail data
theorem tail_len (c : Nat) : (prodP c).tail.length = c := by rw [List.length_tail, prodP_len]; rfl
theorem encL_len (data : List UInt8) {c : Nat} (hc : 0 < c) : (encL data c).length = data.length + c := by
  unfold encL regs
  rw [List.length_append, regs_len _ (by rw [tail_len]; exact hc) _ _ (by rw [List.length_replicate]), tail_len]
theorem up_low (data : List UInt8) {c i : Nat} (h : i < c) : (upOf data c).getD i 0 = 0 := by
  unfold upOf
  simp only [List.getD]
  rw [List.getElem?_append_left (by simpa using h), List.getElem?_replicate, if_pos h]
  rfl
theorem up_high (data : List UInt8) {c j : Nat} (h : j < data.length) : (upOf data c).getD (c + j) 0 = data.getD (data.length - 1 - j) 0 := by
  rw [← getD_rev _ _ h]
  unfold upOf
  simp only [List.getD]
  rw [List.getElem?_append_right (by simp), List.length_replicate, show c + j - c = j from by omega]
/-- The document's word is the program's. -/
theorem enc_both (data : List UInt8) (c : Nat) (hc : 0 < c) : (copyTo (upOf data c) (trimL (overE (genR c) (upOf data c)).2) (tlen (overE (genR c) (upOf data c)).2)).reverse = encL data c ∧ tlen (overE (genR c) (upOf data c)).2 ≤ c := by
  have hE : overE (genR c) (upOf data c) = overR (genR c) 1 data.length (List.replicate (upOf data c).length 0, upOf data c) := by
    unfold overE
    rw [genR_last, inv_of_one, genR_len, upOf_len, show data.length + c + 1 - (c + 1) = data.length from by omega]
  obtain ⟨hL, hZ⟩ := lfsr (genR c) (prodP c).tail (upOf data c) c (genR_len c) (tail_len c) hc (genR_top c)
    (fun i hi => by
      rw [getD_tail, gen_rev, getD_rev _ _ (by rw [prodP_len]; omega), prodP_len]
      congr 1
      omega) data (fun j hj => up_high data hj) data.length (Nat.le_refl _) (List.replicate (upOf data c).length 0) (upOf data c) (List.replicate c 0) (upOf_len data c) (by simp)
    (fun i hi => by
      have : (List.replicate c (0 : UInt8)).getD (c - 1 - i) 0 = 0 := by simp only [List.getD, List.getElem?_replicate, if_pos (show c - 1 - i < c by omega)]; rfl
      rw [this, UInt8.zero_xor])
    (fun j _ => rfl) (fun j h1 h2 => by omega) (Nat.le_refl _)
  rw [← hE, Nat.sub_self, List.drop_zero] at hL
  rw [← hE] at hZ
  generalize overE (genR c) (upOf data c) = F at *
  have ht : tlen F.2 ≤ c := tlen_lt (fun k hk => hZ k hk)
  have hR : regs (prodP c).tail data = data.foldl (regStep (prodP c).tail) (List.replicate c 0) := by unfold regs; rw [tail_len]
  refine ⟨?_, ht⟩
  apply list_eq
  · rw [List.length_reverse, copyTo_len, upOf_len, encL_len data hc]
  · intro m hm
    rw [List.length_reverse, copyTo_len, upOf_len] at hm
    rw [getD_rev _ _ (by rw [copyTo_len, upOf_len]; exact hm), copyTo_len, upOf_len, copyTo_get _ _ _ _ (by rw [upOf_len]; omega)]
    unfold encL
    by_cases h1 : m < data.length
    · rw [if_neg (by omega), show data.length + c - 1 - m = c + (data.length - 1 - m) from by omega, up_high data (by omega), show data.length - 1 - (data.length - 1 - m) = m from by omega]
      simp only [List.getD]
      rw [List.getElem?_append_left h1]
    · have e : (data ++ regs (prodP c).tail data).getD m 0 = (regs (prodP c).tail data).getD (m - data.length) 0 := by
        simp only [List.getD]
        rw [List.getElem?_append_right (by omega)]
      rw [e, hR]
      have h2 := hL (data.length + c - 1 - m) (by omega)
      rw [up_low data (by omega), UInt8.xor_zero, show c - 1 - (data.length + c - 1 - m) = m - data.length from by omega] at h2
      rw [← h2]
      split
      · rw [trimL_get]
      · rw [up_low data (by omega), tlen_out F.2 _ (by omega)]
end Go.Proofs.Ytolcaolmdfbfhaa
