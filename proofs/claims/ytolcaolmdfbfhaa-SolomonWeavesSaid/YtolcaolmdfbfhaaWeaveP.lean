/-
  Code words woven, plainly. No program is named here.
-/
import Derived.Test.YtolcaolmdfbfhaaSolP
namespace Go.Proofs.Ytolcaolmdfbfhaa
set_option linter.unusedSimpArgs false
set_option linter.unusedVariables false
open Go.RowKit

/-- What belongs to row j of d rows: its first k bytes. -/
def rowL (l : List UInt8) (d j k : Nat) : List UInt8 := (List.range k).map fun i => l.getD (i * d + j) 0
theorem rowL_len (l : List UInt8) (d j k : Nat) : (rowL l d j k).length = k := by simp [rowL]
theorem rowL_next (l : List UInt8) (d j k : Nat) : rowL l d j (k + 1) = rowL l d j k ++ [l.getD (k * d + j) 0] := by simp [rowL, List.range_succ]
theorem rowL_get (l : List UInt8) (d j : Nat) {k i : Nat} (h : i < k) : (rowL l d j k).getD i 0 = l.getD (i * d + j) 0 := by
  simp [rowL, List.getD, h]
/-- Bytes lo, lo + 1, .. of ws are laid into row j. -/
def colTo (ws : List UInt8) (d j lo : Nat) (B : List UInt8) : Nat → List UInt8
  | 0 => B
  | t + 1 => (colTo ws d j lo B t).set ((lo + t) * d + j) (ws.getD (lo + t) 0)
theorem colTo_len (ws : List UInt8) (d j lo : Nat) (B : List UInt8) (t : Nat) : (colTo ws d j lo B t).length = B.length := by
  induction t with
  | zero => rfl
  | succ t ih => simp [colTo, ih]
theorem place_iff {d j q m : Nat} (hj : j < d) : q * d + j = m ↔ m % d = j ∧ m / d = q := by
  constructor
  · rintro rfl
    refine ⟨?_, ?_⟩
    · rw [Nat.add_comm, Nat.add_mul_mod_self_right, Nat.mod_eq_of_lt hj]
    · rw [Nat.add_comm, Nat.add_mul_div_right _ _ (by omega), Nat.div_eq_of_lt hj, Nat.zero_add]
  · rintro ⟨h1, h2⟩
    have := Nat.div_add_mod m d
    rw [h1, h2, Nat.mul_comm] at this
    exact this
theorem place_lt {d j q N : Nat} (hj : j < d) (h : q < N) : q * d + j < N * d := by
  have h1 : (q + 1) * d ≤ N * d := Nat.mul_le_mul_right _ h
  rw [Nat.succ_mul] at h1
  omega
theorem colTo_get (ws : List UInt8) {d j lo : Nat} (B : List UInt8) {T : Nat} (hj : j < d) (hB : B.length = T * d) (m : Nat) : ∀ t, lo + t ≤ T → (colTo ws d j lo B t).getD m 0 = if m % d = j ∧ lo ≤ m / d ∧ m / d < lo + t then ws.getD (m / d) 0 else B.getD m 0
  | 0, _ => by rw [if_neg (by omega)]; rfl
  | t + 1, h => by
    show ((colTo ws d j lo B t).set ((lo + t) * d + j) _).getD m 0 = _
    rw [getD_set _ _ _ _ (by rw [colTo_len, hB]; exact place_lt hj (by omega)), colTo_get ws B hj hB m t (by omega)]
    by_cases e : (lo + t) * d + j = m
    · obtain ⟨h1, h2⟩ := (place_iff hj).1 e
      have c1 : m % d = j ∧ lo ≤ m / d ∧ m / d < lo + (t + 1) := ⟨h1, by omega, by omega⟩
      rw [if_pos e, if_pos c1, h2]
    · rw [if_neg e]
      have hn : ¬ (m % d = j ∧ m / d = lo + t) := fun h => e ((place_iff hj).2 h)
      by_cases h1 : m % d = j ∧ lo ≤ m / d ∧ m / d < lo + t
      · have c1 : m % d = j ∧ lo ≤ m / d ∧ m / d < lo + (t + 1) := ⟨h1.1, h1.2.1, by omega⟩
        rw [if_pos h1, if_pos c1]
      · have c1 : ¬ (m % d = j ∧ lo ≤ m / d ∧ m / d < lo + (t + 1)) := fun h2 => by
          by_cases h3 : m / d = lo + t
          · exact hn ⟨h2.1, h3⟩
          · exact h1 ⟨h2.1, h2.2.1, by omega⟩
        rw [if_neg h1, if_neg c1]
/-- The program's block, when J rows are laid. -/
def progW (l : List UInt8) (d k c : Nat) : Nat → List UInt8
  | 0 => List.replicate (k * d + d * c) 0
  | J + 1 => colTo (encL (rowL l d J k) c) d J 0 (progW l d k c J) (k + c)
def refW (l : List UInt8) (d k c : Nat) : Nat → List UInt8
  | 0 => l ++ List.replicate (d * c) 0
  | J + 1 => colTo (encL (rowL l d J k) c) d J k (refW l d k c J) c
theorem progW_len (l : List UInt8) (d k c J : Nat) : (progW l d k c J).length = (k + c) * d := by
  induction J with
  | zero => simp [progW]; rw [Nat.add_mul, Nat.mul_comm d c]
  | succ J ih => simp [progW, colTo_len, ih]
theorem refW_len (l : List UInt8) (d k c J : Nat) (hl : l.length = k * d) : (refW l d k c J).length = (k + c) * d := by
  induction J with
  | zero => simp [refW, hl]; rw [Nat.add_mul, Nat.mul_comm d c]
  | succ J ih => simp [refW, colTo_len, ih]
theorem progW_get (l : List UInt8) (d k c m : Nat) (hm : m < (k + c) * d) : ∀ J, J ≤ d → (progW l d k c J).getD m 0 = if m % d < J then (encL (rowL l d (m % d) k) c).getD (m / d) 0 else 0
  | 0, _ => by
    rw [if_neg (by omega)]
    have e : k * d + d * c = (k + c) * d := by rw [Nat.add_mul, Nat.mul_comm d c]
    show (List.replicate _ (0 : UInt8)).getD m 0 = 0
    simp only [List.getD, List.getElem?_replicate, e, if_pos hm]
    rfl
  | J + 1, h => by
    have hq : m / d < k + c := (Nat.div_lt_iff_lt_mul (by omega)).2 hm
    show (colTo _ d J 0 _ (k + c)).getD m 0 = _
    rw [colTo_get _ _ (by omega) (progW_len l d k c J) m (k + c) (by omega), progW_get l d k c m hm J (by omega)]
    by_cases e : m % d = J
    · have c1 : m % d = J ∧ 0 ≤ m / d ∧ m / d < 0 + (k + c) := ⟨e, Nat.zero_le _, by rw [Nat.zero_add]; exact hq⟩
      rw [if_pos c1, if_pos (by omega), e]
    · have c1 : ¬ (m % d = J ∧ 0 ≤ m / d ∧ m / d < 0 + (k + c)) := fun h => e h.1
      rw [if_neg c1]
      by_cases h2 : m % d < J
      · rw [if_pos h2, if_pos (by omega)]
      · rw [if_neg h2, if_neg (by omega)]
theorem refW_get (l : List UInt8) (d k c m : Nat) (hl : l.length = k * d) (hm : m < (k + c) * d) : ∀ J, J ≤ d → (refW l d k c J).getD m 0 = if m % d < J ∧ k ≤ m / d then (encL (rowL l d (m % d) k) c).getD (m / d) 0 else l.getD m 0
  | 0, _ => by
    rw [if_neg (by omega)]
    show (l ++ List.replicate _ (0 : UInt8)).getD m 0 = l.getD m 0
    simp only [List.getD]
    by_cases h : m < l.length
    · rw [List.getElem?_append_left h]
    · rw [List.getElem?_append_right (by omega), List.getElem?_eq_none (by omega : l.length ≤ m), List.getElem?_replicate]
      split <;> rfl
  | J + 1, h => by
    have hq : m / d < k + c := (Nat.div_lt_iff_lt_mul (by omega)).2 hm
    show (colTo _ d J k _ c).getD m 0 = _
    rw [colTo_get _ _ (by omega) (refW_len l d k c J hl) m c (by omega), refW_get l d k c m hl hm J (by omega)]
    by_cases e : m % d = J
    · by_cases h3 : k ≤ m / d
      · have c1 : m % d = J ∧ k ≤ m / d ∧ m / d < k + c := ⟨e, h3, hq⟩
        have c2 : m % d < J + 1 ∧ k ≤ m / d := ⟨by omega, h3⟩
        rw [if_pos c1, if_pos c2, e]
      · have c1 : ¬ (m % d = J ∧ k ≤ m / d ∧ m / d < k + c) := fun h => h3 h.2.1
        have c2 : ¬ (m % d < J + 1 ∧ k ≤ m / d) := fun h => h3 h.2
        have c3 : ¬ (m % d < J ∧ k ≤ m / d) := fun h => h3 h.2
        rw [if_neg c1, if_neg c2, if_neg c3]
    · have c1 : ¬ (m % d = J ∧ k ≤ m / d ∧ m / d < k + c) := fun h => e h.1
      rw [if_neg c1]
      by_cases h2 : m % d < J ∧ k ≤ m / d
      · have c2 : m % d < J + 1 ∧ k ≤ m / d := ⟨by omega, h2.2⟩
        rw [if_pos h2, if_pos c2]
      · have c2 : ¬ (m % d < J + 1 ∧ k ≤ m / d) := fun h => h2 ⟨by omega, h.2⟩
        rw [if_neg h2, if_neg c2]
/-- The two blocks are one. -/
theorem weave_both (l : List UInt8) (d k c : Nat) (hd : 0 < d) (hl : l.length = k * d) : refW l d k c d = progW l d k c d := by
  apply list_eq
  · rw [refW_len l d k c d hl, progW_len]
  · intro m hm
    rw [refW_len l d k c d hl] at hm
    rw [refW_get l d k c m hl hm d (Nat.le_refl _), progW_get l d k c m hm d (Nat.le_refl _)]
    have h1 := Nat.mod_lt m hd
    rw [if_pos h1]
    by_cases h2 : k ≤ m / d
    · rw [if_pos ⟨h1, h2⟩]
    · have c1 : ¬ (m % d < d ∧ k ≤ m / d) := fun h => h2 h.2
      rw [if_neg c1]
      have e : (encL (rowL l d (m % d) k) c).getD (m / d) 0 = (rowL l d (m % d) k).getD (m / d) 0 := by
        unfold encL
        simp only [List.getD]
        rw [List.getElem?_append_left (by rw [rowL_len]; omega)]
      rw [e, rowL_get _ _ _ (by omega), (place_iff h1).2 ⟨rfl, rfl⟩]
end Go.Proofs.Ytolcaolmdfbfhaa
