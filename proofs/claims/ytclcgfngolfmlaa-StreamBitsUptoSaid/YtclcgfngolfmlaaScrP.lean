/-
  Bits of bytes, and the row that scrambles, plainly. No program is named here.
-/
import Derived.Test.YtclcgfngolfmlaaBase
namespace Go.Proofs.Ytclcgfngolfmlaa
set_option linter.unusedSimpArgs false
set_option linter.unusedVariables false
open Go.RowKit

def bitAt (x : UInt8) (j : Nat) : UInt8 := UInt8.ofNat (x.toNat / 2 ^ (7 - j) % 2)
def bitsN (l : List UInt8) (k : Nat) : List UInt8 := (List.range k).map fun i => bitAt (l.getD (i / 8) 0) (i % 8)
def bitsL (l : List UInt8) : List UInt8 := bitsN l (8 * l.length)
theorem bitsN_length (l : List UInt8) (k : Nat) : (bitsN l k).length = k := by simp [bitsN]
theorem bitsN_succ (l : List UInt8) (k : Nat) : bitsN l (k + 1) = bitsN l k ++ [bitAt (l.getD (k / 8) 0) (k % 8)] := by
  simp [bitsN, List.range_succ]
theorem bitsL_length (l : List UInt8) : (bitsL l).length = 8 * l.length := bitsN_length _ _
theorem bitAt_nat (x : UInt8) (j : Nat) : (bitAt x j).toNat = x.toNat / 2 ^ (7 - j) % 2 := by
  rw [bitAt, UInt8.toNat_ofNat']
  omega

/-- The eight newest bits, the newest lowest: one step of the row. -/
def rstep (r : Nat) : Nat := r * 2 % 256 + (r + r / 4 + r / 16 + r / 128) % 2
def rowN : Nat → Nat
  | 0 => 255
  | n + 1 => rstep (rowN n)
theorem rstep_lt (r : Nat) : rstep r < 256 := by unfold rstep; omega
theorem rowN_lt : ∀ n, rowN n < 256
  | 0 => by decide
  | n + 1 => rstep_lt _
/-- The n-th bit of the row. -/
def rbit (n : Nat) : Nat := rowN n / 128 % 2
theorem rbit_lt (n : Nat) : rbit n < 2 := Nat.mod_lt _ (by decide)
theorem rstep_shift (r : Nat) {k : Nat} (h : k ≤ 6) : rstep r / 2 ^ (k + 1) % 2 = r / 2 ^ k % 2 := by
  have hk : k = 0 ∨ k = 1 ∨ k = 2 ∨ k = 3 ∨ k = 4 ∨ k = 5 ∨ k = 6 := by omega
  unfold rstep
  generalize hb : (r + r / 4 + r / 16 + r / 128) % 2 = b
  have : b < 2 := by omega
  clear hb
  rcases hk with rfl | rfl | rfl | rfl | rfl | rfl | rfl <;> simp <;> omega
theorem row_bit : ∀ (j m : Nat), j ≤ 7 → rowN m / 2 ^ (7 - j) % 2 = rbit (m + j)
  | 0, m, _ => rfl
  | j + 1, m, h => by
    have e := row_bit j (m + 1) (by omega)
    have s := rstep_shift (rowN m) (k := 7 - (j + 1)) (by omega)
    rw [show 7 - (j + 1) + 1 = 7 - j from by omega] at s
    rw [← s, show m + (j + 1) = m + 1 + j from by omega, ← e]
    rfl
theorem rbit_first {n : Nat} (h : n < 8) : rbit n = 1 := by
  have e := row_bit n 0 (by omega)
  rw [Nat.zero_add] at e
  rw [← e]
  have hk : n = 0 ∨ n = 1 ∨ n = 2 ∨ n = 3 ∨ n = 4 ∨ n = 5 ∨ n = 6 ∨ n = 7 := by omega
  rcases hk with rfl | rfl | rfl | rfl | rfl | rfl | rfl | rfl <;> rfl
theorem rbit_next (n : Nat) : rbit (n + 8) = (rbit (n + 7) + rbit (n + 5) + rbit (n + 3) + rbit n) % 2 := by
  have e8 := row_bit 7 (n + 1) (by omega)
  have e7 := row_bit 7 n (by omega)
  have e5 := row_bit 5 n (by omega)
  have e3 := row_bit 3 n (by omega)
  have e0 := row_bit 0 n (by omega)
  rw [show n + 1 + 7 = n + 8 from by omega] at e8
  rw [Nat.add_zero] at e0
  rw [← e8, ← e7, ← e5, ← e3, ← e0]
  show rstep (rowN n) / 2 ^ 0 % 2 = _
  unfold rstep
  generalize rowN n = r
  simp
  omega
def rb (n : Nat) : UInt8 := UInt8.ofNat (rbit n)
theorem rb_first {n : Nat} (h : n < 8) : rb n = 1 := by rw [rb, rbit_first h]; rfl
theorem rb_next (n : Nat) : rb (n + 8) = rb (n + 7) ^^^ rb (n + 5) ^^^ rb (n + 3) ^^^ rb n := by
  unfold rb
  rw [rbit_next]
  have pa := rbit_lt (n + 7)
  have pb := rbit_lt (n + 5)
  have pc := rbit_lt (n + 3)
  have pd := rbit_lt n
  generalize rbit (n + 7) = a at *
  generalize rbit (n + 5) = b at *
  generalize rbit (n + 3) = c at *
  generalize rbit n = d at *
  have ha : a = 0 ∨ a = 1 := by omega
  have hb : b = 0 ∨ b = 1 := by omega
  have hc : c = 0 ∨ c = 1 := by omega
  have hd : d = 0 ∨ d = 1 := by omega
  rcases ha with rfl | rfl <;> rcases hb with rfl | rfl <;> rcases hc with rfl | rfl <;> rcases hd with rfl | rfl <;> rfl
def rowL (k : Nat) : List UInt8 := (List.range k).map rb
theorem rowL_length (k : Nat) : (rowL k).length = k := by simp [rowL]
theorem rowL_succ (k : Nat) : rowL (k + 1) = rowL k ++ [rb k] := by simp [rowL, List.range_succ]
theorem rowL_at {k i : Nat} (h : i < k) : (rowL k).getD i 0 = rb i := by simp [rowL, List.getD, h]
theorem rowL_eight : rowL 8 = [1, 1, 1, 1, 1, 1, 1, 1] := by decide

/-- The upper j of eight bits. -/
def topN (j r : Nat) : Nat := r / 2 ^ (8 - j) * 2 ^ (8 - j)
theorem topN_zero {r : Nat} (h : r < 256) : topN 0 r = 0 := by unfold topN; simp; omega
theorem topN_eight (r : Nat) : topN 8 r = r := by unfold topN; simp
theorem topN_succ : ∀ r : Fin 256, ∀ j : Fin 8, UInt8.ofNat (topN (j.val + 1) r.val) = UInt8.ofNat (topN j.val r.val) ^^^ UInt8.ofNat (r.val / 2 ^ (7 - j.val) % 2 * 2 ^ (7 - j.val)) := by decide +kernel
/-- The bytes behind k bits of the row. -/
def scrAt (l : List UInt8) (k i : Nat) : UInt8 := l.getD i 0 ^^^ UInt8.ofNat (topN (min 8 (k - 8 * i)) (rowN (8 * i)))
def scrN (l : List UInt8) (k : Nat) : List UInt8 := (List.range l.length).map (scrAt l k)
/-- The bytes, the first m of which are scrambled. -/
def scrM (l : List UInt8) (m : Nat) : List UInt8 := (List.range l.length).map fun i => if i < m then l.getD i 0 ^^^ UInt8.ofNat (rowN (8 * i)) else l.getD i 0
def scrL (l : List UInt8) : List UInt8 := scrM l l.length
theorem scrN_length (l : List UInt8) (k : Nat) : (scrN l k).length = l.length := by simp [scrN]
theorem scrM_length (l : List UInt8) (k : Nat) : (scrM l k).length = l.length := by simp [scrM]
theorem map_range_getD (l : List UInt8) : (List.range l.length).map (fun i => l.getD i 0) = l := by
  apply List.ext_getElem
  · simp
  · intro i h1 h2
    simp [List.getD, h2]
theorem scrM_zero (l : List UInt8) : scrM l 0 = l := by
  unfold scrM
  simp only [Nat.not_lt_zero, if_false]
  exact map_range_getD l
theorem scrN_zero (l : List UInt8) : scrN l 0 = l := by
  have e : scrN l 0 = (List.range l.length).map (fun i => l.getD i 0) := by
    unfold scrN
    apply List.map_congr_left
    intro i _
    rw [scrAt, Nat.zero_sub, Nat.min_eq_right (by omega), topN_zero (rowN_lt _)]
    simp
  rw [e, map_range_getD]
theorem scrN_all (l : List UInt8) : scrN l (8 * l.length) = scrL l := by
  unfold scrN scrL scrM
  apply List.map_congr_left
  intro i hi
  have hi : i < l.length := by simpa using hi
  rw [if_pos hi, scrAt, Nat.min_eq_left (by omega), topN_eight]
theorem scrM_at {l : List UInt8} {m : Nat} (h : m < l.length) : (scrM l m).getD m 0 = l.getD m 0 := by
  simp [scrM, List.getD, h]
theorem scrM_succ {l : List UInt8} {m : Nat} (h : m < l.length) : scrM l (m + 1) = (scrM l m).set m (l.getD m 0 ^^^ UInt8.ofNat (rowN (8 * m))) := by
  apply List.ext_getElem
  · simp [scrM]
  · intro i h1 h2
    rw [List.getElem_set]
    simp only [scrM, List.getElem_map, List.getElem_range]
    by_cases e : m = i
    · subst e
      simp
    · rw [if_neg e]
      by_cases h3 : i < m
      · rw [if_pos h3, if_pos (by omega)]
      · rw [if_neg h3, if_neg (by omega)]
theorem scrN_at {l : List UInt8} {k : Nat} (h : k / 8 < l.length) : (scrN l k).getD (k / 8) 0 = scrAt l k (k / 8) := by
  simp [scrN, List.getD, h]
theorem scrN_succ {l : List UInt8} {k : Nat} (h : k / 8 < l.length) : scrN l (k + 1) = (scrN l k).set (k / 8) (scrAt l k (k / 8) ^^^ UInt8.ofNat (rbit k * 2 ^ (7 - k % 8))) := by
  apply List.ext_getElem
  · simp [scrN]
  · intro i h1 h2
    rw [List.getElem_set]
    simp only [scrN, List.getElem_map, List.getElem_range]
    by_cases e : k / 8 = i
    · rw [if_pos e, e]
      unfold scrAt
      have e1 : min 8 (k + 1 - 8 * i) = k % 8 + 1 := by omega
      have e2 : min 8 (k - 8 * i) = k % 8 := by omega
      have e3 := row_bit (k % 8) (8 * i) (by omega)
      rw [show 8 * i + k % 8 = k from by omega] at e3
      have e4 := topN_succ ⟨rowN (8 * i), rowN_lt _⟩ ⟨k % 8, by omega⟩
      simp only at e4
      rw [e1, e2, e4, e3, UInt8.xor_assoc]
    · rw [if_neg e]
      unfold scrAt
      have e1 : min 8 (k + 1 - 8 * i) = min 8 (k - 8 * i) := by omega
      rw [e1]
end Go.Proofs.Ytclcgfngolfmlaa
