/-
  Quotients and rests of polynomials, plainly. No program is named here.
-/
import Derived.Test.YtclcgfngolfmlaaPolyP
namespace Go.Proofs.Ytclcgfngolfmlaa
set_option linter.unusedSimpArgs false
set_option linter.unusedVariables false
open Go.RowKit

def invB (b : UInt8) : UInt8 := UInt8.ofNat (pow b.toNat 254)
theorem invB_nat (b : UInt8) : (invB b).toNat = pow b.toNat 254 := by
  have := pow_lt b.toNat_lt 254
  rw [invB, UInt8.toNat_ofNat']
  omega
/-- The powers of two. -/
def alog : List Nat := [1, 2, 4, 8, 16, 32, 64, 128, 135, 137, 149, 173, 221, 61, 122, 244, 111, 222, 59, 118, 236, 95, 190, 251, 113, 226, 67, 134, 139, 145, 165, 205, 29, 58, 116, 232, 87, 174, 219, 49, 98, 196, 15, 30, 60, 120, 240, 103, 206, 27, 54, 108, 216, 55, 110, 220, 63, 126, 252, 127, 254, 123, 246, 107, 214, 43, 86, 172, 223, 57, 114, 228, 79, 158, 187, 241, 101, 202, 19, 38, 76, 152, 183, 233, 85, 170, 211, 33, 66, 132, 143, 153, 181, 237, 93, 186, 243, 97, 194, 3, 6, 12, 24, 48, 96, 192, 7, 14, 28, 56, 112, 224, 71, 142, 155, 177, 229, 77, 154, 179, 225, 69, 138, 147, 161, 197, 13, 26, 52, 104, 208, 39, 78, 156, 191, 249, 117, 234, 83, 166, 203, 17, 34, 68, 136, 151, 169, 213, 45, 90, 180, 239, 89, 178, 227, 65, 130, 131, 129, 133, 141, 157, 189, 253, 125, 250, 115, 230, 75, 150, 171, 209, 37, 74, 148, 175, 217, 53, 106, 212, 47, 94, 188, 255, 121, 242, 99, 198, 11, 22, 44, 88, 176, 231, 73, 146, 163, 193, 5, 10, 20, 40, 80, 160, 199, 9, 18, 36, 72, 144, 167, 201, 21, 42, 84, 168, 215, 41, 82, 164, 207, 25, 50, 100, 200, 23, 46, 92, 184, 247, 105, 210, 35, 70, 140, 159, 185, 245, 109, 218, 51, 102, 204, 31, 62, 124, 248, 119, 238, 91, 182, 235, 81, 162, 195]
theorem alog_ok : (List.range 254).all (fun i => mul (alog.getD i 0) 2 == alog.getD (i + 1) 0) = true := by decide +kernel
theorem alog_end : mul (alog.getD 254 0) 2 = 1 := by decide +kernel
theorem alog_all : (List.range 256).all (fun b => b == 0 || alog.contains b) = true := by decide +kernel
theorem alog_pow : ∀ i, i < 255 → pow 2 i = alog.getD i 0
  | 0, _ => rfl
  | i + 1, h => by
    show mul (pow 2 i) 2 = _
    rw [alog_pow i (by omega)]
    have h1 := alog_ok
    rw [List.all_eq_true] at h1
    exact eq_of_beq (h1 i (List.mem_range.2 (by omega)))
theorem pow_one (n : Nat) : pow 1 n = 1 := by
  induction n with
  | zero => rfl
  | succ n ih => show mul (pow 1 n) 1 = 1; rw [ih]; exact mul_one_left (by omega)
theorem pow_add {a : Nat} (ha : a < 256) (n : Nat) : ∀ m, pow a (n + m) = mul (pow a n) (pow a m)
  | 0 => by
    show pow a n = mul (pow a n) 1
    rw [mul_comm (pow_lt ha n) (by omega), mul_one_left (pow_lt ha n)]
  | m + 1 => by
    show mul (pow a (n + m)) a = mul (pow a n) (mul (pow a m) a)
    rw [pow_add ha n m, mul_assoc (pow_lt ha n) (pow_lt ha m) ha]
theorem pow_mul {a : Nat} (ha : a < 256) (n : Nat) : ∀ m, pow (pow a n) m = pow a (n * m)
  | 0 => rfl
  | m + 1 => by
    show mul (pow (pow a n) m) (pow a n) = _
    rw [pow_mul ha n m, Nat.mul_succ, pow_add ha]
theorem pow_255 : pow 2 255 = 1 := by
  show mul (pow 2 254) 2 = 1
  rw [alog_pow 254 (by omega)]
  exact alog_end
theorem inv_one {b : Nat} (hb : b < 256) (h : b ≠ 0) : mul (pow b 254) b = 1 := by
  have h1 := alog_all
  rw [List.all_eq_true] at h1
  have h2 := h1 b (List.mem_range.2 hb)
  simp only [Bool.or_eq_true, beq_iff_eq, h, false_or] at h2
  have h3 : b ∈ alog := by simpa using h2
  obtain ⟨n, hn, rfl⟩ := List.getElem_of_mem h3
  have hl : alog.length = 255 := by decide +kernel
  have e : alog[n] = pow 2 n := by
    rw [alog_pow n (by omega)]
    simp [List.getD, hn]
  rw [e]
  show pow (pow 2 n) 255 = 1
  rw [pow_mul (by omega), Nat.mul_comm, ← pow_mul (by omega), pow_255, pow_one]
theorem mulB_comm (a b : UInt8) : mulB a b = mulB b a := by
  apply UInt8.toNat_inj.1
  rw [mulB_nat, mulB_nat]
  exact mul_comm a.toNat_lt b.toNat_lt
theorem mulB_assoc (a b c : UInt8) : mulB (mulB a b) c = mulB a (mulB b c) := by
  apply UInt8.toNat_inj.1
  rw [mulB_nat, mulB_nat, mulB_nat, mulB_nat]
  exact mul_assoc a.toNat_lt b.toNat_lt c.toNat_lt
theorem mulB_zero (a : UInt8) : mulB 0 a = 0 := by
  apply UInt8.toNat_inj.1
  rw [mulB_nat]
  exact mul_zero_left _
theorem mulB_inv {b : UInt8} (h : b ≠ 0) : mulB (invB b) b = 1 := by
  apply UInt8.toNat_inj.1
  rw [mulB_nat, invB_nat]
  exact inv_one b.toNat_lt (fun e => h (UInt8.toNat_inj.1 e))
theorem mulB_back (x : UInt8) {y : UInt8} (h : y ≠ 0) : mulB (mulB x (invB y)) y = x := by
  rw [mulB_assoc, mulB_inv h, mulB_comm, mulB_one]

/-! what is trimmed -/
theorem trimN_out (l : List UInt8) : ∀ n k, trimN l n ≤ k → k < n → l.getD k 0 = 0
  | 0, k, _, h => by omega
  | n + 1, k, h1, h2 => by
    unfold trimN at h1
    split at h1
    · rename_i e
      by_cases ek : k = n
      · rw [ek]; exact e
      · exact trimN_out l n k h1 (by omega)
    · omega
theorem trimN_top (l : List UInt8) : ∀ n, trimN l n = 0 ∨ l.getD (trimN l n - 1) 0 ≠ 0
  | 0 => .inl rfl
  | n + 1 => by
    unfold trimN
    split
    · exact trimN_top l n
    · rename_i e
      exact .inr e
/-- How many terms there are. -/
def tlen (l : List UInt8) : Nat := trimN l l.length
theorem tlen_le (l : List UInt8) : tlen l ≤ l.length := trimN_le _ _
theorem tlen_out (l : List UInt8) (k : Nat) (h : tlen l ≤ k) : l.getD k 0 = 0 := by
  by_cases hk : k < l.length
  · exact trimN_out l l.length k h hk
  · exact getD_out (by omega)
theorem tlen_top (l : List UInt8) : tlen l = 0 ∨ l.getD (tlen l - 1) 0 ≠ 0 := trimN_top l l.length
theorem tlen_of {l : List UInt8} {t : Nat} (h1 : ∀ k, t ≤ k → l.getD k 0 = 0) (h2 : t = 0 ∨ l.getD (t - 1) 0 ≠ 0) : tlen l = t := by
  rcases Nat.lt_trichotomy (tlen l) t with h | h | h
  · rcases h2 with h2 | h2
    · omega
    · exact absurd (tlen_out l (t - 1) (by omega)) h2
  · exact h
  · rcases tlen_top l with h3 | h3
    · omega
    · exact absurd (h1 (tlen l - 1) (by omega)) h3
theorem tlen_congr {a b : List UInt8} (h : ∀ i, a.getD i 0 = b.getD i 0) : tlen a = tlen b :=
  tlen_of (fun k hk => by rw [h]; exact tlen_out b k hk) (by rw [h]; exact tlen_top b)
theorem tlen_lt {l : List UInt8} {t : Nat} (h : ∀ k, t ≤ k → l.getD k 0 = 0) : tlen l ≤ t := by
  rcases tlen_top l with h3 | h3
  · omega
  · refine Nat.le_of_not_lt fun h4 => h3 (h _ (by omega))
theorem trimL_len (l : List UInt8) : (trimL l).length = tlen l := trimL_length l
theorem getD_take (l : List UInt8) (n i : Nat) : (l.take n).getD i 0 = if i < n then l.getD i 0 else 0 := by
  simp only [List.getD, List.getElem?_take]
  split
  · rfl
  · rfl
theorem trimL_get (l : List UInt8) (i : Nat) : (trimL l).getD i 0 = l.getD i 0 := by
  show (l.take (tlen l)).getD i 0 = _
  rw [getD_take]
  split
  · rfl
  · rw [tlen_out l i (by omega)]
theorem trimL_congr {a b : List UInt8} (h : ∀ i, a.getD i 0 = b.getD i 0) : trimL a = trimL b := by
  apply list_eq
  · rw [trimL_len, trimL_len, tlen_congr h]
  · intro i _
    rw [trimL_get, trimL_get, h]
theorem trimL_top {l : List UInt8} (h : trimL l ≠ []) : (trimL l).getD ((trimL l).length - 1) 0 ≠ 0 := by
  have h0 : tlen l ≠ 0 := fun e => h (List.eq_nil_of_length_eq_zero (by rw [trimL_len]; exact e))
  rw [trimL_get, trimL_len]
  rcases tlen_top l with h3 | h3
  · exact absurd h3 h0
  · exact h3

/-! the document's division -/
def overK (b : List UInt8) (inv : UInt8) (c : Nat) (x : List UInt8 × List UInt8) : UInt8 := mulB (x.2.getD (c + b.length - 1) 0) inv
def overS (b : List UInt8) (inv : UInt8) (c : Nat) (x : List UInt8 × List UInt8) : List UInt8 × List UInt8 := (x.1.set c (overK b inv c x), addTo x.2 b (overK b inv c x) c b.length)
def overR (b : List UInt8) (inv : UInt8) : Nat → List UInt8 × List UInt8 → List UInt8 × List UInt8
  | 0, x => x
  | c + 1, x => overR b inv c (overS b inv c x)
def lastB (l : List UInt8) : UInt8 := l.getD (l.length - 1) 0
def overE (b p : List UInt8) : List UInt8 × List UInt8 := overR b (invB (lastB b)) (p.length + 1 - b.length) (List.replicate p.length 0, p)
def overF (p q : List UInt8) : List UInt8 × List UInt8 × Int :=
  if p.length > 512 ∨ q.length > 512 then ([], [], 1) else if trimL q = [] then ([], [], 3) else (trimL (overE (trimL q) p).1, trimL (overE (trimL q) p).2, 0)

theorem addTo_none {s q : List UInt8} {i j : Nat} (h : i + j ≤ s.length) : addTo s q 0 i j = s := by
  apply list_eq (addTo_length _ _ _ _ _)
  intro m _
  rw [addTo_get _ _ _ _ _ h]
  split
  · rw [mulB_zero, UInt8.xor_zero]
  · rfl
theorem set_same {l : List UInt8} {c : Nat} (h : l.getD c 0 = 0) : l.set c 0 = l := by
  apply list_eq (by simp)
  intro i hi
  by_cases hc : c < l.length
  · rw [getD_set _ _ _ _ hc]
    split
    · rename_i e; rw [← e, h]
    · rfl
  · rw [List.set_eq_of_length_le (by omega)]
theorem overS_none {b : List UInt8} {inv : UInt8} {c : Nat} {s r : List UInt8} (hr : r.getD (c + b.length - 1) 0 = 0) (hs : s.getD c 0 = 0) (hl : c + b.length ≤ r.length) : overS b inv c (s, r) = (s, r) := by
  unfold overS overK
  simp only [hr, mulB_zero]
  rw [set_same hs, addTo_none hl]
/-- Where the rest has fewer terms the steps do nothing. -/
theorem overR_skip {b : List UInt8} {inv : UInt8} {s r : List UInt8} (hb : 0 < b.length) : ∀ c, tlen r + 1 ≤ c + b.length → (∀ j, j < c → s.getD j 0 = 0) → (c = 0 ∨ c + b.length ≤ r.length + 1) → overR b inv c (s, r) = overR b inv (tlen r + 1 - b.length) (s, r)
  | 0, h, _, _ => by rw [show tlen r + 1 - b.length = 0 from by omega]
  | c + 1, h, hs, hl => by
    by_cases he : tlen r + 1 - b.length = c + 1
    · rw [he]
    · show overR b inv c (overS b inv c (s, r)) = _
      rw [overS_none (tlen_out r _ (by omega)) (hs c (by omega)) (by omega)]
      exact overR_skip hb c (by omega) (fun j hj => hs j (by omega)) (by omega)

/-! the program's step: the top of the rest goes -/
theorem top_gone {b r : List UInt8} {at_ : Nat} (hb : 0 < b.length) (hl : lastB b ≠ 0) (ht : tlen r = at_ + b.length) (k : UInt8) (hk : k = mulB (r.getD (tlen r - 1) 0) (invB (lastB b))) (hle : at_ + b.length ≤ r.length) :
    tlen (addTo r b k at_ b.length) ≤ tlen r - 1 := by
  apply tlen_lt
  intro m hm
  rw [addTo_get _ _ _ _ _ hle]
  by_cases h1 : m = tlen r - 1
  · rw [if_pos (by omega)]
    have e1 : m - at_ = b.length - 1 := by omega
    have e2 : b.getD (m - at_) 0 = lastB b := by rw [e1]; rfl
    rw [e2, hk, h1, mulB_back _ hl, UInt8.xor_self]
  · rw [if_neg (by omega)]
    exact tlen_out r m (by omega)
theorem addTo_take {r b : List UInt8} {k : UInt8} {i L : Nat} (h : i + b.length ≤ L) (hr : L ≤ r.length) (hz : ∀ j, L ≤ j → r.getD j 0 = 0) : trimL (addTo (r.take L) b k i b.length) = trimL (addTo r b k i b.length) := by
  apply trimL_congr
  intro j
  rw [addTo_get _ _ _ _ _ (by simp; omega), addTo_get _ _ _ _ _ (by omega), getD_take]
  by_cases h1 : i ≤ j ∧ j < i + b.length
  · rw [if_pos h1, if_pos h1, if_pos (by omega)]
  · rw [if_neg h1, if_neg h1]
    split
    · rfl
    · rw [hz j (by omega)]
/-- One step of the program: the rest that is left, and what is still to be done. -/
theorem over_step {b s r : List UInt8} {at_ : Nat} (hb : 0 < b.length) (hl : lastB b ≠ 0) (ht : tlen r = at_ + b.length) (hs : ∀ j, j < at_ + 1 → s.getD j 0 = 0) :
    overR b (invB (lastB b)) (tlen r + 1 - b.length) (s, r) =
      overR b (invB (lastB b)) (tlen (addTo r b (mulB (r.getD (tlen r - 1) 0) (invB (lastB b))) at_ b.length) + 1 - b.length) (s.set at_ (mulB (r.getD (tlen r - 1) 0) (invB (lastB b))), addTo r b (mulB (r.getD (tlen r - 1) 0) (invB (lastB b))) at_ b.length) := by
  have hle := tlen_le r
  have hg := top_gone hb hl ht _ rfl (by omega)
  rw [show tlen r + 1 - b.length = at_ + 1 from by omega]
  show overR b _ at_ (overS b _ at_ (s, r)) = _
  have e : overK b (invB (lastB b)) at_ (s, r) = mulB (r.getD (tlen r - 1) 0) (invB (lastB b)) := by
    unfold overK
    rw [show at_ + b.length - 1 = tlen r - 1 from by omega]
  unfold overS
  rw [e]
  dsimp only
  revert hg
  generalize mulB (r.getD (tlen r - 1) 0) (invB (lastB b)) = k
  intro hg
  refine overR_skip hb at_ (by omega) (fun j hj => ?_) ?_
  · by_cases hat : at_ < s.length
    · rw [getD_set _ _ _ _ hat, if_neg (by omega)]
      exact hs j (by omega)
    · rw [List.set_eq_of_length_le (by omega)]
      exact hs j (by omega)
  · right
    rw [addTo_length]
    omega
theorem over_first {b p : List UInt8} (hb : 0 < b.length) : overE b p = overR b (invB (lastB b)) (tlen p + 1 - b.length) (List.replicate p.length 0, p) := by
  unfold overE
  have := tlen_le p
  by_cases h : p.length < b.length
  · rw [show p.length + 1 - b.length = 0 from by omega, show tlen p + 1 - b.length = 0 from by omega]
  · refine overR_skip hb _ (by omega) (fun j hj => ?_) (.inr (by omega))
    by_cases h : j < p.length
    · simp [List.getD, h]
    · exact getD_out (by simp; omega)
theorem overS_len {b : List UInt8} {inv : UInt8} {c : Nat} (x : List UInt8 × List UInt8) : (overS b inv c x).1.length = x.1.length ∧ (overS b inv c x).2.length = x.2.length := by
  unfold overS
  simp [addTo_length]
theorem overR_len {b : List UInt8} {inv : UInt8} : ∀ c (x : List UInt8 × List UInt8), (overR b inv c x).1.length = x.1.length ∧ (overR b inv c x).2.length = x.2.length
  | 0, x => ⟨rfl, rfl⟩
  | c + 1, x => by
    show (overR b inv c _).1.length = _ ∧ (overR b inv c _).2.length = _
    rw [(overR_len c _).1, (overR_len c _).2]
    exact overS_len x
end Go.Proofs.Ytclcgfngolfmlaa
