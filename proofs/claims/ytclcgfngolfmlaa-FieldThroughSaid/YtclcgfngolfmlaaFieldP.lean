/-
  Numbers of eight bits that add and multiply, plainly. No program is named here.
-/
import Derived.Test.YtclcgfngolfmlaaBase
namespace Go.Proofs.Ytclcgfngolfmlaa
set_option linter.unusedSimpArgs false
set_option linter.unusedVariables false
open Go.RowKit

/-- Twice. -/
def xt (a : Nat) : Nat := if a / 128 % 2 = 1 then (a * 2 % 256) ^^^ 135 else a * 2 % 256
def xtN : Nat → Nat → Nat
  | 0, a => a
  | n + 1, a => xt (xtN n a)
theorem xt_lt (a : Nat) : xt a < 256 := by
  unfold xt
  split
  · exact Nat.xor_lt_two_pow (n := 8) (by omega) (by omega)
  · omega
theorem xtN_lt {a : Nat} (h : a < 256) : ∀ n, xtN n a < 256
  | 0 => h
  | n + 1 => xt_lt _
theorem xtN_comm (a : Nat) : ∀ n, xtN n (xt a) = xtN (n + 1) a
  | 0 => rfl
  | n + 1 => by show xt _ = xt _; rw [xtN_comm a n]; 
/-- The product, as the program reckons it: the first n bits of b. -/
def mulN (a b : Nat) : Nat → Nat
  | 0 => 0
  | n + 1 => mulN a b n ^^^ (if b / 2 ^ n % 2 = 1 then xtN n a else 0)
def mul (a b : Nat) : Nat := mulN a b 8
theorem mulN_lt {a : Nat} (h : a < 256) (b : Nat) : ∀ n, mulN a b n < 256
  | 0 => by show 0 < 256; omega
  | n + 1 => by
    refine Nat.xor_lt_two_pow (n := 8) (mulN_lt h b n) ?_
    split
    · exact xtN_lt h n
    · omega
theorem mul_lt {a : Nat} (h : a < 256) (b : Nat) : mul a b < 256 := mulN_lt h b 8

theorem bit_xor (a b n : Nat) : (a ^^^ b) / 2 ^ n % 2 = (a / 2 ^ n % 2 + b / 2 ^ n % 2) % 2 := by
  have h : ∀ x : Nat, x / 2 ^ n % 2 = (x.testBit n).toNat := fun x => by
    rw [Nat.testBit_eq_decide_div_mod_eq]
    have := Nat.mod_two_eq_zero_or_one (x / 2 ^ n)
    rcases this with h | h <;> simp [h]
  rw [h, h, h, Nat.testBit_xor]
  cases a.testBit n <;> cases b.testBit n <;> rfl

theorem dbl8_xor (r u : Nat) : (r ^^^ u) * 2 % 256 = (r * 2 % 256) ^^^ (u * 2 % 256) := by
  apply Nat.eq_of_testBit_eq
  intro i
  have e : (256 : Nat) = 2 ^ 8 := by decide
  rw [e]
  simp only [Nat.testBit_xor, Nat.testBit_mod_two_pow]
  by_cases hi : i < 8
  · simp only [hi, decide_true, Bool.true_and]
    rw [Nat.mul_comm (r ^^^ u) 2, Nat.mul_comm r 2, Nat.mul_comm u 2]
    have h2 : ∀ y : Nat, (2 * y).testBit i = (decide (1 ≤ i) && y.testBit (i - 1)) := fun y => by
      have := Nat.testBit_two_pow_mul (a := y) (i := 1) (j := i)
      simpa using this
    rw [h2, h2, h2, Nat.testBit_xor]
    cases decide (1 ≤ i) <;> simp
  · simp [hi]
theorem xor_swap (a b c d : Nat) : (a ^^^ b) ^^^ (c ^^^ d) = (a ^^^ c) ^^^ (b ^^^ d) := by
  rw [Nat.xor_assoc, Nat.xor_assoc, ← Nat.xor_assoc b, ← Nat.xor_assoc c, Nat.xor_comm b c]
theorem xt_xor (a b : Nat) : xt (a ^^^ b) = xt a ^^^ xt b := by
  have h := bit_xor a b 7
  rw [show (2 : Nat) ^ 7 = 128 from by decide] at h
  unfold xt
  rw [dbl8_xor, h]
  rcases Nat.mod_two_eq_zero_or_one (a / 128) with x | x <;> rcases Nat.mod_two_eq_zero_or_one (b / 128) with y | y <;> rw [x, y]
  · simp
  · simp [Nat.xor_assoc]
  · simp
    ac_rfl
  · simp
    rw [xor_swap, Nat.xor_self, Nat.xor_zero]
theorem xtN_xor (a b : Nat) : ∀ n, xtN n (a ^^^ b) = xtN n a ^^^ xtN n b
  | 0 => rfl
  | n + 1 => by show xt _ = xt _ ^^^ xt _; rw [xtN_xor a b n, xt_xor]
theorem xtN_zero : ∀ n, xtN n 0 = 0
  | 0 => rfl
  | n + 1 => by show xt _ = 0; rw [xtN_zero n]; rfl
theorem mulN_xor_left (a b c : Nat) : ∀ n, mulN (a ^^^ b) c n = mulN a c n ^^^ mulN b c n
  | 0 => (by simp [mulN])
  | n + 1 => by
    show _ ^^^ _ = (_ ^^^ _) ^^^ (_ ^^^ _)
    rw [mulN_xor_left a b c n, xor_swap (mulN a c n)]
    congr 1
    split
    · exact xtN_xor a b n
    · rfl
theorem mulN_xor_right (a b c : Nat) : ∀ n, mulN a (b ^^^ c) n = mulN a b n ^^^ mulN a c n
  | 0 => (by simp [mulN])
  | n + 1 => by
    show _ ^^^ _ = (_ ^^^ _) ^^^ (_ ^^^ _)
    rw [mulN_xor_right a b c n, xor_swap (mulN a b n), bit_xor]
    congr 1
    rcases Nat.mod_two_eq_zero_or_one (b / 2 ^ n) with x | x <;> rcases Nat.mod_two_eq_zero_or_one (c / 2 ^ n) with y | y <;> rw [x, y] <;> simp
theorem mul_xor_left (a b c : Nat) : mul (a ^^^ b) c = mul a c ^^^ mul b c := mulN_xor_left a b c 8
theorem mul_xor_right (a b c : Nat) : mul a (b ^^^ c) = mul a b ^^^ mul a c := mulN_xor_right a b c 8
theorem mul_zero_left (b : Nat) : mul 0 b = 0 := by
  have h := mul_xor_left 0 0 b
  rw [Nat.xor_self] at h
  rwa [Nat.xor_self] at h
theorem mul_zero_right (a : Nat) : mul a 0 = 0 := by
  have h := mul_xor_right a 0 0
  rw [Nat.xor_self] at h
  rwa [Nat.xor_self] at h

/-- A number below 256 is the sum of its bits: what is linear is known by eight values. -/
def bitsSum (f : Nat → Nat) (a : Nat) : Nat → Nat
  | 0 => 0
  | n + 1 => bitsSum f a n ^^^ (if a / 2 ^ n % 2 = 1 then f (2 ^ n) else 0)
theorem low_succ (a n : Nat) : a % 2 ^ (n + 1) = a % 2 ^ n ^^^ (if a / 2 ^ n % 2 = 1 then 2 ^ n else 0) := by
  apply Nat.eq_of_testBit_eq
  intro i
  rw [Nat.testBit_xor, Nat.testBit_mod_two_pow, Nat.testBit_mod_two_pow]
  have hb : (a / 2 ^ n % 2 = 1) ↔ a.testBit n = true := by rw [Nat.testBit_eq_decide_div_mod_eq]; simp
  by_cases h : a / 2 ^ n % 2 = 1
  · rw [if_pos h, Nat.testBit_two_pow]
    by_cases e : n = i
    · subst e; simp [hb.1 h]
    · have : decide (i < n + 1) = decide (i < n) := by rw [decide_eq_decide]; omega
      simp [this, e]
  · rw [if_neg h, Nat.zero_testBit, Bool.xor_false]
    by_cases e : n = i
    · subst e
      have : a.testBit n = false := by
        cases hx : a.testBit n with
        | false => rfl
        | true => exact absurd (hb.2 hx) h
      simp [this]
    · have : decide (i < n + 1) = decide (i < n) := by rw [decide_eq_decide]; omega
      rw [this]
theorem linear_low {f : Nat → Nat} (h0 : f 0 = 0) (hx : ∀ a b, f (a ^^^ b) = f a ^^^ f b) (a : Nat) : ∀ n, f (a % 2 ^ n) = bitsSum f a n
  | 0 => by rw [show a % 2 ^ 0 = 0 from Nat.mod_one a]; exact h0
  | n + 1 => by
    rw [low_succ, hx, linear_low h0 hx a n]
    show _ = _ ^^^ _
    congr 1
    split
    · rfl
    · exact h0
theorem linear_eq {f g : Nat → Nat} (hf0 : f 0 = 0) (hg0 : g 0 = 0) (hf : ∀ a b, f (a ^^^ b) = f a ^^^ f b) (hg : ∀ a b, g (a ^^^ b) = g a ^^^ g b)
    (h : ∀ n, n < 8 → f (2 ^ n) = g (2 ^ n)) {a : Nat} (ha : a < 256) : f a = g a := by
  have e : a = a % 2 ^ 8 := (Nat.mod_eq_of_lt ha).symm
  rw [e, linear_low hf0 hf, linear_low hg0 hg]
  have : ∀ n, n ≤ 8 → bitsSum f a n = bitsSum g a n := by
    intro n
    induction n with
    | zero => intro _; rfl
    | succ n ih =>
      intro hn
      show _ ^^^ _ = _ ^^^ _
      rw [ih (by omega), h n (by omega)]
  exact this 8 (by omega)

theorem lt8 {n : Nat} (h : n < 8) : n = 0 ∨ n = 1 ∨ n = 2 ∨ n = 3 ∨ n = 4 ∨ n = 5 ∨ n = 6 ∨ n = 7 := by omega
theorem mul_comm {a b : Nat} (ha : a < 256) (hb : b < 256) : mul a b = mul b a := by
  refine linear_eq (f := fun x => mul x b) (g := fun x => mul b x) (mul_zero_left b) (mul_zero_right b) (fun x y => mul_xor_left x y b) (fun x y => mul_xor_right b x y) (fun n hn => ?_) ha
  refine linear_eq (f := fun x => mul (2 ^ n) x) (g := fun x => mul x (2 ^ n)) (mul_zero_right _) (mul_zero_left _) (fun x y => mul_xor_right _ x y) (fun x y => mul_xor_left x y _) (fun m hm => ?_) hb
  rcases lt8 hn with rfl | rfl | rfl | rfl | rfl | rfl | rfl | rfl <;> rcases lt8 hm with rfl | rfl | rfl | rfl | rfl | rfl | rfl | rfl <;> decide +kernel
theorem mul_one_left {b : Nat} (hb : b < 256) : mul 1 b = b := by
  refine linear_eq (f := fun x => mul 1 x) (g := fun x => x) (mul_zero_right _) rfl (fun x y => mul_xor_right _ x y) (fun x y => rfl) (fun n hn => ?_) hb
  rcases lt8 hn with rfl | rfl | rfl | rfl | rfl | rfl | rfl | rfl <;> decide +kernel
theorem assoc_basis : (List.range 8).all (fun i => (List.range 8).all fun j => (List.range 8).all fun k => mul (mul (2 ^ i) (2 ^ j)) (2 ^ k) == mul (2 ^ i) (mul (2 ^ j) (2 ^ k))) = true := by decide +kernel
theorem mul_assoc {a b c : Nat} (ha : a < 256) (hb : b < 256) (hc : c < 256) : mul (mul a b) c = mul a (mul b c) := by
  refine linear_eq (f := fun x => mul (mul x b) c) (g := fun x => mul x (mul b c)) (by simp only [mul_zero_left]) (mul_zero_left _) (fun x y => by simp only [mul_xor_left]) (fun x y => mul_xor_left x y _) (fun i hi => ?_) ha
  refine linear_eq (f := fun x => mul (mul (2 ^ i) x) c) (g := fun x => mul (2 ^ i) (mul x c)) (by simp only [mul_zero_left, mul_zero_right]) (by simp only [mul_zero_left, mul_zero_right]) (fun x y => by simp only [mul_xor_left, mul_xor_right]) (fun x y => by simp only [mul_xor_left, mul_xor_right]) (fun j hj => ?_) hb
  refine linear_eq (f := fun x => mul (mul (2 ^ i) (2 ^ j)) x) (g := fun x => mul (2 ^ i) (mul (2 ^ j) x)) (mul_zero_right _) (by simp only [mul_zero_right]) (fun x y => mul_xor_right _ x y) (fun x y => by simp only [mul_xor_right]) (fun k hk => ?_) hc
  have h := assoc_basis
  rw [List.all_eq_true] at h
  have h1 := h i (List.mem_range.2 hi)
  rw [List.all_eq_true] at h1
  have h2 := h1 j (List.mem_range.2 hj)
  rw [List.all_eq_true] at h2
  exact eq_of_beq (h2 k (List.mem_range.2 hk))

/-! as the document reckons it -/
def prodN (a b : Nat) : Nat → Nat
  | 0 => 0
  | n + 1 => prodN a b n ^^^ (if b / 2 ^ n % 2 = 1 then a * 2 ^ n else 0)
def redStep (x i : Nat) : Nat := if x / 2 ^ i % 2 = 1 then x ^^^ (391 * 2 ^ (i - 8)) else x
/-- The terms from 14 down to 14 - n + 1 are gone. -/
def redN (x : Nat) : Nat → Nat
  | 0 => x
  | n + 1 => redStep (redN x n) (14 - n)
theorem redStep_xor (x y i : Nat) : redStep (x ^^^ y) i = redStep x i ^^^ redStep y i := by
  unfold redStep
  rw [bit_xor]
  rcases Nat.mod_two_eq_zero_or_one (x / 2 ^ i) with a | a <;> rcases Nat.mod_two_eq_zero_or_one (y / 2 ^ i) with b | b <;> rw [a, b]
  · simp
  · simp [Nat.xor_assoc]
  · simp
    ac_rfl
  · simp
    rw [xor_swap, Nat.xor_self, Nat.xor_zero]
theorem redN_xor (x y : Nat) : ∀ n, redN (x ^^^ y) n = redN x n ^^^ redN y n
  | 0 => rfl
  | n + 1 => by show redStep _ _ = redStep _ _ ^^^ redStep _ _; rw [redN_xor x y n, redStep_xor]
theorem redN_zero : ∀ n, redN 0 n = 0
  | 0 => rfl
  | n + 1 => by show redStep _ _ = 0; rw [redN_zero n]; simp [redStep]
theorem shl_xor (x y n : Nat) : (x ^^^ y) * 2 ^ n = x * 2 ^ n ^^^ y * 2 ^ n := by
  rw [← Nat.shiftLeft_eq, ← Nat.shiftLeft_eq, ← Nat.shiftLeft_eq, Nat.shiftLeft_xor_distrib]
theorem red_shl {a : Nat} (ha : a < 256) {n : Nat} (hn : n < 8) : redN (a * 2 ^ n) 7 = xtN n a := by
  refine linear_eq (f := fun x => redN (x * 2 ^ n) 7) (g := fun x => xtN n x) (by simp only [Nat.zero_mul, redN_zero]) (xtN_zero n) (fun x y => by simp only [shl_xor, redN_xor]) (fun x y => xtN_xor x y n) (fun m hm => ?_) ha
  rcases lt8 hn with rfl | rfl | rfl | rfl | rfl | rfl | rfl | rfl <;> rcases lt8 hm with rfl | rfl | rfl | rfl | rfl | rfl | rfl | rfl <;> decide +kernel
theorem red_prod {a : Nat} (ha : a < 256) (b : Nat) : ∀ n, n ≤ 8 → redN (prodN a b n) 7 = mulN a b n
  | 0, _ => redN_zero 7
  | n + 1, hn => by
    show redN (_ ^^^ _) 7 = _ ^^^ _
    rw [redN_xor, red_prod ha b n (by omega)]
    congr 1
    split
    · exact red_shl ha (by omega)
    · exact redN_zero 7
theorem prodN_lt {a : Nat} (ha : a < 256) (b : Nat) : ∀ n, n ≤ 8 → prodN a b n < 32768
  | 0, _ => by show 0 < _; omega
  | n + 1, hn => by
    refine Nat.xor_lt_two_pow (n := 15) (prodN_lt ha b n (by omega)) ?_
    have : 2 ^ n ≤ 2 ^ 7 := Nat.pow_le_pow_right (by omega) (by omega)
    have h2 : a * 2 ^ n ≤ 255 * 2 ^ 7 := Nat.mul_le_mul (by omega) this
    split
    · omega
    · omega
theorem redStep_lt {x i : Nat} (hx : x < 32768) (hi : i ≤ 14) : redStep x i < 32768 := by
  unfold redStep
  split
  · refine Nat.xor_lt_two_pow (n := 15) hx ?_
    have : 2 ^ (i - 8) ≤ 2 ^ 6 := Nat.pow_le_pow_right (by omega) (by omega)
    have h2 : 391 * 2 ^ (i - 8) ≤ 391 * 2 ^ 6 := Nat.mul_le_mul (Nat.le_refl _) this
    omega
  · exact hx
theorem redN_lt {x : Nat} (hx : x < 32768) : ∀ n, redN x n < 32768
  | 0 => hx
  | n + 1 => redStep_lt (redN_lt hx n) (by omega)
theorem ref_mul {a : Nat} (ha : a < 256) (b : Nat) : redN (prodN a b 8) 7 = mul a b := red_prod ha b 8 (Nat.le_refl _)

/-! powers -/
def pow (a : Nat) : Nat → Nat
  | 0 => 1
  | n + 1 => mul (pow a n) a
theorem pow_lt {a : Nat} (ha : a < 256) : ∀ n, pow a n < 256
  | 0 => by show 1 < 256; omega
  | n + 1 => mul_lt (pow_lt ha n) a
theorem pow_sq {a : Nat} (ha : a < 256) : ∀ n, pow (mul a a) n = pow a (2 * n)
  | 0 => rfl
  | n + 1 => by
    show mul (pow (mul a a) n) (mul a a) = _
    rw [pow_sq ha n, show 2 * (n + 1) = 2 * n + 1 + 1 from by omega]
    show _ = mul (mul _ _) _
    rw [mul_assoc (pow_lt ha _) ha ha]
theorem pow_comm {a : Nat} (ha : a < 256) : ∀ n, mul a (pow a n) = pow a (n + 1)
  | n => mul_comm ha (pow_lt ha n)
/-- n times. -/
def timesN (q b : Nat) : Nat → Nat
  | 0 => q
  | n + 1 => mul (timesN q b n) b
theorem timesN_lt {q : Nat} (hq : q < 256) (b : Nat) : ∀ n, timesN q b n < 256
  | 0 => hq
  | n + 1 => mul_lt (timesN_lt hq b n) b
theorem timesN_eq {q b : Nat} (hq : q < 256) (hb : b < 256) : ∀ n, timesN q b n = mul q (pow b n)
  | 0 => by
    show q = mul q 1
    rw [mul_comm hq (by omega), mul_one_left hq]
  | n + 1 => by
    show mul _ _ = mul _ (mul _ _)
    rw [timesN_eq hq hb n, mul_assoc hq (pow_lt hb n) hb]
theorem timesN_one {b : Nat} (hb : b < 256) (n : Nat) : timesN 1 b n = pow b n := by rw [timesN_eq (by omega) hb, mul_one_left (pow_lt hb n)]
end Go.Proofs.Ytclcgfngolfmlaa
