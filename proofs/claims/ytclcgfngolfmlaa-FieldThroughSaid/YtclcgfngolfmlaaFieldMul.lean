import Derived.Test.YtclcgfngolfmlaaSame
import Derived.Test.YtclcgfngolfmlaaMore
import Derived.Test.YtclcgfngolfmlaaFieldP
namespace Go.Proofs.Ytclcgfngolfmlaa
set_option linter.unusedSimpArgs false
set_option linter.unusedVariables false
open Go.RowKit

theorem mulN_stop {b n : Nat} (a : Nat) (h : b / 2 ^ n = 0) : ∀ m, mulN a b (n + m) = mulN a b n
  | 0 => rfl
  | m + 1 => by
    rw [show n + (m + 1) = (n + m) + 1 from rfl]
    show mulN a b (n + m) ^^^ (if b / 2 ^ (n + m) % 2 = 1 then xtN (n + m) a else 0) = _
    rw [mulN_stop a h m, Nat.pow_add, ← Nat.div_div_eq_div_mul, h]
    simp
theorem bit_in {b n : Nat} (hb : b < 256) (h : b / 2 ^ n ≠ 0) : n < 8 := by
  rcases Nat.lt_or_ge n 8 with h1 | h1
  · exact h1
  · exfalso
    apply h
    have : 2 ^ 8 ≤ 2 ^ n := Nat.pow_le_pow_right (by omega) h1
    exact Nat.div_eq_of_lt (by omega)
theorem half_pow (b n : Nat) : b / 2 ^ (n + 1) = b / 2 ^ n / 2 := by rw [Nat.pow_succ, Nat.div_div_eq_div_mul]
theorem u8_one {b : Nat} (h : b < 256) : bits .and .u8 (b : Int) 1 = ((b % 2 : Nat) : Int) := by
  have e := u8_and_nat b 1 (by omega) (by omega)
  rwa [nat_mask1] at e
theorem u8_dbl (a : Nat) : IntKind.u8.wrap ((a : Int) * 2) = ((a * 2 % 256 : Nat) : Int) := by
  rw [IntKind.wrap_u8']
  omega

set_option maxHeartbeats 1600000 in
set_option maxRecDepth 100000 in
theorem mul_any (a b : Nat) (w : World) (ha : a < 256) (hb : b < 256) :
    Calls Try.prog 92 #[.int .u8 a, .int .u8 b] w fun e w' => e = .returned (.int .u8 (mul a b : Nat)) ∧ w = w' := by
  go_enter Try.func92, Try.ntmps92
  go_wp2_with fail
  go_loop [0, 1, 5] (fun x y p => ∃ k : Nat, k ≤ 8 ∧ x = .int .u8 (xtN k a : Nat) ∧ y = .int .u8 (b / 2 ^ k : Nat) ∧ p = .int .u8 (mulN a b k : Nat)) (fun _ y _ => (intOf y).toNat)
  case atStart => exact ⟨0, by omega, rfl, by simp, rfl⟩
  case round =>
    obtain ⟨k, hk, rfl, rfl, rfl⟩ := hrel
    have hx := xtN_lt ha k
    have hp := mulN_lt ha b k
    have hy : b / 2 ^ k < 256 := Nat.lt_of_le_of_lt (Nat.div_le_self _ _) hb
    have H1 : Hid (xtN (k + 1) a = xt (xtN k a)) := rfl
    have H2 : Hid (b / 2 ^ (k + 1) = b / 2 ^ k / 2) := half_pow b k
    have H3 : Hid (mulN a b (k + 1) = mulN a b k ^^^ (if b / 2 ^ k % 2 = 1 then xtN k a else 0)) := rfl
    by_cases h0 : b / 2 ^ k = 0
    · have H4 : Hid (mul a b = mulN a b k) := by
        show mulN a b 8 = _
        have := mulN_stop a h0 (8 - k)
        rwa [show k + (8 - k) = 8 from by omega] at this
      generalize b / 2 ^ k = y at *
      have H0 : (y : Int) ≤ 0 := by omega
      clear h0
      go_wp2
      go_ret
      exact ⟨ret_int (by rw [H4.out]), rfl⟩
    · have hk8 := bit_in hb h0
      generalize b / 2 ^ k = y at *
      have hpos : (1 : Int) ≤ (y : Int) := by omega
      generalize mulN a b k = p at *
      generalize xtN k a = x at *
      clear h0
      have e1 := u8_one hy
      have e3 := u8_xor_nat p x hp hx
      have e4 := u8_xor_nat (x * 2 % 256) 135 (by omega) (by omega)
      have e5 := u8_dbl x
      have E4 := Lib.hid e4
      have E5 := Lib.hid e5
      clear e4 e5
      by_cases hbit : y % 2 = 1
      · have H3' : Hid (mulN a b (k + 1) = p ^^^ x) := by show _ = _; rw [H3.out, if_pos hbit]
        rw [hbit] at e1
        by_cases hhi : 128 ≤ x
        · have H1' : Hid (xtN (k + 1) a = (x * 2 % 256) ^^^ 135) := by show _ = _; rw [H1.out, xt, if_pos (by omega)]
          clear hbit
          go_wp2
          go_round
          case rel => exact ⟨k + 1, by omega, by rw [H1'.out, ← E4.out, ← E5.out]; rfl, by rw [H2.out]; go_num, by rw [H3'.out]⟩
          case measure => simp [intOf]; omega
        · have H1' : Hid (xtN (k + 1) a = x * 2 % 256) := by show _ = _; rw [H1.out, xt, if_neg (by omega)]
          clear hbit
          go_wp2
          go_round
          case rel => exact ⟨k + 1, by omega, by rw [H1'.out]; first | go_num | (rw [← E5.out]; rfl), by rw [H2.out]; go_num, by rw [H3'.out]⟩
          case measure => simp [intOf]; omega
      · have hbit0 : y % 2 = 0 := by omega
        have H3' : Hid (mulN a b (k + 1) = p) := by show _ = _; rw [H3.out, if_neg hbit, Nat.xor_zero]
        rw [hbit0] at e1
        by_cases hhi : 128 ≤ x
        · have H1' : Hid (xtN (k + 1) a = (x * 2 % 256) ^^^ 135) := by show _ = _; rw [H1.out, xt, if_pos (by omega)]
          clear hbit hbit0
          go_wp2
          go_round
          case rel => exact ⟨k + 1, by omega, by rw [H1'.out, ← E4.out, ← E5.out]; rfl, by rw [H2.out]; go_num, by rw [H3'.out]⟩
          case measure => simp [intOf]; omega
        · have H1' : Hid (xtN (k + 1) a = x * 2 % 256) := by show _ = _; rw [H1.out, xt, if_neg (by omega)]
          clear hbit hbit0
          go_wp2
          go_round
          case rel => exact ⟨k + 1, by omega, by rw [H1'.out]; first | go_num | (rw [← E5.out]; rfl), by rw [H2.out]; go_num, by rw [H3'.out]⟩
          case measure => simp [intOf]; omega
end Go.Proofs.Ytclcgfngolfmlaa
