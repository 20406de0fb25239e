import Derived.Test.YtclcgfngolfmlaaFieldMul
import Derived.Deep.DeepCutAuto
namespace Go.Proofs.Ytclcgfngolfmlaa
set_option linter.unusedSimpArgs false
set_option linter.unusedVariables false
open Go.RowKit

theorem shl_le {a k : Nat} (ha : a < 256) (hk : k < 8) : a * 2 ^ k ≤ 32640 := by
  have : 2 ^ k ≤ 2 ^ 7 := Nat.pow_le_pow_right (by omega) (by omega)
  have h2 : a * 2 ^ k ≤ 255 * 2 ^ 7 := Nat.mul_le_mul (by omega) this
  omega

theorem bit_test (b k : Nat) (hb : b < 256) : bits .and .u8 ((b : Int) / 2 ^ k) 1 = ((b / 2 ^ k % 2 : Nat) : Int) := by
  rw [shr_nat, u8_one (Nat.lt_of_le_of_lt (shr_le b k) hb), Nat.shiftRight_eq_div_pow]
theorem bit_test64 (b k : Nat) (hb : b < 32768) : bits .and .i64 ((b : Int) / 2 ^ k) 1 = ((b / 2 ^ k % 2 : Nat) : Int) := by
  have h := shr_le b k
  have e := i64_and_nat (b >>> k) 1 (by omega) (by omega)
  rw [nat_mask1] at e
  rw [shr_nat, show (1 : Int) = ((1 : Nat) : Int) from rfl, e, Nat.shiftRight_eq_div_pow]
theorem xor_shl {p a k : Nat} (hp : p < 32768) (h : a * 2 ^ k ≤ 32640) : bits .xor .i64 (p : Int) (wrap64 ((a : Int) * 2 ^ k)) = ((p ^^^ (a * 2 ^ k) : Nat) : Int) := by
  have e : ((a : Int) * 2 ^ k) = ((a * 2 ^ k : Nat) : Int) := by rw [int_pow2, Int.natCast_mul]
  rw [e]
  generalize a * 2 ^ k = q at *
  rw [IntWalk.wrap64_in _ (by omega)]
  exact i64_xor_nat p q (by omega) (by omega)

theorem xor_391 {p j : Nat} (hp : p < 32768) (h : j ≤ 14) : bits .xor .i64 (p : Int) (wrap64 (391 * 2 ^ (j - 8))) = ((p ^^^ (391 * 2 ^ (j - 8)) : Nat) : Int) := by
  have e : ((391 : Int) * 2 ^ (j - 8)) = ((391 * 2 ^ (j - 8) : Nat) : Int) := by rw [int_pow2, Int.natCast_mul]; rfl
  have : 2 ^ (j - 8) ≤ 2 ^ 6 := Nat.pow_le_pow_right (by omega) (by omega)
  have h2 : 391 * 2 ^ (j - 8) ≤ 391 * 2 ^ 6 := Nat.mul_le_mul (Nat.le_refl _) this
  rw [e]
  generalize 391 * 2 ^ (j - 8) = q at *
  rw [IntWalk.wrap64_in _ (by omega)]
  exact i64_xor_nat p q (by omega) (by omega)

set_option maxHeartbeats 1600000 in
set_option maxRecDepth 100000 in
theorem rmul_any (a b : Nat) (w : World) (ha : a < 256) (hb : b < 256) :
    Calls Try.prog 88 #[.int .u8 a, .int .u8 b] w fun e w' => e = .returned (.int .u8 (mul a b : Nat)) ∧ w = w' := by
  go_enter Try.func88, Try.ntmps88
  go_wp2_with fail
  go_loop [5, 6] (fun n i => ∃ k : Nat, k ≤ 8 ∧ n = .int .i64 (prodN a b k : Nat) ∧ i = .int .i64 k) (fun _ i => 8 - (intOf i).toNat)
  case atStart => exact ⟨0, by omega, rfl, rfl⟩
  case round =>
    obtain ⟨k, hk, rfl, rfl⟩ := hrel
    have hp := prodN_lt ha b k hk
    by_cases h8 : k < 8
    · have H3 : Hid (prodN a b (k + 1) = prodN a b k ^^^ (if b / 2 ^ k % 2 = 1 then a * 2 ^ k else 0)) := rfl
      generalize prodN a b k = p at *
      have hs := shl_le ha h8
      have e := bit_test b k hb
      by_cases hbit : b / 2 ^ k % 2 = 1
      · have HT : Hid (prodN a b (k + 1) = p ^^^ (a * 2 ^ k)) := by show _ = _; rw [H3.out, if_pos hbit]
        rw [hbit] at e
        have hT : (bits .and .u8 ((b : Int) / 2 ^ k) 1 == 1) = true := by rw [e]; rfl
        clear e hbit
        go_wp2
        go_round
        case rel => exact ⟨k + 1, by omega, by rw [HT.out, xor_shl hp hs], by go_num⟩
        case measure => simp [intOf]; omega
      · have h0 : b / 2 ^ k % 2 = 0 := by omega
        have HT : Hid (prodN a b (k + 1) = p) := by show _ = _; rw [H3.out, if_neg hbit, Nat.xor_zero]
        rw [h0] at e
        have hT : (bits .and .u8 ((b : Int) / 2 ^ k) 1 == 1) = false := by rw [e]; rfl
        clear e hbit h0
        go_wp2
        go_round
        case rel => exact ⟨k + 1, by omega, by rw [HT.out], by go_num⟩
        case measure => simp [intOf]; omega
    · obtain rfl : k = 8 := by omega
      have HM := Lib.hid (ref_mul ha b)
      generalize prodN a b 8 = x at *
      go_wp2
      go_loop [5, 7] (fun n i => ∃ j : Nat, j ≤ 14 ∧ 7 ≤ j ∧ n = .int .i64 (redN x (14 - j) : Nat) ∧ i = .int .i64 j) (fun _ i => (intOf i).toNat)
      case atStart => exact ⟨14, by omega, by omega, rfl, rfl⟩
      case round =>
        obtain ⟨j, hj, hj7, rfl, rfl⟩ := hrel
        have hq := redN_lt hp (14 - j)
        by_cases h7 : 8 ≤ j
        · have H4 : Hid (redN x (14 - (j - 1)) = redStep (redN x (14 - j)) j) := by
            show _ = _
            rw [show 14 - (j - 1) = (14 - j) + 1 from by omega]
            show redStep _ _ = _
            rw [show 14 - (14 - j) = j from by omega]
          generalize redN x (14 - j) = y at *
          have e := bit_test64 y j hq
          by_cases hbit : y / 2 ^ j % 2 = 1
          · have HT : Hid (redN x (14 - (j - 1)) = y ^^^ (391 * 2 ^ (j - 8))) := by show _ = _; rw [H4.out, redStep, if_pos hbit]
            rw [hbit] at e
            have hT : (bits .and .i64 ((y : Int) / 2 ^ j) 1 == 1) = true := by rw [e]; rfl
            clear e hbit
            go_wp2
            go_round
            case rel => exact ⟨j - 1, by omega, by omega, by rw [HT.out, xor_391 hq hj], by rw [show ((j - 1 : Nat) : Int) = (j : Int) - 1 from by omega]⟩
            case measure => simp [intOf]; omega
          · have h0 : y / 2 ^ j % 2 = 0 := by omega
            have HT : Hid (redN x (14 - (j - 1)) = y) := by show _ = _; rw [H4.out, redStep, if_neg hbit]
            rw [h0] at e
            have hT : (bits .and .i64 ((y : Int) / 2 ^ j) 1 == 1) = false := by rw [e]; rfl
            clear e hbit h0
            go_wp2
            go_round
            case rel => exact ⟨j - 1, by omega, by omega, by rw [HT.out], by rw [show ((j - 1 : Nat) : Int) = (j : Int) - 1 from by omega]⟩
            case measure => simp [intOf]; omega
        · obtain rfl : j = 7 := by omega
          have hm := mul_lt ha b
          rw [← HM.out] at hm
          have hm' : redN x 7 < 256 := hm
          go_wp2
          go_ret
          refine ⟨ret_int ?_, rfl⟩
          rw [← HM.out]
end Go.Proofs.Ytclcgfngolfmlaa
