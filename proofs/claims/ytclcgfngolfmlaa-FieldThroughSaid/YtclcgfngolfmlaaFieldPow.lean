import Derived.Test.YtclcgfngolfmlaaFieldRef
namespace Go.Proofs.Ytclcgfngolfmlaa
set_option linter.unusedSimpArgs false
set_option linter.unusedVariables false
open Go.RowKit

theorem mul_i (x y : Int) (a b : Nat) (w : World) (hx : x = (a : Int)) (hy : y = (b : Int)) (ha : a < 256) (hb : b < 256) :
    Calls Try.prog 92 #[.int .u8 x, .int .u8 y] w fun e w' => e = .returned (.int .u8 (mul a b : Nat)) ∧ w = w' := by
  subst hx
  subst hy
  exact mul_any a b w ha hb
theorem rmul_i (x y : Int) (a b : Nat) (w : World) (hx : x = (a : Int)) (hy : y = (b : Int)) (ha : a < 256) (hb : b < 256) :
    Calls Try.prog 88 #[.int .u8 x, .int .u8 y] w fun e w' => e = .returned (.int .u8 (mul a b : Nat)) ∧ w = w' := by
  subst hx
  subst hy
  exact rmul_any a b w ha hb

theorem rise_even {p x n : Nat} (hx : x < 256) (h : n % 2 = 0) : mul p (pow x n) = mul p (pow (mul x x) (n / 2)) := by
  rw [pow_sq hx, show 2 * (n / 2) = n from by omega]
theorem rise_odd {p x n : Nat} (hp : p < 256) (hx : x < 256) (h : n % 2 = 1) : mul p (pow x n) = mul (mul p x) (pow (mul x x) (n / 2)) := by
  rw [pow_sq hx]
  have e : n = 2 * (n / 2) + 1 := by omega
  have e2 : pow x n = mul (pow x (2 * (n / 2))) x := by
    conv => lhs; rw [e]
    rfl
  have hq := pow_lt hx (2 * (n / 2))
  rw [e2, mul_comm hq hx, ← mul_assoc hp hx hq]

set_option maxHeartbeats 1600000 in
set_option maxRecDepth 100000 in
theorem raised_any (a n : Nat) (x m : Int) (hx : x = (a : Int)) (hm : m = (n : Int)) (w : World) (ha : a < 256) (hn : n < 4611686018427387904) :
    Calls Try.prog 159 #[.int .u8 x, .int .i64 m] w fun e w' => e = .returned (.int .u8 (pow a n : Nat)) ∧ w = w' := by
  subst hx
  subst hm
  have HF : Hid (mul 1 (pow a n) = pow a n) := mul_one_left (pow_lt ha n)
  go_enter Try.func159, Try.ntmps159
  go_wp2_with fail
  go_loop [0, 1, 5] (fun x m p => ∃ b k q : Nat, b < 256 ∧ k ≤ n ∧ q < 256 ∧ x = .int .u8 b ∧ m = .int .i64 k ∧ p = .int .u8 q ∧ Hid (mul q (pow b k) = mul 1 (pow a n))) (fun _ m _ => (intOf m).toNat)
  case atStart => exact ⟨a, n, 1, ha, by omega, by omega, rfl, rfl, rfl, rfl⟩
  case round =>
    obtain ⟨b, k, q, hb, hk, hq, rfl, rfl, rfl, HI⟩ := hrel
    by_cases h0 : k = 0
    · subst h0
      have HE : Hid (q = pow a n) := by
        show _ = _
        have h := HI.out
        rw [HF.out] at h
        rw [← h]
        show q = mul q 1
        rw [mul_comm hq (by omega), mul_one_left hq]
      go_wp2
      go_ret
      exact ⟨ret_int (by rw [← HE.out]), rfl⟩
    · have hk1 : (1 : Int) ≤ (k : Int) := by omega
      have e := i64_and_nat k 1 (by omega) (by omega)
      rw [nat_mask1] at e
      by_cases hb2 : k % 2 = 1
      · have HN : Hid (mul (mul q b) (pow (mul b b) (k / 2)) = mul 1 (pow a n)) := by show _ = _; rw [← HI.out, rise_odd hq hb hb2]
        rw [hb2] at e
        have hT : (bits .and .i64 (k : Int) 1 == 1) = true := by rw [show (1 : Int) = ((1 : Nat) : Int) from rfl, e]; rfl
        clear e hb2 h0
        go_wp2_with fail
        refine (mul_any q b _ hq hb).mono ?_
        rintro e w' ⟨rfl, rfl⟩
        go_wp2_with fail
        refine (mul_any b b _ hb hb).mono ?_
        rintro e w' ⟨rfl, rfl⟩
        go_wp2_with fail
        go_round
        case rel => exact ⟨mul b b, k / 2, mul q b, mul_lt hb b, by omega, mul_lt hq b, rfl, by go_num, rfl, HN⟩
        case measure => simp [intOf]; omega
      · have h2 : k % 2 = 0 := by omega
        have HN : Hid (mul q (pow (mul b b) (k / 2)) = mul 1 (pow a n)) := by show _ = _; rw [← HI.out, rise_even hb h2]
        rw [h2] at e
        have hT : (bits .and .i64 (k : Int) 1 == 1) = false := by rw [show (1 : Int) = ((1 : Nat) : Int) from rfl, e]; rfl
        clear e hb2 h0 h2
        go_wp2_with fail
        refine (mul_any b b _ hb hb).mono ?_
        rintro e w' ⟨rfl, rfl⟩
        go_wp2_with fail
        go_round
        case rel => exact ⟨mul b b, k / 2, q, mul_lt hb b, by omega, hq, rfl, by go_num, rfl, HN⟩
        case measure => simp [intOf]; omega

/-- The quotient; is there one? -/
def divF (a b : Nat) : Nat × Bool := if b = 0 then (0, false) else (mul a (pow b 254), true)

set_option maxHeartbeats 1600000 in
set_option maxRecDepth 100000 in
theorem div_any (a b : Nat) (w : World) (ha : a < 256) (hb : b < 256) :
    Calls Try.prog 93 #[.int .u8 a, .int .u8 b] w fun e w' => e = .returned (.tuple #[.int .u8 ((divF a b).1 : Nat), .bool (divF a b).2]) ∧ w = w' := by
  unfold divF
  by_cases h0 : b = 0
  · subst h0
    rw [if_pos rfl]
    go_enter Try.func93, Try.ntmps93
    go_wp2
    go_ret2
    exact ⟨rfl, rfl⟩
  · have hb1 : (1 : Int) ≤ (b : Int) := by omega
    rw [if_neg h0]
    show Calls _ _ _ _ fun e w' => e = .returned (.tuple #[.int .u8 (mul a (pow b 254) : Nat), .bool true]) ∧ w = w'
    have hz : ((b : Int) == 0) = false := by rw [beq_eq_false_iff_ne]; omega
    have hp := pow_lt hb 254
    obtain ⟨p, HP⟩ : ∃ p, Hid (pow b 254 = p) := ⟨_, rfl⟩
    rw [HP.out] at hp
    rw [HP.out]
    clear h0
    go_enter Try.func93, Try.ntmps93
    go_wp2_with fail
    refine (raised_any b 254 _ _ rfl (by rfl) _ hb (by omega)).mono ?_
    rintro e w' ⟨rfl, rfl⟩
    rw [HP.out]
    go_wp2_with fail
    refine (mul_any a p _ ha hp).mono ?_
    rintro e w' ⟨rfl, rfl⟩
    go_wp2_with fail
    go_ret2
    exact ⟨rfl, rfl⟩
set_option maxHeartbeats 1600000 in
set_option maxRecDepth 100000 in
theorem rdiv_any (a b : Nat) (w : World) (ha : a < 256) (hb : b < 256) :
    Calls Try.prog 86 #[.int .u8 a, .int .u8 b] w fun e w' => e = .returned (.tuple #[.int .u8 ((divF a b).1 : Nat), .bool (divF a b).2]) ∧ w = w' := by
  unfold divF
  by_cases h0 : b = 0
  · subst h0
    rw [if_pos rfl]
    go_enter Try.func86, Try.ntmps86
    go_wp2
    go_ret2
    exact ⟨rfl, rfl⟩
  · have hb1 : (1 : Int) ≤ (b : Int) := by omega
    rw [if_neg h0]
    show Calls _ _ _ _ fun e w' => e = .returned (.tuple #[.int .u8 (mul a (pow b 254) : Nat), .bool true]) ∧ w = w'
    have hz : ((b : Int) == 0) = false := by rw [beq_eq_false_iff_ne]; omega
    obtain ⟨r, HP⟩ : ∃ p, Hid (mul a (pow b 254) = p) := ⟨_, rfl⟩
    have HT : Hid (timesN a b 254 = r) := by show _ = _; rw [← HP.out]; exact timesN_eq ha hb 254
    rw [HP.out]
    clear h0
    go_enter Try.func86, Try.ntmps86
    go_wp2_with fail
    go_loop [6, 7] (fun q i => ∃ k : Nat, k ≤ 254 ∧ i = .int .i64 k ∧ q = .int .u8 (timesN a b k : Nat)) (fun _ i => 254 - (intOf i).toNat)
    case atStart => exact ⟨0, by omega, rfl, rfl⟩
    case round =>
      obtain ⟨k, hk, rfl, rfl⟩ := hrel
      by_cases h5 : k < 254
      · have hq := timesN_lt ha b k
        have HS : Hid (timesN a b (k + 1) = mul (timesN a b k) b) := rfl
        generalize timesN a b k = q at *
        go_wp2_with fail
        refine (rmul_any q b _ hq hb).mono ?_
        rintro e w' ⟨rfl, rfl⟩
        go_wp2_with fail
        go_round
        case rel => exact ⟨k + 1, by omega, by go_num, by rw [HS.out]⟩
        case measure => simp [intOf]; omega
      · obtain rfl : k = 254 := by omega
        rw [HT.out]
        go_wp2_with fail
        go_ret2
        exact ⟨rfl, rfl⟩
end Go.Proofs.Ytclcgfngolfmlaa
