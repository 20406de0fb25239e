/-
  The document's ones, CodeOf and MendOf.
-/
import Derived.Test.YtidgdjagaifofaaDoorCodeP
import Derived.Test.YtidgdjagaifofaaDoorChecked
namespace Go.Proofs.YtidgdjagaifofaaDoor
set_option linter.unusedSimpArgs false
set_option linter.unusedVariables false
open Go.RowKit

theorem cbit_i64 (x m : Nat) (h : x < 9223372036854775808) : bits .and .i64 ((x : Int) / 2 ^ m) 1 = ((x / 2 ^ m % 2 : Nat) : Int) := by
  have hm : x >>> m ≤ x := by rw [Nat.shiftRight_eq_div_pow]; exact Nat.div_le_self _ _
  rw [shr_nat, ← Nat.shiftRight_eq_div_pow]
  have e := i64_and_nat (x >>> m) 1 (by omega) (by omega)
  rw [show ((1 : Nat) : Int) = 1 from rfl] at e
  rw [e, Nat.and_one_is_mod]
theorem one_i64 (x : Nat) (h : x < 9223372036854775808) : bits .and .i64 (x : Int) 1 = ((x % 2 : Nat) : Int) := by
  have e := i64_and_nat x 1 (by omega) (by omega)
  rw [show ((1 : Nat) : Int) = 1 from rfl] at e
  rw [e, Nat.and_one_is_mod]
theorem free_i64 (p : Nat) (h : p < 64) (h1 : 1 ≤ p) : bits .and .i64 (p : Int) ((p : Int) - 1) = ((p &&& (p - 1) : Nat) : Int) := by
  rw [show ((p : Int) - 1) = ((p - 1 : Nat) : Int) from by omega]
  exact i64_and_nat p (p - 1) (by omega) (by omega)
theorem pow39 : (2 : Nat) ^ 39 = 549755813888 := by decide
theorem or_shl {c b p : Nat} (hc : c < 549755813888) (hb : b ≤ 1) (hp : p < 39) : bits .or .i64 (c : Int) (wrap64 ((b : Int) * 2 ^ p)) = ((c ||| b * 2 ^ p : Nat) : Int) := by
  have h2 : 2 ^ p ≤ 2 ^ 38 := Nat.pow_le_pow_right (by decide) (by omega)
  have h3 : b * 2 ^ p ≤ 1 * 2 ^ 38 := Nat.mul_le_mul hb h2
  have e : ((b : Int) * 2 ^ p) = ((b * 2 ^ p : Nat) : Int) := by rw [int_pow2, Int.natCast_mul]
  rw [e]
  generalize b * 2 ^ p = q at *
  rw [IntWalk.wrap64_in _ (by omega)]
  exact i64_or_nat c q (by omega) (by omega)
theorem i64_eq' {a b : Int} (h : a = b) : Value.int .i64 a = .int .i64 b := by rw [h]
theorem onesTo_zero (c : Nat) : onesTo c 0 = (0, 0) := rfl
theorem onesTo_one {c p : Nat} (h : c / 2 ^ p % 2 = 1) : onesTo c (p + 1) = ((onesTo c p).1 + 1, (onesTo c p).2 ^^^ p) := by
  conv => lhs; unfold onesTo
  rw [if_pos h]
theorem onesTo_not {c p : Nat} (h : c / 2 ^ p % 2 ≠ 1) : onesTo c (p + 1) = onesTo c p := by
  conv => lhs; unfold onesTo
  rw [if_neg h]

set_option maxHeartbeats 1600000 in
set_option maxRecDepth 100000 in
theorem rones_any (c : Nat) (w : World) (hc : c < 549755813888) : Calls Tryd.prog 8 #[.int .i64 (c : Int)] w fun e w' => e = .returned (.tuple #[.int .i64 ((onesTo c 39).1 : Nat), .int .i64 ((onesTo c 39).2 : Nat)]) ∧ w = w' := by
  go_enter Tryd.func8, Tryd.ntmps8
  go_wp2_with fail
  go_loop [4, 5, 6] (fun n x p => ∃ k : Nat, k ≤ 39 ∧ p = .int .i64 k ∧ n = .int .i64 ((onesTo c k).1 : Nat) ∧ x = .int .i64 ((onesTo c k).2 : Nat)) (fun _ _ p => 39 - (intOf p).toNat)
  case atStart => exact ⟨0, by omega, by simp, rfl, rfl⟩
  case round =>
    obtain ⟨k, hk, rfl, rfl, rfl⟩ := hrel
    by_cases h0 : k < 39
    · have h0i : (k : Int) < 39 := by omega
      have e := cbit_i64 c k (by omega)
      have h1 := onesTo_le c k
      have h2 := onesTo_lt c k (by omega)
      by_cases hb : c / 2 ^ k % 2 = 1
      · have HS := Lib.hid (onesTo_one hb)
        have ex := i64_xor_nat (onesTo c k).2 k (by omega) (by omega)
        generalize onesTo c k = s at *
        obtain ⟨n, x⟩ := s
        dsimp only at *
        rw [hb] at e
        generalize x ^^^ k = y at *
        clear hb
        go_wp2_with fail
        go_round
        case rel => exact ⟨k + 1, by omega, by go_num, by rw [HS.out]; go_num, by rw [HS.out]⟩
        case measure => simp [intOf] <;> omega
      · have HS := Lib.hid (onesTo_not hb)
        have hb2 : c / 2 ^ k % 2 = 0 := by omega
        generalize onesTo c k = s at *
        obtain ⟨n, x⟩ := s
        dsimp only at *
        rw [hb2] at e
        clear hb hb2
        go_wp2_with fail
        go_round
        case rel => exact ⟨k + 1, by omega, by go_num, by rw [HS.out], by rw [HS.out]⟩
        case measure => simp [intOf] <;> omega
    · obtain rfl : k = 39 := by omega
      go_wp2_with fail
      go_ret2
      exact ⟨rfl, rfl⟩

theorem codeTo_free {n p : Nat} (h : freeB p = true) : codeTo n (p + 1) = ((codeTo n p).1 ||| (codeTo n p).2 % 2 * 2 ^ p, (codeTo n p).2 / 2) := by
  conv => lhs; unfold codeTo
  rw [if_pos h]
theorem codeTo_not {n p : Nat} (h : freeB p = false) : codeTo n (p + 1) = codeTo n p := by
  conv => lhs; unfold codeTo
  rw [if_neg (by rw [h]; simp)]
theorem codeTo_one (n : Nat) : codeTo n 1 = (0, n) := codeTo_not (by decide)
theorem freeB_iff (p : Nat) : freeB p = true ↔ (p &&& (p - 1)) ≠ 0 := by unfold freeB; simp
theorem fixTo_one {c w i : Nat} (h : w / 2 ^ i % 2 = 1) : fixTo c w (i + 1) = fixTo c w i ||| 2 ^ 2 ^ i := by
  conv => lhs; unfold fixTo
  rw [if_pos h]
theorem fixTo_not {c w i : Nat} (h : w / 2 ^ i % 2 ≠ 1) : fixTo c w (i + 1) = fixTo c w i := by
  conv => lhs; unfold fixTo
  rw [if_neg h]

set_option maxHeartbeats 6400000 in
set_option maxRecDepth 100000 in
theorem rcodeOf_good (n : Nat) (w : World) (hn : n < 4294967296) : Calls Tryd.prog 4 #[.int .i64 (n : Int)] w fun e w' => e = .returned (.tuple #[.int .i64 (codeW n : Nat), .int .i64 0]) ∧ w = w' := by
  have HO := Lib.hid (fun (c : Nat) (w : World) (h : c < 549755813888) => rones_any c w h)
  have HW : Hid (codeW n = fixTo (codeTo n 39).1 (onesTo (codeTo n 39).1 39).2 6 ||| (onesTo (fixTo (codeTo n 39).1 (onesTo (codeTo n 39).1 39).2 6) 39).1 % 2) := Lib.hid rfl
  have HCL := Lib.hid (codeTo_lt n)
  have HFL := Lib.hid (fun (c w : Nat) (h : c < 549755813888) (i : Nat) (hi : i ≤ 6) => (by have := fixTo_lt (c := c) (w := w) (by rw [pow39]; exact h) i hi; rwa [pow39] at this : fixTo c w i < 549755813888))
  have HOL := Lib.hid (fun (c : Nat) => onesTo_lt c 39 (by omega))
  have hCW : codeW n < 549755813888 := by
    rw [HW.out]
    have h1 := HFL.out (codeTo n 39).1 (onesTo (codeTo n 39).1 39).2 (by have := HCL.out 39; rwa [pow39] at this) 6 (by omega)
    generalize fixTo (codeTo n 39).1 (onesTo (codeTo n 39).1 39).2 6 = d at *
    have := Nat.or_lt_two_pow (n := 39) (x := d) (y := (onesTo d 39).1 % 2) (by rw [pow39]; exact h1) (by omega)
    rwa [pow39] at this
  have hni : (n : Int) ≤ 4294967295 := by omega
  have hn0 : (0 : Int) ≤ (n : Int) := by omega
  go_enter Tryd.func4, Tryd.ntmps4
  go_wp2_with fail
  go_loop [0, 4, 5] (fun x c p => ∃ k : Nat, 1 ≤ k ∧ k ≤ 39 ∧ p = .int .i64 k ∧ c = .int .i64 ((codeTo n k).1 : Nat) ∧ x = .int .i64 ((codeTo n k).2 : Nat)) (fun _ _ p => 39 - (intOf p).toNat)
  case atStart => exact ⟨1, by omega, by omega, by simp, by rw [codeTo_one]; rfl, by rw [codeTo_one]⟩
  case round =>
    obtain ⟨k, hk1, hk, rfl, rfl, rfl⟩ := hrel
    have hr := codeTo_rest n k
    have hl := HCL.out k
    have hl2 : (codeTo n k).1 < 549755813888 := Nat.lt_of_lt_of_le hl (by rw [← pow39]; exact Nat.pow_le_pow_right (by decide) hk)
    clear hl
    by_cases h0 : k < 39
    · have h0i : (k : Int) < 39 := by omega
      have e1 := free_i64 k (by omega) hk1
      by_cases hb : freeB k = true
      · have hb2 := (freeB_iff k).1 hb
        have HS := Lib.hid (codeTo_free (n := n) hb)
        generalize k &&& (k - 1) = f at *
        have d1 : ((f : Int) != 0) = true := by simpa using hb2
        generalize codeTo n k = s at *
        obtain ⟨c, x⟩ := s
        dsimp only at *
        have e2 := one_i64 x (by omega)
        have e3 := or_shl (b := x % 2) hl2 (by omega) h0
        have e4 : (x : Int) / 2 = ((x / 2 : Nat) : Int) := by omega
        generalize x / 2 = x2 at *
        generalize x % 2 = b at *
        generalize c ||| b * 2 ^ k = c2 at *
        clear hb hb2
        go_wp2_with fail
        go_round
        case rel => exact ⟨k + 1, by omega, by omega, by go_num, by rw [HS.out], by rw [HS.out]⟩
        case measure => simp [intOf] <;> omega
      · have hb2 : k &&& (k - 1) = 0 := Decidable.byContradiction (fun h => hb ((freeB_iff k).2 h))
        have HS := Lib.hid (codeTo_not (n := n) (p := k) (by simpa using hb))
        rw [hb2] at e1
        generalize codeTo n k = s at *
        obtain ⟨c, x⟩ := s
        dsimp only at *
        clear hb hb2
        go_wp2_with fail
        go_round
        case rel => exact ⟨k + 1, by omega, by omega, by go_num, by rw [HS.out], by rw [HS.out]⟩
        case measure => simp [intOf] <;> omega
    · obtain rfl : k = 39 := by omega
      generalize codeTo n 39 = s at *
      obtain ⟨c, x⟩ := s
      dsimp only at *
      have C1 := Lib.hid (HO.out c w hl2)
      have hsl := HOL.out c
      generalize (onesTo c 39).2 = s at *
      generalize (onesTo c 39).1 = n0 at *
      go_wp2_with fail
      refine C1.out.mono ?_
      rintro e w' ⟨rfl, rfl⟩
      go_wp2_with fail
      go_loop [4, 8] (fun d i => ∃ k : Nat, k ≤ 6 ∧ i = .int .i64 k ∧ d = .int .i64 (fixTo c s k : Nat)) (fun _ i => 6 - (intOf i).toNat)
      case atStart => exact ⟨0, by omega, by simp, rfl⟩
      case round =>
        obtain ⟨k, hk, rfl, rfl⟩ := hrel
        have hf := HFL.out c s hl2 k hk
        by_cases h0 : k < 6
        · have e := cbit_i64 s k (by omega)
          by_cases hb : s / 2 ^ k % 2 = 1
          · have HS := Lib.hid (fixTo_one (c := c) hb)
            rw [hb] at e
            clear hb
            have hcases : k = 0 ∨ k = 1 ∨ k = 2 ∨ k = 3 ∨ k = 4 ∨ k = 5 := by omega
            by_cases hj0 : k = 0
            · subst hj0
              rw [show (2 : Nat) ^ 2 ^ 0 = 2 from by decide] at HS
              have e3 : bits .or .i64 (fixTo c s 0 : Int) 2 = ((fixTo c s 0 ||| 2 : Nat) : Int) := i64_or_nat (fixTo c s 0) 2 (by omega) (by omega)
              have e5 : bits .and .i64 ((s : Int) / 1) 1 = 1 := by simpa using e
              have e6 : 0 = 0 → bits .and .i64 (s : Int) 1 = 1 := fun h => by first | (cases h; done) | simpa using e
              try simp at e6
              generalize fixTo c s 0 = d at *
              generalize d ||| 2 = d2 at *
              clear e hcases
              go_wp2_with fail
              go_round
              case rel => exact ⟨0 + 1, by omega, by go_num, by rw [HS.out]⟩
              case measure => simp [intOf]
            by_cases hj1 : k = 1
            · subst hj1
              rw [show (2 : Nat) ^ 2 ^ 1 = 4 from by decide] at HS
              have e3 : bits .or .i64 (fixTo c s 1 : Int) 4 = ((fixTo c s 1 ||| 4 : Nat) : Int) := i64_or_nat (fixTo c s 1) 4 (by omega) (by omega)
              have e5 : bits .and .i64 ((s : Int) / 2) 1 = 1 := by simpa using e
              have e6 : 1 = 0 → bits .and .i64 (s : Int) 1 = 1 := fun h => by first | (cases h; done) | simpa using e
              try simp at e6
              generalize fixTo c s 1 = d at *
              generalize d ||| 4 = d2 at *
              clear e hcases
              go_wp2_with fail
              go_round
              case rel => exact ⟨1 + 1, by omega, by go_num, by rw [HS.out]⟩
              case measure => simp [intOf]
            by_cases hj2 : k = 2
            · subst hj2
              rw [show (2 : Nat) ^ 2 ^ 2 = 16 from by decide] at HS
              have e3 : bits .or .i64 (fixTo c s 2 : Int) 16 = ((fixTo c s 2 ||| 16 : Nat) : Int) := i64_or_nat (fixTo c s 2) 16 (by omega) (by omega)
              have e5 : bits .and .i64 ((s : Int) / 4) 1 = 1 := by simpa using e
              have e6 : 2 = 0 → bits .and .i64 (s : Int) 1 = 1 := fun h => by first | (cases h; done) | simpa using e
              try simp at e6
              generalize fixTo c s 2 = d at *
              generalize d ||| 16 = d2 at *
              clear e hcases
              go_wp2_with fail
              go_round
              case rel => exact ⟨2 + 1, by omega, by go_num, by rw [HS.out]⟩
              case measure => simp [intOf]
            by_cases hj3 : k = 3
            · subst hj3
              rw [show (2 : Nat) ^ 2 ^ 3 = 256 from by decide] at HS
              have e3 : bits .or .i64 (fixTo c s 3 : Int) 256 = ((fixTo c s 3 ||| 256 : Nat) : Int) := i64_or_nat (fixTo c s 3) 256 (by omega) (by omega)
              have e5 : bits .and .i64 ((s : Int) / 8) 1 = 1 := by simpa using e
              have e6 : 3 = 0 → bits .and .i64 (s : Int) 1 = 1 := fun h => by first | (cases h; done) | simpa using e
              try simp at e6
              generalize fixTo c s 3 = d at *
              generalize d ||| 256 = d2 at *
              clear e hcases
              go_wp2_with fail
              go_round
              case rel => exact ⟨3 + 1, by omega, by go_num, by rw [HS.out]⟩
              case measure => simp [intOf]
            by_cases hj4 : k = 4
            · subst hj4
              rw [show (2 : Nat) ^ 2 ^ 4 = 65536 from by decide] at HS
              have e3 : bits .or .i64 (fixTo c s 4 : Int) 65536 = ((fixTo c s 4 ||| 65536 : Nat) : Int) := i64_or_nat (fixTo c s 4) 65536 (by omega) (by omega)
              have e5 : bits .and .i64 ((s : Int) / 16) 1 = 1 := by simpa using e
              have e6 : 4 = 0 → bits .and .i64 (s : Int) 1 = 1 := fun h => by first | (cases h; done) | simpa using e
              try simp at e6
              generalize fixTo c s 4 = d at *
              generalize d ||| 65536 = d2 at *
              clear e hcases
              go_wp2_with fail
              go_round
              case rel => exact ⟨4 + 1, by omega, by go_num, by rw [HS.out]⟩
              case measure => simp [intOf]
            by_cases hj5 : k = 5
            · subst hj5
              rw [show (2 : Nat) ^ 2 ^ 5 = 4294967296 from by decide] at HS
              have e3 : bits .or .i64 (fixTo c s 5 : Int) 4294967296 = ((fixTo c s 5 ||| 4294967296 : Nat) : Int) := i64_or_nat (fixTo c s 5) 4294967296 (by omega) (by omega)
              have e5 : bits .and .i64 ((s : Int) / 32) 1 = 1 := by simpa using e
              have e6 : 5 = 0 → bits .and .i64 (s : Int) 1 = 1 := fun h => by first | (cases h; done) | simpa using e
              try simp at e6
              generalize fixTo c s 5 = d at *
              generalize d ||| 4294967296 = d2 at *
              clear e hcases
              go_wp2_with fail
              go_round
              case rel => exact ⟨5 + 1, by omega, by go_num, by rw [HS.out]⟩
              case measure => simp [intOf]
            exact absurd h0 (by omega)
          · have HS := Lib.hid (fixTo_not (c := c) hb)
            have hb2 : s / 2 ^ k % 2 = 0 := by omega
            rw [hb2] at e
            have h0i : (k : Int) < 6 := by omega
            clear hb hb2
            generalize fixTo c s k = d at *
            go_wp2_with fail
            go_round
            case rel => exact ⟨k + 1, by omega, by go_num, by rw [HS.out]⟩
            case measure => simp [intOf] <;> omega
        · obtain rfl : k = 6 := by omega
          have C2 := Lib.hid (HO.out (fixTo c s 6) w hf)
          generalize fixTo c s 6 = d at *
          have e2 := one_i64 (onesTo d 39).1 (by have := onesTo_le d 39; omega)
          have e3 := i64_or_nat d ((onesTo d 39).1 % 2) (by omega) (by omega)
          generalize (onesTo d 39).1 % 2 = m at *
          generalize d ||| m = dm at *
          generalize (onesTo d 39).2 = n2 at *
          generalize (onesTo d 39).1 = n1 at *
          go_wp2_with fail
          refine C2.out.mono ?_
          rintro e w' ⟨rfl, rfl⟩
          go_wp2_with fail
          go_ret2
          exact ⟨by rw [HW.out]; rfl, rfl⟩
theorem rcodeOf_any (n : Int) (w : World) : Calls Tryd.prog 4 #[.int .i64 n] w fun e w' => e = .returned (.tuple #[.int .i64 (codeOf n).1, .int .i64 (codeOf n).2]) ∧ w = w' := by
  unfold codeOf
  by_cases h : n < 0 ∨ 4294967295 < n
  · rw [if_pos h]
    by_cases h0 : n < 0
    · clear h
      go_enter Tryd.func4, Tryd.ntmps4
      go_wp2_with fail
      go_ret2
      exact ⟨rfl, rfl⟩
    · have h1 : 4294967295 < n := by omega
      clear h
      go_enter Tryd.func4, Tryd.ntmps4
      go_wp2_with fail
      go_ret2
      exact ⟨rfl, rfl⟩
  · rw [if_neg h]
    obtain ⟨m, rfl⟩ := Int.eq_ofNat_of_zero_le (show 0 ≤ n by omega)
    exact rcodeOf_good m w (by omega)

theorem exTo_free {c p : Nat} (h : freeB p = true) : exTo c (p + 1) = ((exTo c p).1 ||| c / 2 ^ p % 2 * 2 ^ (exTo c p).2, (exTo c p).2 + 1) := by
  conv => lhs; unfold exTo
  rw [if_pos h]
theorem exTo_not {c p : Nat} (h : freeB p = false) : exTo c (p + 1) = exTo c p := by
  conv => lhs; unfold exTo
  rw [if_neg (by rw [h]; simp)]
theorem exTo_one (c : Nat) : exTo c 1 = (0, 0) := exTo_not (by decide)
theorem exTo_lt39 (c : Nat) {p : Nat} (h : p ≤ 39) : (exTo c p).1 < 549755813888 := by
  have h1 := exTo_lt c p
  have h2 := exTo_le c p
  have : 2 ^ (exTo c p).2 ≤ 2 ^ 39 := Nat.pow_le_pow_right (by decide) (by omega)
  rw [pow39] at this
  omega
theorem xor_shl1 {c s : Nat} (hc : c < 549755813888) (hs : s < 39) : bits .xor .i64 (c : Int) (wrap64 (2 ^ s)) = ((c ^^^ 2 ^ s : Nat) : Int) ∧ c ^^^ 2 ^ s < 549755813888 := by
  have h2 : 2 ^ s ≤ 2 ^ 38 := Nat.pow_le_pow_right (by decide) (by omega)
  have h3 : c ^^^ 2 ^ s < 2 ^ 39 := Nat.xor_lt_two_pow (by rw [pow39]; exact hc) (by omega)
  rw [pow39] at h3
  refine ⟨?_, h3⟩
  rw [int_pow2]
  generalize 2 ^ s = q at *
  rw [IntWalk.wrap64_in _ (by omega)]
  exact i64_xor_nat c q (by omega) (by omega)
set_option maxHeartbeats 6400000 in
set_option maxRecDepth 100000 in
theorem rmend_no (c : Nat) (w : World) (hc : c < 549755813888) (h : ¬ ((onesTo c 39).1 % 2 = 1 ∧ (onesTo c 39).2 < 39)) (h2 : (onesTo c 39).1 % 2 = 1 ∨ (onesTo c 39).2 ≠ 0) :
    Calls Tryd.prog 6 #[.int .i64 (c : Int)] w fun e w' => e = .returned (.tuple #[.int .i64 0, .bool false, .int .i64 18]) ∧ w = w' := by
  have C1 := Lib.hid (rones_any c w hc)
  have hn := onesTo_le c 39
  generalize (onesTo c 39).1 = n at *
  generalize (onesTo c 39).2 = s at *
  have hc0 : (0 : Int) ≤ (c : Int) := by omega
  have hc1 : (c : Int) / 549755813888 = 0 := by omega
  by_cases h1 : n % 2 = 1
  · have e1 : (n : Int) % 2 = 1 := by omega
    have e2 : (n : Int).tmod 2 = 1 := by rw [Int.tmod_eq_emod_of_nonneg (by omega)]; omega
    have e3 : decide ((s : Int) < 39) = false := decide_eq_false (by omega)
    clear h h2 h1
    go_enter Tryd.func6, Tryd.ntmps6
    go_wp2_with fail
    refine C1.out.mono ?_
    rintro e w' ⟨rfl, rfl⟩
    go_wp2_with fail
    refine bodyPost_ret (v := .tuple #[.int .i64 0, .bool false, .int .i64 18]) (by simp [results, Tryd.results6, go_sem]) rfl ?_
    exact ⟨rfl, rfl⟩
  · have e1 : (n : Int) % 2 = 0 := by omega
    have e2 : (n : Int).tmod 2 = 0 := by rw [Int.tmod_eq_emod_of_nonneg (by omega)]; omega
    have e3 : ((s : Int) != 0) = true := by simp; omega
    clear h h2 h1
    go_enter Tryd.func6, Tryd.ntmps6
    go_wp2_with fail
    refine C1.out.mono ?_
    rintro e w' ⟨rfl, rfl⟩
    go_wp2_with fail
    refine bodyPost_ret (v := .tuple #[.int .i64 0, .bool false, .int .i64 18]) (by simp [results, Tryd.results6, go_sem]) rfl ?_
    exact ⟨rfl, rfl⟩
set_option maxHeartbeats 6400000 in
set_option maxRecDepth 100000 in
theorem rmend_yes (c : Nat) (w : World) (hc : c < 549755813888) (h1 : (onesTo c 39).1 % 2 = 1) (h2 : (onesTo c 39).2 < 39) :
    Calls Tryd.prog 6 #[.int .i64 (c : Int)] w fun e w' => e = .returned (.tuple #[.int .i64 ((exTo (c ^^^ 2 ^ (onesTo c 39).2) 39).1 : Nat), .bool true, .int .i64 0]) ∧ w = w' := by
  have C1 := Lib.hid (rones_any c w hc)
  have hn := onesTo_le c 39
  obtain ⟨hx, hxl⟩ := xor_shl1 (s := (onesTo c 39).2) hc h2
  have e1 : (((onesTo c 39).1 : Nat) : Int) % 2 = (((onesTo c 39).1 % 2 : Nat) : Int) := by omega
  have e2 : (((onesTo c 39).1 : Nat) : Int).tmod 2 = (((onesTo c 39).1 % 2 : Nat) : Int) := by rw [Int.tmod_eq_emod_of_nonneg (by omega)]; omega
  rw [h1] at e1 e2
  generalize (onesTo c 39).1 = n at *
  generalize (onesTo c 39).2 = s at *
  generalize hm : c ^^^ 2 ^ s = m at *
  have h2i : (s : Int) < 39 := by omega
  clear hm
  have hc0 : (0 : Int) ≤ (c : Int) := by omega
  have hc1 : (c : Int) / 549755813888 = 0 := by omega
  clear h1 hn
  go_enter Tryd.func6, Tryd.ntmps6
  go_wp2_with fail
  refine C1.out.mono ?_
  rintro e w' ⟨rfl, rfl⟩
  go_wp2_with fail
  clear hx e1 e2 hc1 hc0 hc C1
  go_loop [8, 9, 10] (fun x a p => ∃ k : Nat, 1 ≤ k ∧ k ≤ 39 ∧ p = .int .i64 k ∧ x = .int .i64 ((exTo m k).1 : Nat) ∧ a = .int .i64 ((exTo m k).2 : Nat)) (fun _ _ p => 39 - (intOf p).toNat)
  case atStart => exact ⟨1, by omega, by omega, by simp, by rw [exTo_one]; rfl, by rw [exTo_one]; rfl⟩
  case round =>
    obtain ⟨k, hk1, hk, rfl, rfl, rfl⟩ := hrel
    have hl2 := exTo_lt39 m hk
    have ha := exTo_le m k
    by_cases h0 : k < 39
    · have h0i : (k : Int) < 39 := by omega
      have e1 := free_i64 k (by omega) hk1
      by_cases hb : freeB k = true
      · have hb2 := (freeB_iff k).1 hb
        have HS := Lib.hid (exTo_free (c := m) hb)
        generalize k &&& (k - 1) = f at *
        have d1 : ((f : Int) != 0) = true := by simpa using hb2
        generalize exTo m k = q at *
        obtain ⟨x, a⟩ := q
        dsimp only at *
        have e2 := cbit_i64 m k (by omega)
        have e3 := or_shl (b := m / 2 ^ k % 2) (p := a) hl2 (by omega) (by omega)
        generalize m / 2 ^ k % 2 = b at *
        generalize x ||| b * 2 ^ a = x2 at *
        clear hb hb2
        go_wp2_with fail
        go_round
        case rel => exact ⟨k + 1, by omega, by omega, by go_num, by rw [HS.out], by rw [HS.out]; go_num⟩
        case measure => simp [intOf] <;> omega
      · have hb2 : k &&& (k - 1) = 0 := Decidable.byContradiction (fun h => hb ((freeB_iff k).2 h))
        have HS := Lib.hid (exTo_not (c := m) (p := k) (by simpa using hb))
        rw [hb2] at e1
        generalize exTo m k = q at *
        obtain ⟨x, a⟩ := q
        dsimp only at *
        clear hb hb2
        go_wp2_with fail
        go_round
        case rel => exact ⟨k + 1, by omega, by omega, by go_num, by rw [HS.out], by rw [HS.out]⟩
        case measure => simp [intOf] <;> omega
    · obtain rfl : k = 39 := by omega
      obtain ⟨x, hx⟩ : ∃ x, x = (exTo m 39).1 := ⟨_, rfl⟩
      rw [← hx]
      have HX := Lib.hid hx
      clear hx
      go_wp2_with fail
      refine bodyPost_ret (v := .tuple #[.int .i64 (x : Int), .bool true, .int .i64 0]) (by simp [results, Tryd.results6, go_sem]) rfl ?_
      exact ⟨by rw [HX.out], rfl⟩
set_option maxHeartbeats 6400000 in
set_option maxRecDepth 100000 in
theorem rmend_zero (c : Nat) (w : World) (hc : c < 549755813888) (h1 : (onesTo c 39).1 % 2 = 0) (h2 : (onesTo c 39).2 = 0) :
    Calls Tryd.prog 6 #[.int .i64 (c : Int)] w fun e w' => e = .returned (.tuple #[.int .i64 ((exTo (c) 39).1 : Nat), .bool false, .int .i64 0]) ∧ w = w' := by
  have C1 := Lib.hid (rones_any c w hc)
  have hn := onesTo_le c 39
  have e1 : (((onesTo c 39).1 : Nat) : Int) % 2 = (((onesTo c 39).1 % 2 : Nat) : Int) := by omega
  have e2 : (((onesTo c 39).1 : Nat) : Int).tmod 2 = (((onesTo c 39).1 % 2 : Nat) : Int) := by rw [Int.tmod_eq_emod_of_nonneg (by omega)]; omega
  rw [h1] at e1 e2
  generalize (onesTo c 39).1 = n at *
  rw [h2] at C1
  have hc0 : (0 : Int) ≤ (c : Int) := by omega
  have hc1 : (c : Int) / 549755813888 = 0 := by omega
  clear h1 hn
  go_enter Tryd.func6, Tryd.ntmps6
  go_wp2_with fail
  refine C1.out.mono ?_
  rintro e w' ⟨rfl, rfl⟩
  go_wp2_with fail
  clear e1 e2 hc1 hc0 C1
  go_loop [8, 9, 10] (fun x a p => ∃ k : Nat, 1 ≤ k ∧ k ≤ 39 ∧ p = .int .i64 k ∧ x = .int .i64 ((exTo c k).1 : Nat) ∧ a = .int .i64 ((exTo c k).2 : Nat)) (fun _ _ p => 39 - (intOf p).toNat)
  case atStart => exact ⟨1, by omega, by omega, by simp, by rw [exTo_one]; rfl, by rw [exTo_one]; rfl⟩
  case round =>
    obtain ⟨k, hk1, hk, rfl, rfl, rfl⟩ := hrel
    have hl2 := exTo_lt39 c hk
    have ha := exTo_le c k
    by_cases h0 : k < 39
    · have h0i : (k : Int) < 39 := by omega
      have e1 := free_i64 k (by omega) hk1
      by_cases hb : freeB k = true
      · have hb2 := (freeB_iff k).1 hb
        have HS := Lib.hid (exTo_free (c := c) hb)
        generalize k &&& (k - 1) = f at *
        have d1 : ((f : Int) != 0) = true := by simpa using hb2
        generalize exTo c k = q at *
        obtain ⟨x, a⟩ := q
        dsimp only at *
        have e2 := cbit_i64 c k (by omega)
        have e3 := or_shl (b := c / 2 ^ k % 2) (p := a) hl2 (by omega) (by omega)
        generalize c / 2 ^ k % 2 = b at *
        generalize x ||| b * 2 ^ a = x2 at *
        clear hb hb2
        go_wp2_with fail
        go_round
        case rel => exact ⟨k + 1, by omega, by omega, by go_num, by rw [HS.out], by rw [HS.out]; go_num⟩
        case measure => simp [intOf] <;> omega
      · have hb2 : k &&& (k - 1) = 0 := Decidable.byContradiction (fun h => hb ((freeB_iff k).2 h))
        have HS := Lib.hid (exTo_not (c := c) (p := k) (by simpa using hb))
        rw [hb2] at e1
        generalize exTo c k = q at *
        obtain ⟨x, a⟩ := q
        dsimp only at *
        clear hb hb2
        go_wp2_with fail
        go_round
        case rel => exact ⟨k + 1, by omega, by omega, by go_num, by rw [HS.out], by rw [HS.out]⟩
        case measure => simp [intOf] <;> omega
    · obtain rfl : k = 39 := by omega
      obtain ⟨x, hx⟩ : ∃ x, x = (exTo c 39).1 := ⟨_, rfl⟩
      rw [← hx]
      have HX := Lib.hid hx
      clear hx
      go_wp2_with fail
      refine bodyPost_ret (v := .tuple #[.int .i64 (x : Int), .bool false, .int .i64 0]) (by simp [results, Tryd.results6, go_sem]) rfl ?_
      exact ⟨by rw [HX.out], rfl⟩
theorem rmendOf_any (c : Int) (w : World) : Calls Tryd.prog 6 #[.int .i64 c] w fun e w' => e = .returned (.tuple #[.int .i64 (mendOf c).1, .bool (mendOf c).2.1, .int .i64 (mendOf c).2.2]) ∧ w = w' := by
  unfold mendOf
  by_cases h : c < 0 ∨ 549755813888 ≤ c
  · rw [if_pos h]
    by_cases h0 : c < 0
    · clear h
      go_enter Tryd.func6, Tryd.ntmps6
      go_wp2_with fail
      refine bodyPost_ret (v := .tuple #[.int .i64 0, .bool false, .int .i64 2]) (by simp [results, Tryd.results6, go_sem]) rfl ?_
      exact ⟨rfl, rfl⟩
    · have h1 : ((c / 549755813888) != 0) = true := by simp; omega
      have h2 : 0 ≤ c := by omega
      clear h h0
      go_enter Tryd.func6, Tryd.ntmps6
      go_wp2_with fail
      refine bodyPost_ret (v := .tuple #[.int .i64 0, .bool false, .int .i64 2]) (by simp [results, Tryd.results6, go_sem]) rfl ?_
      exact ⟨rfl, rfl⟩
  · rw [if_neg h]
    obtain ⟨m, rfl⟩ := Int.eq_ofNat_of_zero_le (show 0 ≤ c by omega)
    have hm : m < 549755813888 := by omega
    rw [Int.toNat_natCast]
    unfold mendW
    by_cases h1 : (onesTo m 39).1 % 2 = 1 ∧ (onesTo m 39).2 < 39
    · rw [if_pos h1]
      exact rmend_yes m w hm h1.1 h1.2
    · rw [if_neg h1]
      by_cases h2 : (onesTo m 39).1 % 2 = 1 ∨ (onesTo m 39).2 ≠ 0
      · rw [if_pos h2]
        exact rmend_no m w hm h1 h2
      · rw [if_neg h2]
        exact rmend_zero m w hm (by omega) (by omega)
end Go.Proofs.YtidgdjagaifofaaDoor
