/-
  Masks, plainly. No program is named here.
-/
import Derived.Test.YtppmdamcdhmcpaaMCommandSteps1
import Derived.Test.YtppmdamcdhmcpaaMCommandSteps20
import Derived.Test.YtppmdamcdhmcpaaMCommandSteps4
import Derived.Test.YtppmdamcdhmcpaaMCommandSteps16
namespace Go.Proofs.Ytppmdamcdhmcpaa
set_option linter.unusedSimpArgs false
set_option linter.unusedVariables false
open Go.RowKit

/-- The upper m bits of a number of k + m bits. -/
theorem hi_mask (a k m : Nat) (h : a < 2 ^ (k + m)) : a &&& ((2 ^ m - 1) <<< k) = a / 2 ^ k * 2 ^ k := by
  rw [← Nat.shiftRight_eq_div_pow, ← Nat.shiftLeft_eq]
  apply Nat.eq_of_testBit_eq
  intro i
  rw [Nat.testBit_and, Nat.testBit_shiftLeft, Nat.testBit_shiftLeft, Nat.testBit_shiftRight, Nat.testBit_two_pow_sub_one]
  by_cases hi : i ≥ k
  · rw [show k + (i - k) = i from by omega]
    by_cases hm : i - k < m
    · simp [hi, hm]
    · have : a.testBit i = false := Nat.testBit_lt_two_pow (Nat.lt_of_lt_of_le h (Nat.pow_le_pow_right (by omega) (by omega)))
      simp [this]
  · simp [hi]

theorem i64_andNot_nat (a b : Nat) (ha : a < 9223372036854775808) (hb : b < 9223372036854775808) : bits .andNot .i64 (a : Int) (b : Int) = ((a &&& (18446744073709551615 - b) : Nat) : Int) := by
  have hx : a &&& (18446744073709551615 - b) ≤ a := Nat.and_le_left
  show IntKind.i64.wrap ((BitVec.ofInt 64 (a : Int) &&& ~~~BitVec.ofInt 64 (b : Int)).toNat : Int) = _
  rw [BitVec.toNat_and, BitVec.toNat_not, ofInt_i64 a ha, ofInt_i64 b hb, IntKind.wrap_i64]
  have e : 2 ^ 64 - 1 - b = 18446744073709551615 - b := by omega
  rw [e]
  omega
/-- What is left of a status without the bits that tell something. -/
theorem status_rest {n : Nat} (h : n < 4294967296) : bits .andNot .i64 (n : Int) 16127 = ((n / 16384 * 16384 + n / 256 % 2 * 256 : Nat) : Int) := by
  have e := i64_andNot_nat n 16127 (by omega) (by omega)
  have hM : (18446744073709551615 - 16127 : Nat) = ((2 ^ 50 - 1) <<< 14) ||| 2 ^ 8 := by decide
  have h1 := hi_mask n 14 50 (Nat.lt_of_lt_of_le h (by decide))
  have h2 := nat_bit 8 n
  rw [hM, Nat.and_or_distrib_left, h1, h2, show (2 : Nat) ^ 14 = 16384 from by decide, show (2 : Nat) ^ 8 = 256 from by decide] at e
  rw [nat_join 14 _ _ (by omega) (by omega)] at e
  exact e
end Go.Proofs.Ytppmdamcdhmcpaa
namespace Go.Proofs.Ytppmdamcdhmcpaa
set_option linter.unusedSimpArgs false
set_option linter.unusedVariables false
open Go.RowKit

def gv7 (a b c : Int) (s w g : Bool) (n : Int) : Value := .agg #[.int .i64 a, .int .i64 b, .int .i64 c, .bool s, .bool w, .bool g, .int .i64 n]

def gateV (n : Nat) : Value := gv7 0 (n % 256 : Nat) 0 (decide (n / 8192 % 2 = 1)) (decide (n / 4096 % 2 = 1)) (decide (n / 2048 % 2 = 1)) (n / 512 % 4 : Nat)
theorem sh_and (n : Nat) (h : n < 4294967296) (m : Nat) : bits .and .i64 ((n : Int) / (m : Int)) 1 = ((n / m % 2 : Nat) : Int) := by
  have : n / m ≤ n := Nat.div_le_self _ _
  rw [show ((n : Int) / (m : Int)) = ((n / m : Nat) : Int) from by omega]
  exact and_one (by omega)
theorem sh_bit (n : Nat) (h : n < 4294967296) (m : Nat) : (bits .and .i64 ((n : Int) / (m : Int)) 1 == 1) = decide (n / m % 2 = 1) := by
  rw [sh_and n h m, Bool.eq_iff_iff]
  simp
  omega
theorem sh_count (n : Nat) (h : n < 4294967296) : bits .and .i64 ((n : Int) / 512) 3 = ((n / 512 % 4 : Nat) : Int) := by
  rw [show ((n : Int) / 512) = ((n / 512 : Nat) : Int) from by omega]
  exact and_two (by omega)
theorem mask_bit (n i : Nat) (h : n < 4294967296) (hi : i ≤ 30) : (bits .and .i64 (n : Int) ((2 ^ i : Nat) : Int) != 0) = decide (n / 2 ^ i % 2 = 1) := by
  have hp := Nat.two_pow_pos i
  have h2 : 2 ^ i ≤ 2 ^ 30 := Nat.pow_le_pow_right (by omega) hi
  rw [and_bit i (by omega) (by omega)]
  rcases Nat.mod_two_eq_zero_or_one (n / 2 ^ i) with h | h
  · rw [h]
    simp
  · rw [h, decide_eq_true rfl, bne_iff_ne]
    omega

theorem big_le {n : Nat} (h : n < 4294967296) : ∀ m : Int, m = 4294967295 → (n : Int) ≤ m := fun m hm => by omega
theorem cin_st (n m : Int) (hm : m = 4294967295) (h : 0 ≤ n ∧ n ≤ 4294967295) (w : World) :
    Calls Try.prog 23 #[.int .i64 n, .int .i64 0, .int .i64 m] w fun e w' => e = .returned (.bool true) ∧ w = w' := cin_yes n 0 m w h.1 (by omega)
theorem cout_st (n m : Int) (hm : m = 4294967295) (h : ¬ (0 ≤ n ∧ n ≤ 4294967295)) (w : World) :
    Calls Try.prog 23 #[.int .i64 n, .int .i64 0, .int .i64 m] w fun e w' => e = .returned (.bool false) ∧ w = w' := cin_no n 0 m w (by omega)

set_option maxHeartbeats 1600000 in
set_option maxRecDepth 100000 in
theorem statusOf_range (n : Int) (w : World) (h : ¬ (0 ≤ n ∧ n ≤ 4294967295)) :
    Calls Try.prog 31 #[.int .i64 n] w fun e w' => e = .returned (.tuple #[gv7 0 0 0 false false false 0, .int .i64 2]) ∧ Below w.heap.size w w' := by
  by_cases h1 : n < 0
  · clear h
    go_enter Try.func31, Try.ntmps31
    go_wp2
    refine bodyPost_ret (v := .tuple #[gv7 0 0 0 false false false 0, .int .i64 2]) (by simp [results, Try.results31, go_sem, gv7]) rfl ⟨rfl, (by repeat (first | with_reducible exact Below.refl _ _ | with_reducible assumption | with_reducible refine below_drewN ?_ _ | with_reducible refine Below.drew ?_ | with_reducible refine Below.alloc ?_ ?_ _ | with_reducible refine Below.setCell ?_ ?_ _ | with_reducible exact Nat.le_refl _ | (simp; omega) | (simp; done)))⟩
  · have h2 : 4294967295 < n := by omega
    clear h
    go_enter Try.func31, Try.ntmps31
    go_wp2
    refine bodyPost_ret (v := .tuple #[gv7 0 0 0 false false false 0, .int .i64 2]) (by simp [results, Try.results31, go_sem, gv7]) rfl ⟨rfl, (by repeat (first | with_reducible exact Below.refl _ _ | with_reducible assumption | with_reducible refine below_drewN ?_ _ | with_reducible refine Below.drew ?_ | with_reducible refine Below.alloc ?_ ?_ _ | with_reducible refine Below.setCell ?_ ?_ _ | with_reducible exact Nat.le_refl _ | (simp; omega) | (simp; done)))⟩
set_option maxHeartbeats 1600000 in
set_option maxRecDepth 100000 in
theorem statusOf_form (n : Nat) (w : World) (h : n < 4294967296) (hf : ¬ statusForm n) :
    Calls Try.prog 31 #[.int .i64 n] w fun e w' => e = .returned (.tuple #[gv7 0 0 0 false false false 0, .int .i64 8]) ∧ Below w.heap.size w w' := by
  have e8 := sh_and n h 256
  by_cases h1 : n / 16384 = 1024
  · have h2 : n / 256 % 2 = 1 := by have : ¬ n / 256 % 2 = 0 := fun g => hf ⟨h1, g⟩; omega
    rw [h2] at e8
    have d1 : ((n : Int) / 16384 != 1024) = false := by simp; omega
    have d2 : (bits .and .i64 ((n : Int) / 256) 1 != 0) = true := by rw [show (256 : Int) = ((256 : Nat) : Int) from rfl, e8]; rfl
    clear hf h2 e8 h1
    go_enter Try.func31, Try.ntmps31
    go_wp2
    refine bodyPost_ret (v := .tuple #[gv7 0 0 0 false false false 0, .int .i64 8]) (by simp [results, Try.results31, go_sem, gv7]) rfl ⟨rfl, (by repeat (first | with_reducible exact Below.refl _ _ | with_reducible assumption | with_reducible refine below_drewN ?_ _ | with_reducible refine Below.drew ?_ | with_reducible refine Below.alloc ?_ ?_ _ | with_reducible refine Below.setCell ?_ ?_ _ | with_reducible exact Nat.le_refl _ | (simp; omega) | (simp; done)))⟩
  · have d1 : ((n : Int) / 16384 != 1024) = true := by simp; omega
    clear hf e8 h1
    go_enter Try.func31, Try.ntmps31
    go_wp2
    refine bodyPost_ret (v := .tuple #[gv7 0 0 0 false false false 0, .int .i64 8]) (by simp [results, Try.results31, go_sem, gv7]) rfl ⟨rfl, (by repeat (first | with_reducible exact Below.refl _ _ | with_reducible assumption | with_reducible refine below_drewN ?_ _ | with_reducible refine Below.drew ?_ | with_reducible refine Below.alloc ?_ ?_ _ | with_reducible refine Below.setCell ?_ ?_ _ | with_reducible exact Nat.le_refl _ | (simp; omega) | (simp; done)))⟩
set_option maxHeartbeats 1600000 in
set_option maxRecDepth 100000 in
theorem statusOf_good (n : Nat) (w : World) (h : n < 4294967296) (hf : statusForm n) :
    Calls Try.prog 31 #[.int .i64 n] w fun e w' => e = .returned (.tuple #[gateV n, .int .i64 0]) ∧ Below w.heap.size w w' := by
  have e8 := sh_and n h 256
  rw [hf.2] at e8
  have d1 : ((n : Int) / 16384 != 1024) = false := by have := hf.1; simp; omega
  have d2 : (bits .and .i64 ((n : Int) / 256) 1 != 0) = false := by rw [show (256 : Int) = ((256 : Nat) : Int) from rfl, e8]; rfl
  have E1 := Lib.hid (and_eight (x := n) (by omega))
  have E2 := Lib.hid (sh_count n h)
  have E3 := Lib.hid (sh_bit n h 2048)
  have E4 := Lib.hid (sh_bit n h 4096)
  have E5 := Lib.hid (sh_bit n h 8192)
  clear hf e8
  go_enter Try.func31, Try.ntmps31
  go_wp2
  refine bodyPost_ret (v := .tuple #[.agg #[.int .i64 0, .int .i64 (bits .and .i64 (n : Int) 255), .int .i64 0, .bool (bits .and .i64 ((n : Int) / 8192) 1 == 1), .bool (bits .and .i64 ((n : Int) / 4096) 1 == 1), .bool (bits .and .i64 ((n : Int) / 2048) 1 == 1), .int .i64 (bits .and .i64 ((n : Int) / 512) 3)], .int .i64 0]) (by simp [results, Try.results31, go_sem]) rfl ⟨?_, (by repeat (first | with_reducible exact Below.refl _ _ | with_reducible assumption | with_reducible refine below_drewN ?_ _ | with_reducible refine Below.drew ?_ | with_reducible refine Below.alloc ?_ ?_ _ | with_reducible refine Below.setCell ?_ ?_ _ | with_reducible exact Nat.le_refl _ | (simp; omega) | (simp; done)))⟩
  have e3 := E3.out
  have e4 := E4.out
  have e5 := E5.out
  rw [show ((2048 : Nat) : Int) = 2048 from rfl] at e3
  rw [show ((4096 : Nat) : Int) = 4096 from rfl] at e4
  rw [show ((8192 : Nat) : Int) = 8192 from rfl] at e5
  rw [E1.out, E2.out, e3, e4, e5]
  rfl

set_option maxHeartbeats 1600000 in
set_option maxRecDepth 100000 in
theorem read_range (n : Int) (w : World) (h : ¬ (0 ≤ n ∧ n ≤ 4294967295)) :
    Calls Try.prog 34 #[.int .i64 n] w fun e w' => e = .returned (.tuple #[gv7 0 0 0 false false false 0, .int .i64 2]) ∧ Below w.heap.size w w' := by
  have H := Lib.hid h
  clear h
  go_enter Try.func34, Try.ntmps34
  go_wp2_with fail
  refine (cout_st n _ rfl H.out _).mono ?_
  rintro e w' ⟨rfl, rfl⟩
  go_wp2
  refine bodyPost_ret (v := .tuple #[gv7 0 0 0 false false false 0, .int .i64 2]) (by simp [results, Try.results34, go_sem, gv7]) rfl ⟨rfl, (by repeat (first | with_reducible exact Below.refl _ _ | with_reducible assumption | with_reducible refine below_drewN ?_ _ | with_reducible refine Below.drew ?_ | with_reducible refine Below.alloc ?_ ?_ _ | with_reducible refine Below.setCell ?_ ?_ _ | with_reducible exact Nat.le_refl _ | (simp; omega) | (simp; done)))⟩
set_option maxHeartbeats 1600000 in
set_option maxRecDepth 100000 in
theorem read_form (n : Nat) (w : World) (h : n < 4294967296) (hf : ¬ statusForm n) :
    Calls Try.prog 34 #[.int .i64 n] w fun e w' => e = .returned (.tuple #[gv7 0 0 0 false false false 0, .int .i64 8]) ∧ Below w.heap.size w w' := by
  have e := status_rest h
  have d : (bits .andNot .i64 (n : Int) 16127 != 16777216) = true := by
    rw [e]
    unfold statusForm at hf
    simp
    omega
  have H : Hid (0 ≤ (n : Int) ∧ (n : Int) ≤ 4294967295) := ⟨by omega, by omega⟩
  clear hf e h
  go_enter Try.func34, Try.ntmps34
  go_wp2_with fail
  refine (cin_st n _ rfl H.out _).mono ?_
  rintro e w' ⟨rfl, rfl⟩
  go_wp2
  refine bodyPost_ret (v := .tuple #[gv7 0 0 0 false false false 0, .int .i64 8]) (by simp [results, Try.results34, go_sem, gv7]) rfl ⟨rfl, (by repeat (first | with_reducible exact Below.refl _ _ | with_reducible assumption | with_reducible refine below_drewN ?_ _ | with_reducible refine Below.drew ?_ | with_reducible refine Below.alloc ?_ ?_ _ | with_reducible refine Below.setCell ?_ ?_ _ | with_reducible exact Nat.le_refl _ | (simp; omega) | (simp; done)))⟩
set_option maxHeartbeats 1600000 in
set_option maxRecDepth 100000 in
theorem read_good (n : Nat) (w : World) (h : n < 4294967296) (hf : statusForm n) :
    Calls Try.prog 34 #[.int .i64 n] w fun e w' => e = .returned (.tuple #[gateV n, .int .i64 0]) ∧ Below w.heap.size w w' := by
  have e := status_rest h
  have d : (bits .andNot .i64 (n : Int) 16127 != 16777216) = false := by
    rw [e]
    unfold statusForm at hf
    simp
    omega
  have H : Hid (0 ≤ (n : Int) ∧ (n : Int) ≤ 4294967295) := ⟨by omega, by omega⟩
  have E1 := Lib.hid (and_eight (x := n) (by omega))
  have E2 := Lib.hid (sh_count n h)
  have E3 := Lib.hid (mask_bit n 11 h (by omega))
  have E4 := Lib.hid (mask_bit n 12 h (by omega))
  have E5 := Lib.hid (mask_bit n 13 h (by omega))
  have n1 : (0 : Int) ≤ (n : Int) := by omega
  clear hf e h
  go_enter Try.func34, Try.ntmps34
  go_wp2_with fail
  refine (cin_st n _ rfl H.out _).mono ?_
  rintro e w' ⟨rfl, rfl⟩
  go_wp2
  refine bodyPost_ret (v := .tuple #[.agg #[.int .i64 0, .int .i64 (bits .and .i64 (n : Int) 255), .int .i64 0, .bool (bits .and .i64 (n : Int) 8192 != 0), .bool (bits .and .i64 (n : Int) 4096 != 0), .bool (bits .and .i64 (n : Int) 2048 != 0), .int .i64 (bits .and .i64 ((n : Int) / 512) 3)], .int .i64 0]) (by simp [results, Try.results34, go_sem]) rfl ⟨?_, (by repeat (first | with_reducible exact Below.refl _ _ | with_reducible assumption | with_reducible refine below_drewN ?_ _ | with_reducible refine Below.drew ?_ | with_reducible refine Below.alloc ?_ ?_ _ | with_reducible refine Below.setCell ?_ ?_ _ | with_reducible exact Nat.le_refl _ | (simp; omega) | (simp; done)))⟩
  have e3 := E3.out
  have e4 := E4.out
  have e5 := E5.out
  rw [show ((2 ^ 11 : Nat) : Int) = 2048 from rfl] at e3
  rw [show ((2 ^ 12 : Nat) : Int) = 4096 from rfl] at e4
  rw [show ((2 ^ 13 : Nat) : Int) = 8192 from rfl] at e5
  rw [E1.out, E2.out, e3, e4, e5]
  rfl

theorem statusOf_any (n : Int) (w : World) :
    Calls Try.prog 31 #[.int .i64 n] w fun e w' => e = .returned (.tuple #[gtv (readOf n).1, .int .i64 (readOf n).2]) ∧ Below w.heap.size w w' := by
  unfold readOf
  by_cases h : 0 ≤ n ∧ n ≤ 4294967295
  · rw [if_pos h]
    obtain ⟨m, rfl⟩ := Int.eq_ofNat_of_zero_le h.1
    by_cases hf : statusForm m
    · rw [if_pos (by simpa using hf)]
      exact statusOf_good m w (by omega) hf
    · rw [if_neg (by simpa using hf)]
      exact statusOf_form m w (by omega) hf
  · rw [if_neg h]
    exact statusOf_range n w h
theorem read_any (n : Int) (w : World) :
    Calls Try.prog 34 #[.int .i64 n] w fun e w' => e = .returned (.tuple #[gtv (readOf n).1, .int .i64 (readOf n).2]) ∧ Below w.heap.size w w' := by
  unfold readOf
  by_cases h : 0 ≤ n ∧ n ≤ 4294967295
  · rw [if_pos h]
    obtain ⟨m, rfl⟩ := Int.eq_ofNat_of_zero_le h.1
    by_cases hf : statusForm m
    · rw [if_pos (by simpa using hf)]
      exact read_good m w (by omega) hf
    · rw [if_neg (by simpa using hf)]
      exact read_form m w (by omega) hf
  · rw [if_neg h]
    exact read_range n w h
end Go.Proofs.Ytppmdamcdhmcpaa
