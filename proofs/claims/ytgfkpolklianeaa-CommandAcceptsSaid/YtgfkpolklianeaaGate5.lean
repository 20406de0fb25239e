import Derived.Test.YtgfkpolklianeaaGate4
import Derived.Test.YtgfkpolklianeaaBits
namespace Go.Proofs.Ytgfkpolklianeaa
set_option linter.unusedSimpArgs false
set_option linter.unusedVariables false
open Go.RowKit

def gateV (n : Nat) : Value := gv7 0 (n % 256 : Nat) 0 (decide (n / 8192 % 2 = 1)) (decide (n / 4096 % 2 = 1)) (decide (n / 2048 % 2 = 1)) (n / 512 % 4 : Nat)
theorem sh_and (n : Nat) (h : n < 4294967296) (m : Nat) : bits .and .i64 ((n : Int) / (m : Int)) 1 = ((n / m % 2 : Nat) : Int) := by
  have : n / m ≤ n := Nat.div_le_self _ _
  rw [show ((n : Int) / (m : Int)) = ((n / m : Nat) : Int) from by omega]
  exact and_one (by omega)
theorem sh_bit (n : Nat) (h : n < 4294967296) (m : Nat) : (bits .and .i64 ((n : Int) / (m : Int)) 1 == 1) = decide (n / m % 2 = 1) := by
  rw [sh_and n h m, Bool.eq_iff_iff]
  simp
  omega
theorem sh_count (n : Nat) (h : n < 4294967296) : bits .and .i64 ((n : Int) / 512) 3 = ((n / 512 % 4 : Nat) : Int) := by
  rw [show ((n : Int) / 512) = ((n / 512 : Nat) : Int) from by omega]
  exact and_two (by omega)
theorem mask_bit (n i : Nat) (h : n < 4294967296) (hi : i ≤ 30) : (bits .and .i64 (n : Int) ((2 ^ i : Nat) : Int) != 0) = decide (n / 2 ^ i % 2 = 1) := by
  have hp := Nat.two_pow_pos i
  have h2 : 2 ^ i ≤ 2 ^ 30 := Nat.pow_le_pow_right (by omega) hi
  rw [and_bit i (by omega) (by omega)]
  rcases Nat.mod_two_eq_zero_or_one (n / 2 ^ i) with h | h
  · rw [h]
    simp
  · rw [h, decide_eq_true rfl, bne_iff_ne]
    omega

theorem big_le {n : Nat} (h : n < 4294967296) : ∀ m : Int, m = 4294967295 → (n : Int) ≤ m := fun m hm => by omega
theorem cin_st (n m : Int) (hm : m = 4294967295) (h : 0 ≤ n ∧ n ≤ 4294967295) (w : World) :
    Calls Try.prog 82 #[.int .i64 n, .int .i64 0, .int .i64 m] w fun e w' => e = .returned (.bool true) ∧ w = w' := cin_yes n 0 m w h.1 (by omega)
theorem cout_st (n m : Int) (hm : m = 4294967295) (h : ¬ (0 ≤ n ∧ n ≤ 4294967295)) (w : World) :
    Calls Try.prog 82 #[.int .i64 n, .int .i64 0, .int .i64 m] w fun e w' => e = .returned (.bool false) ∧ w = w' := cin_no n 0 m w (by omega)

set_option maxHeartbeats 1600000 in
set_option maxRecDepth 100000 in
theorem statusOf_range (n : Int) (w : World) (h : ¬ (0 ≤ n ∧ n ≤ 4294967295)) :
    Calls Try.prog 37 #[.int .i64 n] w fun e w' => e = .returned (.tuple #[gv7 0 0 0 false false false 0, .int .i64 2]) ∧ Below w.heap.size w w' := by
  by_cases h1 : n < 0
  · clear h
    go_enter Try.func37, Try.ntmps37
    go_wp2
    refine bodyPost_ret (v := .tuple #[gv7 0 0 0 false false false 0, .int .i64 2]) (by simp [results, Try.results37, go_sem, gv7]) rfl ⟨rfl, (by repeat (first | with_reducible exact Below.refl _ _ | with_reducible assumption | with_reducible refine below_drewN ?_ _ | with_reducible refine Below.drew ?_ | with_reducible refine Below.alloc ?_ ?_ _ | with_reducible refine Below.setCell ?_ ?_ _ | with_reducible exact Nat.le_refl _ | (simp; omega) | (simp; done)))⟩
  · have h2 : 4294967295 < n := by omega
    clear h
    go_enter Try.func37, Try.ntmps37
    go_wp2
    refine bodyPost_ret (v := .tuple #[gv7 0 0 0 false false false 0, .int .i64 2]) (by simp [results, Try.results37, go_sem, gv7]) rfl ⟨rfl, (by repeat (first | with_reducible exact Below.refl _ _ | with_reducible assumption | with_reducible refine below_drewN ?_ _ | with_reducible refine Below.drew ?_ | with_reducible refine Below.alloc ?_ ?_ _ | with_reducible refine Below.setCell ?_ ?_ _ | with_reducible exact Nat.le_refl _ | (simp; omega) | (simp; done)))⟩
set_option maxHeartbeats 1600000 in
set_option maxRecDepth 100000 in
theorem statusOf_form (n : Nat) (w : World) (h : n < 4294967296) (hf : ¬ statusForm n) :
    Calls Try.prog 37 #[.int .i64 n] w fun e w' => e = .returned (.tuple #[gv7 0 0 0 false false false 0, .int .i64 8]) ∧ Below w.heap.size w w' := by
  have e8 := sh_and n h 256
  by_cases h1 : n / 16384 = 1024
  · have h2 : n / 256 % 2 = 1 := by have : ¬ n / 256 % 2 = 0 := fun g => hf ⟨h1, g⟩; omega
    rw [h2] at e8
    have d1 : ((n : Int) / 16384 != 1024) = false := by simp; omega
    have d2 : (bits .and .i64 ((n : Int) / 256) 1 != 0) = true := by rw [show (256 : Int) = ((256 : Nat) : Int) from rfl, e8]; rfl
    clear hf h2 e8 h1
    go_enter Try.func37, Try.ntmps37
    go_wp2
    refine bodyPost_ret (v := .tuple #[gv7 0 0 0 false false false 0, .int .i64 8]) (by simp [results, Try.results37, go_sem, gv7]) rfl ⟨rfl, (by repeat (first | with_reducible exact Below.refl _ _ | with_reducible assumption | with_reducible refine below_drewN ?_ _ | with_reducible refine Below.drew ?_ | with_reducible refine Below.alloc ?_ ?_ _ | with_reducible refine Below.setCell ?_ ?_ _ | with_reducible exact Nat.le_refl _ | (simp; omega) | (simp; done)))⟩
  · have d1 : ((n : Int) / 16384 != 1024) = true := by simp; omega
    clear hf e8 h1
    go_enter Try.func37, Try.ntmps37
    go_wp2
    refine bodyPost_ret (v := .tuple #[gv7 0 0 0 false false false 0, .int .i64 8]) (by simp [results, Try.results37, go_sem, gv7]) rfl ⟨rfl, (by repeat (first | with_reducible exact Below.refl _ _ | with_reducible assumption | with_reducible refine below_drewN ?_ _ | with_reducible refine Below.drew ?_ | with_reducible refine Below.alloc ?_ ?_ _ | with_reducible refine Below.setCell ?_ ?_ _ | with_reducible exact Nat.le_refl _ | (simp; omega) | (simp; done)))⟩
set_option maxHeartbeats 1600000 in
set_option maxRecDepth 100000 in
theorem statusOf_good (n : Nat) (w : World) (h : n < 4294967296) (hf : statusForm n) :
    Calls Try.prog 37 #[.int .i64 n] w fun e w' => e = .returned (.tuple #[gateV n, .int .i64 0]) ∧ Below w.heap.size w w' := by
  have e8 := sh_and n h 256
  rw [hf.2] at e8
  have d1 : ((n : Int) / 16384 != 1024) = false := by have := hf.1; simp; omega
  have d2 : (bits .and .i64 ((n : Int) / 256) 1 != 0) = false := by rw [show (256 : Int) = ((256 : Nat) : Int) from rfl, e8]; rfl
  have E1 := Lib.hid (and_eight (x := n) (by omega))
  have E2 := Lib.hid (sh_count n h)
  have E3 := Lib.hid (sh_bit n h 2048)
  have E4 := Lib.hid (sh_bit n h 4096)
  have E5 := Lib.hid (sh_bit n h 8192)
  clear hf e8
  go_enter Try.func37, Try.ntmps37
  go_wp2
  refine bodyPost_ret (v := .tuple #[.agg #[.int .i64 0, .int .i64 (bits .and .i64 (n : Int) 255), .int .i64 0, .bool (bits .and .i64 ((n : Int) / 8192) 1 == 1), .bool (bits .and .i64 ((n : Int) / 4096) 1 == 1), .bool (bits .and .i64 ((n : Int) / 2048) 1 == 1), .int .i64 (bits .and .i64 ((n : Int) / 512) 3)], .int .i64 0]) (by simp [results, Try.results37, go_sem]) rfl ⟨?_, (by repeat (first | with_reducible exact Below.refl _ _ | with_reducible assumption | with_reducible refine below_drewN ?_ _ | with_reducible refine Below.drew ?_ | with_reducible refine Below.alloc ?_ ?_ _ | with_reducible refine Below.setCell ?_ ?_ _ | with_reducible exact Nat.le_refl _ | (simp; omega) | (simp; done)))⟩
  have e3 := E3.out
  have e4 := E4.out
  have e5 := E5.out
  rw [show ((2048 : Nat) : Int) = 2048 from rfl] at e3
  rw [show ((4096 : Nat) : Int) = 4096 from rfl] at e4
  rw [show ((8192 : Nat) : Int) = 8192 from rfl] at e5
  rw [E1.out, E2.out, e3, e4, e5]
  rfl

set_option maxHeartbeats 1600000 in
set_option maxRecDepth 100000 in
theorem read_range (n : Int) (w : World) (h : ¬ (0 ≤ n ∧ n ≤ 4294967295)) :
    Calls Try.prog 38 #[.int .i64 n] w fun e w' => e = .returned (.tuple #[gv7 0 0 0 false false false 0, .int .i64 2]) ∧ Below w.heap.size w w' := by
  have H := Lib.hid h
  clear h
  go_enter Try.func38, Try.ntmps38
  go_wp2_with fail
  refine (cout_st n _ rfl H.out _).mono ?_
  rintro e w' ⟨rfl, rfl⟩
  go_wp2
  refine bodyPost_ret (v := .tuple #[gv7 0 0 0 false false false 0, .int .i64 2]) (by simp [results, Try.results38, go_sem, gv7]) rfl ⟨rfl, (by repeat (first | with_reducible exact Below.refl _ _ | with_reducible assumption | with_reducible refine below_drewN ?_ _ | with_reducible refine Below.drew ?_ | with_reducible refine Below.alloc ?_ ?_ _ | with_reducible refine Below.setCell ?_ ?_ _ | with_reducible exact Nat.le_refl _ | (simp; omega) | (simp; done)))⟩
set_option maxHeartbeats 1600000 in
set_option maxRecDepth 100000 in
theorem read_form (n : Nat) (w : World) (h : n < 4294967296) (hf : ¬ statusForm n) :
    Calls Try.prog 38 #[.int .i64 n] w fun e w' => e = .returned (.tuple #[gv7 0 0 0 false false false 0, .int .i64 8]) ∧ Below w.heap.size w w' := by
  have e := status_rest h
  have d : (bits .andNot .i64 (n : Int) 16127 != 16777216) = true := by
    rw [e]
    unfold statusForm at hf
    simp
    omega
  have H : Hid (0 ≤ (n : Int) ∧ (n : Int) ≤ 4294967295) := ⟨by omega, by omega⟩
  clear hf e h
  go_enter Try.func38, Try.ntmps38
  go_wp2_with fail
  refine (cin_st n _ rfl H.out _).mono ?_
  rintro e w' ⟨rfl, rfl⟩
  go_wp2
  refine bodyPost_ret (v := .tuple #[gv7 0 0 0 false false false 0, .int .i64 8]) (by simp [results, Try.results38, go_sem, gv7]) rfl ⟨rfl, (by repeat (first | with_reducible exact Below.refl _ _ | with_reducible assumption | with_reducible refine below_drewN ?_ _ | with_reducible refine Below.drew ?_ | with_reducible refine Below.alloc ?_ ?_ _ | with_reducible refine Below.setCell ?_ ?_ _ | with_reducible exact Nat.le_refl _ | (simp; omega) | (simp; done)))⟩
set_option maxHeartbeats 1600000 in
set_option maxRecDepth 100000 in
theorem read_good (n : Nat) (w : World) (h : n < 4294967296) (hf : statusForm n) :
    Calls Try.prog 38 #[.int .i64 n] w fun e w' => e = .returned (.tuple #[gateV n, .int .i64 0]) ∧ Below w.heap.size w w' := by
  have e := status_rest h
  have d : (bits .andNot .i64 (n : Int) 16127 != 16777216) = false := by
    rw [e]
    unfold statusForm at hf
    simp
    omega
  have H : Hid (0 ≤ (n : Int) ∧ (n : Int) ≤ 4294967295) := ⟨by omega, by omega⟩
  have E1 := Lib.hid (and_eight (x := n) (by omega))
  have E2 := Lib.hid (sh_count n h)
  have E3 := Lib.hid (mask_bit n 11 h (by omega))
  have E4 := Lib.hid (mask_bit n 12 h (by omega))
  have E5 := Lib.hid (mask_bit n 13 h (by omega))
  have n1 : (0 : Int) ≤ (n : Int) := by omega
  clear hf e h
  go_enter Try.func38, Try.ntmps38
  go_wp2_with fail
  refine (cin_st n _ rfl H.out _).mono ?_
  rintro e w' ⟨rfl, rfl⟩
  go_wp2
  refine bodyPost_ret (v := .tuple #[.agg #[.int .i64 0, .int .i64 (bits .and .i64 (n : Int) 255), .int .i64 0, .bool (bits .and .i64 (n : Int) 8192 != 0), .bool (bits .and .i64 (n : Int) 4096 != 0), .bool (bits .and .i64 (n : Int) 2048 != 0), .int .i64 (bits .and .i64 ((n : Int) / 512) 3)], .int .i64 0]) (by simp [results, Try.results38, go_sem]) rfl ⟨?_, (by repeat (first | with_reducible exact Below.refl _ _ | with_reducible assumption | with_reducible refine below_drewN ?_ _ | with_reducible refine Below.drew ?_ | with_reducible refine Below.alloc ?_ ?_ _ | with_reducible refine Below.setCell ?_ ?_ _ | with_reducible exact Nat.le_refl _ | (simp; omega) | (simp; done)))⟩
  have e3 := E3.out
  have e4 := E4.out
  have e5 := E5.out
  rw [show ((2 ^ 11 : Nat) : Int) = 2048 from rfl] at e3
  rw [show ((2 ^ 12 : Nat) : Int) = 4096 from rfl] at e4
  rw [show ((2 ^ 13 : Nat) : Int) = 8192 from rfl] at e5
  rw [E1.out, E2.out, e3, e4, e5]
  rfl
end Go.Proofs.Ytgfkpolklianeaa
