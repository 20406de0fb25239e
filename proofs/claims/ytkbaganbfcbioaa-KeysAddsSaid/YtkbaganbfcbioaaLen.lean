/-
  math/bits.Len64 and Len of any number.
-/
import Derived.Test.YtkbaganbfcbioaaSealP
import Derived.Lib.Tables
import Derived.Test.YtkbaganbfcbioaaChecked
namespace Go.Proofs.Ytkbaganbfcbioaa
set_option linter.unusedSimpArgs false
set_option linter.unusedVariables false
open Go.RowKit

theorem len8_lenB : ∀ n : Fin 256, Lib.len8 (n.val : Int) = (lenB n.val : Int) := by decide +kernel
theorem len8_at {z : Nat} (h : z < 256) : Lib.len8 (z : Int) = (lenB z : Int) := len8_lenB ⟨z, h⟩
theorem len_tab {z : Nat} (h : z < 256) : ∀ w, (Instr.index 9 (.string Lib.len8tab) (.int .u8 (z : Int))).run Try.prog w = .ok (.int .u8 (lenB z : Int)) w := by
  intro w
  rw [← len8_at h]
  exact Lib.run_index_len8tab w _ _ _ Try.underlying9 (by omega) (by omega)
set_option maxHeartbeats 2000000 in
set_option maxRecDepth 100000 in
theorem len64_any (x : Nat) (w : World) (hx : x < 18446744073709551616) : Calls Try.prog 75 #[.int .u64 (x : Int)] w fun e w' => e = .returned (.int .i64 (lenB x)) ∧ w = w' := by
  by_cases h56 : 72057594037927936 ≤ x
  · have a1 : (4294967296 : Int) ≤ (x : Int) := by first | exact decide_eq_false (by omega) | omega
    have a2 : (65536 : Int) ≤ (x : Int) / 4294967296 := by first | exact decide_eq_false (by omega) | omega
    have a3 : (256 : Int) ≤ (x : Int) / 4294967296 / 65536 := by first | exact decide_eq_false (by omega) | omega
    have hz : x / 2 ^ 56 < 256 := by omega
    have e1 : (x : Int) / 4294967296 / 65536 / 256 = ((x / 2 ^ 56 : Nat) : Int) := by omega
    have b2 : decide ((65536 : Int) ≤ ((x / 2 ^ 56 : Nat) : Int)) = false := decide_eq_false (by omega)
    have b3 : decide ((256 : Int) ≤ ((x / 2 ^ 56 : Nat) : Int)) = false := decide_eq_false (by omega)
    have e2 := len_tab hz
    have HS := Lib.hid (lenB_div (n := x) (k := 56) (by omega))
    have h8 : lenB (x / 2 ^ 56) ≤ 8 := lenB_le.2 hz
    generalize x / 2 ^ 56 = z at *
    go_enter Try.func75, Try.ntmps75
    go_wp2
    go_ret
    exact ⟨ret_int (by rw [HS.out]; omega), rfl⟩
  by_cases h48 : 281474976710656 ≤ x
  · have a1 : (4294967296 : Int) ≤ (x : Int) := by first | exact decide_eq_false (by omega) | omega
    have a2 : (65536 : Int) ≤ (x : Int) / 4294967296 := by first | exact decide_eq_false (by omega) | omega
    have a3 : decide ((256 : Int) ≤ (x : Int) / 4294967296 / 65536) = false := by first | exact decide_eq_false (by omega) | omega
    have hz : x / 2 ^ 48 < 256 := by omega
    have e1 : (x : Int) / 4294967296 / 65536 = ((x / 2 ^ 48 : Nat) : Int) := by omega
    have b2 : decide ((65536 : Int) ≤ ((x / 2 ^ 48 : Nat) : Int)) = false := decide_eq_false (by omega)
    have b3 : decide ((256 : Int) ≤ ((x / 2 ^ 48 : Nat) : Int)) = false := decide_eq_false (by omega)
    have e2 := len_tab hz
    have HS := Lib.hid (lenB_div (n := x) (k := 48) (by omega))
    have h8 : lenB (x / 2 ^ 48) ≤ 8 := lenB_le.2 hz
    generalize x / 2 ^ 48 = z at *
    go_enter Try.func75, Try.ntmps75
    go_wp2
    go_ret
    exact ⟨ret_int (by rw [HS.out]; omega), rfl⟩
  by_cases h40 : 1099511627776 ≤ x
  · have a1 : (4294967296 : Int) ≤ (x : Int) := by first | exact decide_eq_false (by omega) | omega
    have a2 : decide ((65536 : Int) ≤ (x : Int) / 4294967296) = false := by first | exact decide_eq_false (by omega) | omega
    have a3 : (256 : Int) ≤ (x : Int) / 4294967296 := by first | exact decide_eq_false (by omega) | omega
    have hz : x / 2 ^ 40 < 256 := by omega
    have e1 : (x : Int) / 4294967296 / 256 = ((x / 2 ^ 40 : Nat) : Int) := by omega
    have b2 : decide ((65536 : Int) ≤ ((x / 2 ^ 40 : Nat) : Int)) = false := decide_eq_false (by omega)
    have b3 : decide ((256 : Int) ≤ ((x / 2 ^ 40 : Nat) : Int)) = false := decide_eq_false (by omega)
    have e2 := len_tab hz
    have HS := Lib.hid (lenB_div (n := x) (k := 40) (by omega))
    have h8 : lenB (x / 2 ^ 40) ≤ 8 := lenB_le.2 hz
    generalize x / 2 ^ 40 = z at *
    go_enter Try.func75, Try.ntmps75
    go_wp2
    go_ret
    exact ⟨ret_int (by rw [HS.out]; omega), rfl⟩
  by_cases h32 : 4294967296 ≤ x
  · have a1 : (4294967296 : Int) ≤ (x : Int) := by first | exact decide_eq_false (by omega) | omega
    have a2 : decide ((65536 : Int) ≤ (x : Int) / 4294967296) = false := by first | exact decide_eq_false (by omega) | omega
    have a3 : decide ((256 : Int) ≤ (x : Int) / 4294967296) = false := by first | exact decide_eq_false (by omega) | omega
    have hz : x / 2 ^ 32 < 256 := by omega
    have e1 : (x : Int) / 4294967296 = ((x / 2 ^ 32 : Nat) : Int) := by omega
    have b2 : decide ((65536 : Int) ≤ ((x / 2 ^ 32 : Nat) : Int)) = false := decide_eq_false (by omega)
    have b3 : decide ((256 : Int) ≤ ((x / 2 ^ 32 : Nat) : Int)) = false := decide_eq_false (by omega)
    have e2 := len_tab hz
    have HS := Lib.hid (lenB_div (n := x) (k := 32) (by omega))
    have h8 : lenB (x / 2 ^ 32) ≤ 8 := lenB_le.2 hz
    generalize x / 2 ^ 32 = z at *
    go_enter Try.func75, Try.ntmps75
    go_wp2
    go_ret
    exact ⟨ret_int (by rw [HS.out]; omega), rfl⟩
  by_cases h24 : 16777216 ≤ x
  · have a1 : decide ((4294967296 : Int) ≤ (x : Int)) = false := by first | exact decide_eq_false (by omega) | omega
    have a2 : (65536 : Int) ≤ (x : Int) := by first | exact decide_eq_false (by omega) | omega
    have a3 : (256 : Int) ≤ (x : Int) / 65536 := by first | exact decide_eq_false (by omega) | omega
    have hz : x / 2 ^ 24 < 256 := by omega
    have e1 : (x : Int) / 65536 / 256 = ((x / 2 ^ 24 : Nat) : Int) := by omega
    have b2 : decide ((65536 : Int) ≤ ((x / 2 ^ 24 : Nat) : Int)) = false := decide_eq_false (by omega)
    have b3 : decide ((256 : Int) ≤ ((x / 2 ^ 24 : Nat) : Int)) = false := decide_eq_false (by omega)
    have e2 := len_tab hz
    have HS := Lib.hid (lenB_div (n := x) (k := 24) (by omega))
    have h8 : lenB (x / 2 ^ 24) ≤ 8 := lenB_le.2 hz
    generalize x / 2 ^ 24 = z at *
    go_enter Try.func75, Try.ntmps75
    go_wp2
    go_ret
    exact ⟨ret_int (by rw [HS.out]; omega), rfl⟩
  by_cases h16 : 65536 ≤ x
  · have a1 : decide ((4294967296 : Int) ≤ (x : Int)) = false := by first | exact decide_eq_false (by omega) | omega
    have a2 : (65536 : Int) ≤ (x : Int) := by first | exact decide_eq_false (by omega) | omega
    have a3 : decide ((256 : Int) ≤ (x : Int) / 65536) = false := by first | exact decide_eq_false (by omega) | omega
    have hz : x / 2 ^ 16 < 256 := by omega
    have e1 : (x : Int) / 65536 = ((x / 2 ^ 16 : Nat) : Int) := by omega
    have b2 : decide ((65536 : Int) ≤ ((x / 2 ^ 16 : Nat) : Int)) = false := decide_eq_false (by omega)
    have b3 : decide ((256 : Int) ≤ ((x / 2 ^ 16 : Nat) : Int)) = false := decide_eq_false (by omega)
    have e2 := len_tab hz
    have HS := Lib.hid (lenB_div (n := x) (k := 16) (by omega))
    have h8 : lenB (x / 2 ^ 16) ≤ 8 := lenB_le.2 hz
    generalize x / 2 ^ 16 = z at *
    go_enter Try.func75, Try.ntmps75
    go_wp2
    go_ret
    exact ⟨ret_int (by rw [HS.out]; omega), rfl⟩
  by_cases h8 : 256 ≤ x
  · have a1 : decide ((4294967296 : Int) ≤ (x : Int)) = false := by first | exact decide_eq_false (by omega) | omega
    have a2 : decide ((65536 : Int) ≤ (x : Int)) = false := by first | exact decide_eq_false (by omega) | omega
    have a3 : (256 : Int) ≤ (x : Int) := by first | exact decide_eq_false (by omega) | omega
    have hz : x / 2 ^ 8 < 256 := by omega
    have e1 : (x : Int) / 256 = ((x / 2 ^ 8 : Nat) : Int) := by omega
    have b2 : decide ((65536 : Int) ≤ ((x / 2 ^ 8 : Nat) : Int)) = false := decide_eq_false (by omega)
    have b3 : decide ((256 : Int) ≤ ((x / 2 ^ 8 : Nat) : Int)) = false := decide_eq_false (by omega)
    have e2 := len_tab hz
    have HS := Lib.hid (lenB_div (n := x) (k := 8) (by omega))
    have h8 : lenB (x / 2 ^ 8) ≤ 8 := lenB_le.2 hz
    generalize x / 2 ^ 8 = z at *
    go_enter Try.func75, Try.ntmps75
    go_wp2
    go_ret
    exact ⟨ret_int (by rw [HS.out]; omega), rfl⟩
  have hz : x < 256 := by omega
  have a1 : decide ((4294967296 : Int) ≤ (x : Int)) = false := decide_eq_false (by omega)
  have a2 : decide ((65536 : Int) ≤ (x : Int)) = false := decide_eq_false (by omega)
  have a3 : decide ((256 : Int) ≤ (x : Int)) = false := decide_eq_false (by omega)
  have e2 := len_tab hz
  have h8 : lenB x ≤ 8 := lenB_le.2 hz
  go_enter Try.func75, Try.ntmps75
  go_wp2
  go_ret
  exact ⟨ret_int (by omega), rfl⟩
theorem len_any (x : Nat) (w : World) (hx : x < 18446744073709551616) : Calls Try.prog 67 #[.int .u64 (x : Int)] w fun e w' => e = .returned (.int .i64 (lenB x)) ∧ w = w' := by
  have HC := Lib.hid (fun w => len64_any x w hx)
  go_enter Try.func67, Try.ntmps67
  go_wp2_with (go_at_call 75; refine (HC.out _).mono ?_; rintro e w' ⟨rfl, rfl⟩)
  go_ret
  exact ⟨rfl, rfl⟩
end Go.Proofs.Ytkbaganbfcbioaa
