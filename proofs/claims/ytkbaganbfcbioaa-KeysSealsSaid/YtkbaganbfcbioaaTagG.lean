/-
  The program's less and number.
-/
import Derived.Test.YtkbaganbfcbioaaDivG
import Derived.Test.YtkbaganbfcbioaaTagR
namespace Go.Proofs.Ytkbaganbfcbioaa
set_option linter.unusedSimpArgs false
set_option linter.unusedVariables false
open Go.RowKit Go.Lib

theorem div64_any (hi lo : Nat) (w : World) (hh : hi < 2305843009213693951) (hl : lo < 18446744073709551616) : Calls Try.prog 73 #[.int .u64 hi, .int .u64 lo, .int .u64 2305843009213693951] w fun e w' => ∃ q : Nat, e = .returned (.tuple #[.int .u64 (q : Int), .int .u64 (((hi * 18446744073709551616 + lo) % bP : Nat) : Int)]) ∧ ∃ m, w' = w.drewN m := by
  by_cases h : hi = 0
  · subst h
    rw [Nat.zero_mul, Nat.zero_add]
    exact div64_zero lo w hl
  · exact (div64_more hi lo w (by omega) hh hl).mono fun e w' ⟨q, h1, h2⟩ => ⟨q, h1, 0, h2⟩

set_option maxHeartbeats 1000000 in
set_option maxRecDepth 100000 in
theorem less_any (hi lo : Nat) (w : World) (hh : hi < 18446744073709551616) (hl : lo < 18446744073709551616) : Calls Try.prog 64 #[.int .u64 (hi : Int), .int .u64 (lo : Int)] w fun e w' => e = .returned (.int .u64 (((hi * 18446744073709551616 + lo) % bP : Nat) : Int)) ∧ ∃ m, w' = w.drewN m := by
  have e1 : (hi : Int) % 2305843009213693951 = ((hi % 2305843009213693951 : Nat) : Int) := by omega
  have hm : hi % 2305843009213693951 < 2305843009213693951 := Nat.mod_lt _ (by decide)
  have HE : (hi * 18446744073709551616 + lo) % bP = (hi % 2305843009213693951 * 18446744073709551616 + lo) % bP := by
    rw [show (2305843009213693951 : Nat) = bP from rfl, Nat.add_mod, Nat.mul_mod]
    conv => rhs; rw [Nat.add_mod, Nat.mul_mod, Nat.mod_mod]
  rw [HE]
  clear HE
  generalize hi % 2305843009213693951 = H at *
  have CD := Lib.hid (fun (w : World) => div64_any H lo w hm hl)
  generalize (H * 18446744073709551616 + lo) % bP = R at *
  go_enter Try.func64, Try.ntmps64
  go_wp2_with (go_at_call 73; refine (CD.out _).mono ?_; rintro e w' ⟨q, rfl, m, rfl⟩)
  go_ret
  exact ⟨rfl, m, rfl⟩

theorem or_byte {n : Nat} (x : UInt8) (h : n < 72057594037927936) : bits .or .u64 ((n : Int) * 256) (x.toNat : Int) = ((n * 256 + x.toNat : Nat) : Int) := by
  have hx := x.toNat_lt
  have hb := bits_or_u64_nat (n * 256) x.toNat (by omega) (by omega)
  have e : n * 256 ||| x.toNat = n * 256 + x.toNat := by
    have := Nat.two_pow_add_eq_or_of_lt (i := 8) (b := x.toNat) (by omega) n
    rw [show n * 256 = 2 ^ 8 * n from by omega]
    exact this.symm
  rw [e] at hb
  rw [← hb]
  rfl
theorem pow256_lt {k n : Nat} (h : k < 8) (hn : n < 256 ^ k) : n < 72057594037927936 := Nat.lt_of_lt_of_le hn (pow256_le (by omega))

set_option maxHeartbeats 1000000 in
set_option maxRecDepth 100000 in
theorem knumber_any (A : Option Addr) (l : List UInt8) (n c : Nat) (w : World) (hl : l.length = n) (hn : n ≤ 8) (ha : Rd w A (bvs l)) : Calls Try.prog 55 #[.slice A n c] w fun e w' => e = .returned (.int .u64 ((numB l : Nat) : Int)) ∧ w = w' := by
  have HL := Lib.hid hl
  have HE : Hid (numB (l.take n) = numB l) := by show _ = _; rw [List.take_of_length_le (by omega)]
  clear hl
  go_enter Try.func55, Try.ntmps55
  go_wp2_with fail
  go_loop [2, 7] (fun s i => ∃ k : Nat, k ≤ n ∧ i = .int .i64 k ∧ s = .int .u64 (numB (l.take k) : Nat)) (fun _ i => n - (intOf i).toNat)
  case atStart => exact ⟨0, by omega, by simp, by simp [numB]⟩
  case round =>
    obtain ⟨k, hk, rfl, rfl⟩ := hrel
    by_cases h5 : k < n
    · have h5i : (k : Int) < (n : Int) := by omega
      obtain ⟨b, off, rfl, hc⟩ := ha.byteD (k := k) (by rw [HL.out]; omega)
      have Hs := Lib.hid (numB_take (l := l) (k := k) (by rw [HL.out]; omega))
      have hlt := pow256_lt (k := k) (by omega) (numB_lt k (l.take k) (by rw [List.length_take, HL.out]; omega))
      have hor := or_byte (l.getD k 0) hlt
      generalize numB (l.take k) = s at *
      generalize l.getD k 0 = x at *
      have hx := byte_lt x
      have i1 : (0 : Int) ≤ (k : Int) := by omega
      go_wp2_with fail
      go_round
      case rel => exact ⟨k + 1, by omega, by go_num, by rw [Hs.out]; exact u64_eq (by omega)⟩
      case measure => simp [intOf] <;> omega
    · obtain rfl : k = n := by omega
      go_wp2_with fail
      go_ret
      exact ⟨by rw [← HE.out]; rfl, rfl⟩
end Go.Proofs.Ytkbaganbfcbioaa
