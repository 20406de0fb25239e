/-
  The document's modP and timesP.
-/
import Derived.Test.YtkbaganbfcbioaaTagP
import Derived.Test.YtkbaganbfcbioaaByteAt
import Derived.Test.YtkbaganbfcbioaaStep
namespace Go.Proofs.Ytkbaganbfcbioaa
set_option linter.unusedSimpArgs false
set_option linter.unusedVariables false
open Go.RowKit

theorem bit_u8 (x : UInt8) (m : Nat) : bits .and .u8 ((x.toNat : Int) / 2 ^ m) 1 = ((x.toNat / 2 ^ m % 2 : Nat) : Int) := by
  have hx := x.toNat_lt
  have hm := shr_le x.toNat m
  rw [shr_nat, ← Nat.shiftRight_eq_div_pow]
  have e := u8_and_nat (x.toNat >>> m) 1 (by omega) (by omega)
  rw [show ((1 : Nat) : Int) = 1 from rfl] at e
  rw [e, Nat.and_one_is_mod]
theorem bit_i64 (x m : Nat) (h : x < 9223372036854775808) : bits .and .i64 ((x : Int) / 2 ^ m) 1 = ((x / 2 ^ m % 2 : Nat) : Int) := by
  have hm := shr_le x m
  rw [shr_nat, ← Nat.shiftRight_eq_div_pow]
  have e := i64_and_nat (x >>> m) 1 (by omega) (by omega)
  rw [show ((1 : Nat) : Int) = 1 from rfl] at e
  rw [e, Nat.and_one_is_mod]
theorem modTo_lt (l : List UInt8) (i : Nat) : modTo l i < bP := Nat.mod_lt _ (by decide)
theorem timTo_lt (a b i : Nat) : timTo a b i < bP := Nat.mod_lt _ (by decide)

set_option maxHeartbeats 800000 in
set_option maxRecDepth 100000 in
theorem rmodP_any (A : Option Addr) (l : List UInt8) (n c : Nat) (w : World) (hl : l.length = 8) (hn : n = 8) (ha : Rd w A (bvs l)) :
    Calls Try.prog 40 #[.slice A n c] w fun e w' => e = .returned (.int .i64 ((numB l % bP : Nat) : Int)) ∧ w = w' := by
  subst hn
  have HL := Lib.hid hl
  have HE := Lib.hid (modTo_end l)
  generalize numB l % bP = R at *
  have H0 := Lib.hid (modTo_zero hl)
  clear hl
  go_enter Try.func40, Try.ntmps40
  go_wp2_with fail
  go_loop [3, 4] (fun s i => ∃ k : Nat, k ≤ 64 ∧ i = .int .i64 k ∧ s = .int .i64 (modTo l k : Nat)) (fun _ i => 64 - (intOf i).toNat)
  case atStart => exact ⟨0, by omega, by simp, by rw [H0.out]; rfl⟩
  case round =>
    obtain ⟨k, hk, rfl, rfl⟩ := hrel
    by_cases h5 : k < 64
    · have h8 : k / 8 < l.length := by rw [HL.out]; omega
      obtain ⟨b, off, rfl, hc⟩ := ha.byteD h8
      have Hs := Lib.hid (modTo_succ HL.out h5)
      have hlt := modTo_lt l k
      rw [bP_eq] at hlt
      have h5i : (k : Int) < 64 := by omega
      have i1 : (0 : Int) ≤ (k : Int) / 8 := by omega
      have i2 : (k : Int) / 8 < 8 := by omega
      generalize modTo l k = s at *
      generalize l.getD (k / 8) 0 = x at *
      have hx256 := byte_lt x
      have e := bit_u8 x (7 - k % 8)
      have hb : x.toNat / 2 ^ (7 - k % 8) % 2 ≤ 1 := by omega
      generalize x.toNat / 2 ^ (7 - k % 8) % 2 = y at *
      go_wp2
      go_round
      case rel => exact ⟨k + 1, by omega, by go_num, by rw [Hs.out, bP_eq]; go_num⟩
      case measure => simp [intOf]; omega
    · obtain rfl : k = 64 := by omega
      go_wp2
      go_ret
      exact ⟨ret_int (by rw [HE.out]), rfl⟩

set_option maxHeartbeats 800000 in
set_option maxRecDepth 100000 in
theorem rtimesP_any (x y : Int) (a b : Nat) (w : World) (hx : x = (a : Int)) (hy : y = (b : Int)) (ha : a < 2305843009213693952) (hb : b < 2305843009213693952) :
    Calls Try.prog 41 #[.int .i64 x, .int .i64 y] w fun e w' => e = .returned (.int .i64 ((b * a % bP : Nat) : Int)) ∧ w = w' := by
  subst hx
  subst hy
  have HE := Lib.hid (timTo_end a b)
  have H0 := Lib.hid (timTo_start (a := a) hb)
  generalize b * a % bP = R at *
  go_enter Try.func41, Try.ntmps41
  go_wp2_with fail
  go_loop [5, 6] (fun s i => ∃ k : Nat, k ≤ 61 ∧ i = .int .i64 ((k : Int) - 1) ∧ s = .int .i64 (timTo a b k : Nat)) (fun _ i => (intOf i + 1).toNat)
  case atStart => exact ⟨61, by omega, by simp, by rw [H0.out]; rfl⟩
  case round =>
    obtain ⟨k, hk, rfl, rfl⟩ := hrel
    by_cases h0 : k = 0
    · subst h0
      go_wp2
      go_ret
      exact ⟨ret_int (by rw [HE.out]), rfl⟩
    · obtain ⟨k, rfl⟩ : ∃ j, k = j + 1 := ⟨k - 1, by omega⟩
      rw [show ((k + 1 : Nat) : Int) - 1 = (k : Int) from by omega]
      have Hs := Lib.hid (timTo_next a b k)
      have hlt := timTo_lt a b (k + 1)
      rw [bP_eq] at hlt
      generalize timTo a b (k + 1) = s at *
      have e := bit_i64 b k (by omega)
      by_cases h1 : b / 2 ^ k % 2 = 1
      · rw [h1] at e
        rw [if_pos h1] at Hs
        clear h1 H0
        go_wp2
        go_round
        case rel => exact ⟨k, by omega, by go_num, by rw [Hs.out, bP_eq]; go_num⟩
        case measure => simp [intOf] <;> omega
      · have h2 : b / 2 ^ k % 2 = 0 := by omega
        rw [h2] at e
        rw [if_neg h1] at Hs
        clear h1 h2 H0
        go_wp2
        go_round
        case rel => exact ⟨k, by omega, by go_num, by rw [Hs.out, bP_eq]; go_num⟩
        case measure => simp [intOf] <;> omega
end Go.Proofs.Ytkbaganbfcbioaa
