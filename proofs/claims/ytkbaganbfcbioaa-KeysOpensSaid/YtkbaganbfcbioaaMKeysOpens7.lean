/-
  The document's modP and timesP. What is wrong with a key's words, a counter, an index, as the program asks. math/bits.Len64 and Len of any number.
-/
import Derived.Test.YtkbaganbfcbioaaMKeysOpens2
import Derived.Test.YtkbaganbfcbioaaMKeysOpens4
import Derived.Lib.Tables
import Derived.Test.YtkbaganbfcbioaaChecked
namespace Go.Proofs.Ytkbaganbfcbioaa
set_option linter.unusedSimpArgs false
set_option linter.unusedVariables false
open Go.RowKit

theorem bit_u8 (x : UInt8) (m : Nat) : bits .and .u8 ((x.toNat : Int) / 2 ^ m) 1 = ((x.toNat / 2 ^ m % 2 : Nat) : Int) := by
  have hx := x.toNat_lt
  have hm := shr_le x.toNat m
  rw [shr_nat, ← Nat.shiftRight_eq_div_pow]
  have e := u8_and_nat (x.toNat >>> m) 1 (by omega) (by omega)
  rw [show ((1 : Nat) : Int) = 1 from rfl] at e
  rw [e, Nat.and_one_is_mod]
theorem bit_i64 (x m : Nat) (h : x < 9223372036854775808) : bits .and .i64 ((x : Int) / 2 ^ m) 1 = ((x / 2 ^ m % 2 : Nat) : Int) := by
  have hm := shr_le x m
  rw [shr_nat, ← Nat.shiftRight_eq_div_pow]
  have e := i64_and_nat (x >>> m) 1 (by omega) (by omega)
  rw [show ((1 : Nat) : Int) = 1 from rfl] at e
  rw [e, Nat.and_one_is_mod]
theorem modTo_lt (l : List UInt8) (i : Nat) : modTo l i < bP := Nat.mod_lt _ (by decide)
theorem timTo_lt (a b i : Nat) : timTo a b i < bP := Nat.mod_lt _ (by decide)

set_option maxHeartbeats 800000 in
set_option maxRecDepth 100000 in
theorem rmodP_any (A : Option Addr) (l : List UInt8) (n c : Nat) (w : World) (hl : l.length = 8) (hn : n = 8) (ha : Rd w A (bvs l)) :
    Calls Try.prog 40 #[.slice A n c] w fun e w' => e = .returned (.int .i64 ((numB l % bP : Nat) : Int)) ∧ w = w' := by
  subst hn
  have HL := Lib.hid hl
  have HE := Lib.hid (modTo_end l)
  generalize numB l % bP = R at *
  have H0 := Lib.hid (modTo_zero hl)
  clear hl
  go_enter Try.func40, Try.ntmps40
  go_wp2_with fail
  go_loop [3, 4] (fun s i => ∃ k : Nat, k ≤ 64 ∧ i = .int .i64 k ∧ s = .int .i64 (modTo l k : Nat)) (fun _ i => 64 - (intOf i).toNat)
  case atStart => exact ⟨0, by omega, by simp, by rw [H0.out]; rfl⟩
  case round =>
    obtain ⟨k, hk, rfl, rfl⟩ := hrel
    by_cases h5 : k < 64
    · have h8 : k / 8 < l.length := by rw [HL.out]; omega
      obtain ⟨b, off, rfl, hc⟩ := ha.byteD h8
      have Hs := Lib.hid (modTo_succ HL.out h5)
      have hlt := modTo_lt l k
      rw [bP_eq] at hlt
      have h5i : (k : Int) < 64 := by omega
      have i1 : (0 : Int) ≤ (k : Int) / 8 := by omega
      have i2 : (k : Int) / 8 < 8 := by omega
      generalize modTo l k = s at *
      generalize l.getD (k / 8) 0 = x at *
      have hx256 := byte_lt x
      have e := bit_u8 x (7 - k % 8)
      have hb : x.toNat / 2 ^ (7 - k % 8) % 2 ≤ 1 := by omega
      generalize x.toNat / 2 ^ (7 - k % 8) % 2 = y at *
      go_wp2
      go_round
      case rel => exact ⟨k + 1, by omega, by go_num, by rw [Hs.out, bP_eq]; go_num⟩
      case measure => simp [intOf]; omega
    · obtain rfl : k = 64 := by omega
      go_wp2
      go_ret
      exact ⟨ret_int (by rw [HE.out]), rfl⟩

set_option maxHeartbeats 800000 in
set_option maxRecDepth 100000 in
theorem rtimesP_any (x y : Int) (a b : Nat) (w : World) (hx : x = (a : Int)) (hy : y = (b : Int)) (ha : a < 2305843009213693952) (hb : b < 2305843009213693952) :
    Calls Try.prog 41 #[.int .i64 x, .int .i64 y] w fun e w' => e = .returned (.int .i64 ((b * a % bP : Nat) : Int)) ∧ w = w' := by
  subst hx
  subst hy
  have HE := Lib.hid (timTo_end a b)
  have H0 := Lib.hid (timTo_start (a := a) hb)
  generalize b * a % bP = R at *
  go_enter Try.func41, Try.ntmps41
  go_wp2_with fail
  go_loop [5, 6] (fun s i => ∃ k : Nat, k ≤ 61 ∧ i = .int .i64 ((k : Int) - 1) ∧ s = .int .i64 (timTo a b k : Nat)) (fun _ i => (intOf i + 1).toNat)
  case atStart => exact ⟨61, by omega, by simp, by rw [H0.out]; rfl⟩
  case round =>
    obtain ⟨k, hk, rfl, rfl⟩ := hrel
    by_cases h0 : k = 0
    · subst h0
      go_wp2
      go_ret
      exact ⟨ret_int (by rw [HE.out]), rfl⟩
    · obtain ⟨k, rfl⟩ : ∃ j, k = j + 1 := ⟨k - 1, by omega⟩
      rw [show ((k + 1 : Nat) : Int) - 1 = (k : Int) from by omega]
      have Hs := Lib.hid (timTo_next a b k)
      have hlt := timTo_lt a b (k + 1)
      rw [bP_eq] at hlt
      generalize timTo a b (k + 1) = s at *
      have e := bit_i64 b k (by omega)
      by_cases h1 : b / 2 ^ k % 2 = 1
      · rw [h1] at e
        rw [if_pos h1] at Hs
        clear h1 H0
        go_wp2
        go_round
        case rel => exact ⟨k, by omega, by go_num, by rw [Hs.out, bP_eq]; go_num⟩
        case measure => simp [intOf] <;> omega
      · have h2 : b / 2 ^ k % 2 = 0 := by omega
        rw [h2] at e
        rw [if_neg h1] at Hs
        clear h1 h2 H0
        go_wp2
        go_round
        case rel => exact ⟨k, by omega, by go_num, by rw [Hs.out, bP_eq]; go_num⟩
        case measure => simp [intOf] <;> omega
end Go.Proofs.Ytkbaganbfcbioaa
namespace Go.Proofs.Ytkbaganbfcbioaa
set_option linter.unusedSimpArgs false
set_option linter.unusedVariables false
open Go.RowKit

set_option maxHeartbeats 1600000 in
set_option maxRecDepth 100000 in
theorem kin_yes (n most : Int) (w : World) (h0 : 0 ≤ n) (h1 : n ≤ most) : Calls Try.prog 53 #[.int .i64 n, .int .i64 most] w fun e w' => e = .returned (.bool true) ∧ w = w' := by
  go_enter Try.func53, Try.ntmps53
  go_wp2
  go_ret
  exact ⟨rfl, rfl⟩
set_option maxHeartbeats 1600000 in
set_option maxRecDepth 100000 in
theorem kin_no (n most : Int) (w : World) (h : n < 0 ∨ most < n) : Calls Try.prog 53 #[.int .i64 n, .int .i64 most] w fun e w' => e = .returned (.bool false) ∧ w = w' := by
  by_cases h0 : n < 0
  · have d : decide (0 ≤ n) = false := by simp; omega
    go_enter Try.func53, Try.ntmps53
    go_wp2
    go_ret
    exact ⟨rfl, rfl⟩
  · have h1 : most < n := by omega
    have h2 : 0 ≤ n := by omega
    have h3 : decide (n ≤ most) = false := by simp; omega
    clear h h0
    go_enter Try.func53, Try.ntmps53
    go_wp2
    go_ret
    exact ⟨rfl, rfl⟩
set_option maxHeartbeats 1600000 in
set_option maxRecDepth 100000 in
theorem odd_no (n : Int) (w : World) (h0 : 0 ≤ n) (h1 : n ≤ 4294967295) : Calls Try.prog 62 #[.int .i64 n] w fun e w' => e = .returned (.bool false) ∧ w = w' := by
  go_enter Try.func62, Try.ntmps62
  go_wp2_with fail
  refine (kin_yes _ _ w h0 h1).mono ?_
  rintro e w' ⟨rfl, rfl⟩
  go_wp2
  go_ret
  exact ⟨rfl, rfl⟩
set_option maxHeartbeats 1600000 in
set_option maxRecDepth 100000 in
theorem odd_yes (n : Int) (w : World) (h : n < 0 ∨ 4294967295 < n) : Calls Try.prog 62 #[.int .i64 n] w fun e w' => e = .returned (.bool true) ∧ w = w' := by
  go_enter Try.func62, Try.ntmps62
  go_wp2_with fail
  refine (kin_no _ _ w h).mono ?_
  rintro e w' ⟨rfl, rfl⟩
  go_wp2
  go_ret
  exact ⟨rfl, rfl⟩
/-- Where the first one is. -/
def firstAt (m : Nat) : Int := if m = 8 then -1 else (m : Int)
set_option maxHeartbeats 1600000 in
set_option maxRecDepth 100000 in
theorem idx_words (A : Option Addr) (l : List Int) (cp m : Nat) (w : World) (hl : l.length = 8) (ha : Rd w A (ivs l)) (hm : firstBad l m) :
    Calls Try.prog 71 #[.slice A 8 cp, .func (.func 62) #[] #[]] w fun e w' => e = .returned (.int .i64 (firstAt m)) ∧ w = w' := by
  obtain ⟨hm8, hgood, hbad⟩ := hm
  have HG := Lib.hid hgood
  have HB := Lib.hid hbad
  clear hgood hbad
  go_enter Try.func71, Try.ntmps71
  go_wp2_with fail
  go_loop [8] (fun i => ∃ k : Nat, k ≤ m ∧ i = .int .i64 k) (fun i => 8 - (intOf i).toNat)
  case atStart => exact ⟨0, by omega, by simp⟩
  case round =>
    obtain ⟨k, hk, rfl⟩ := hrel
    by_cases h8 : k = 8
    · subst h8
      obtain rfl : m = 8 := by omega
      go_wp2
      go_ret
      exact ⟨ret_int (by simp [firstAt]), rfl⟩
    · have k8 : k < 8 := by omega
      have k8i : (k : Int) < 8 := by omega
      obtain ⟨b, off, rfl, hc⟩ := ha.intE (k := k) (by omega)
      by_cases hkm : k < m
      · obtain ⟨g1, g2⟩ := HG.out k hkm
        generalize l.getD k 0 = x at *
        go_wp2_with fail
        refine (odd_no x w g1 g2).mono ?_
        rintro e w' ⟨rfl, rfl⟩
        go_wp2_with fail
        go_round
        case rel => exact ⟨k + 1, by omega, by go_num⟩
        case measure => simp [intOf]; omega
      · obtain rfl : k = m := by omega
        have g := HB.out k8
        generalize l.getD k 0 = x at *
        have g' : x < 0 ∨ 4294967295 < x := by omega
        have G := Lib.hid g'
        clear g g' HG HB
        go_wp2_with fail
        refine (odd_yes x w G.out).mono ?_
        rintro e w' ⟨rfl, rfl⟩
        go_wp2_with fail
        go_ret
        exact ⟨ret_int (by unfold firstAt; rw [if_neg h8]), rfl⟩
set_option maxHeartbeats 1600000 in
set_option maxRecDepth 100000 in
theorem has_words (A : Option Addr) (l : List Int) (cp m : Nat) (w : World) (hl : l.length = 8) (ha : Rd w A (ivs l)) (hm : firstBad l m) :
    Calls Try.prog 61 #[.slice A 8 cp, .func (.func 62) #[] #[]] w fun e w' => e = .returned (.bool (decide (0 ≤ firstAt m))) ∧ w = w' := by
  have hI := Lib.hid (idx_words A l cp m w hl ha hm)
  clear ha hm hl
  generalize firstAt m = r at *
  go_enter Try.func61, Try.ntmps61
  go_wp2_with fail
  refine hI.out.mono ?_
  rintro e w' ⟨rfl, rfl⟩
  go_wp2_with fail
  go_ret
  exact ⟨rfl, rfl⟩

set_option maxHeartbeats 1600000 in
set_option maxRecDepth 100000 in
theorem fits_words (A : Option Addr) (l : List Int) (cp m : Nat) (C I : Int) (w : World) (hl : l.length = 8) (ha : Rd w A (ivs l)) (hm : firstBad l m) :
    Calls Try.prog 42 #[.slice A 8 cp, .int .i64 C, .int .i64 I] w fun e w' => e = .returned (.int .i64 (rangeB m C I)) ∧ w = w' := by
  have hI := Lib.hid (has_words A l cp m w hl ha hm)
  have hm8 := hm.1
  clear ha hm
  have HR : Hid (rangeB m C I = if m = 8 ∧ 0 ≤ C ∧ C ≤ 281474976710655 ∧ 0 ≤ I ∧ I ≤ 1000 then 0 else 2) := Lib.hid rfl
  generalize rangeB m C I = R at *
  by_cases h8 : m = 8
  · subst h8
    have d : decide (0 ≤ firstAt 8) = false := by decide
    rw [d] at hI
    clear d
    by_cases c : 0 ≤ C ∧ C ≤ 281474976710655
    · obtain ⟨c0, c1⟩ := c
      by_cases i : 0 ≤ I ∧ I ≤ 1000
      · obtain ⟨i0, i1⟩ := i
        go_enter Try.func42, Try.ntmps42
        go_wp2_with fail
        refine hI.out.mono ?_
        rintro e w' ⟨rfl, rfl⟩
        go_wp2_with fail
        refine (kin_yes _ _ w c0 c1).mono ?_
        rintro e w' ⟨rfl, rfl⟩
        go_wp2_with fail
        refine (kin_yes _ _ w i0 i1).mono ?_
        rintro e w' ⟨rfl, rfl⟩
        go_wp2_with fail
        go_ret
        exact ⟨ret_int (by rw [HR.out, if_pos (by exact ⟨by first | rfl | trivial, c0, c1, i0, i1⟩)]), rfl⟩
      · have hR : R = 2 := by rw [HR.out, if_neg (fun h => i h.2.2.2)]
        have HR2 := Lib.hid hR
        have i' : I < 0 ∨ 1000 < I := by omega
        have HI := Lib.hid i'
        clear HR hR i i'
        go_enter Try.func42, Try.ntmps42
        go_wp2_with fail
        refine hI.out.mono ?_
        rintro e w' ⟨rfl, rfl⟩
        go_wp2_with fail
        refine (kin_yes _ _ w c0 c1).mono ?_
        rintro e w' ⟨rfl, rfl⟩
        go_wp2_with fail
        refine (kin_no _ _ w HI.out).mono ?_
        rintro e w' ⟨rfl, rfl⟩
        go_wp2_with fail
        go_ret
        exact ⟨ret_int HR2.out.symm, rfl⟩
    · have hR : R = 2 := by rw [HR.out, if_neg (fun h => c ⟨h.2.1, h.2.2.1⟩)]
      have HR2 := Lib.hid hR
      have c' : C < 0 ∨ 281474976710655 < C := by omega
      have HC := Lib.hid c'
      clear HR hR c c'
      go_enter Try.func42, Try.ntmps42
      go_wp2_with fail
      refine hI.out.mono ?_
      rintro e w' ⟨rfl, rfl⟩
      go_wp2_with fail
      refine (kin_no _ _ w HC.out).mono ?_
      rintro e w' ⟨rfl, rfl⟩
      go_wp2_with fail
      go_ret
      exact ⟨ret_int HR2.out.symm, rfl⟩
  · have d : decide (0 ≤ firstAt m) = true := by unfold firstAt; rw [if_neg h8]; simp
    rw [d] at hI
    have hR : R = 2 := by rw [HR.out, if_neg (fun h => h8 h.1)]
    have HR2 := Lib.hid hR
    clear HR hR d
    go_enter Try.func42, Try.ntmps42
    go_wp2_with fail
    refine hI.out.mono ?_
    rintro e w' ⟨rfl, rfl⟩
    go_wp2_with fail
    go_ret
    exact ⟨ret_int HR2.out.symm, rfl⟩
set_option maxHeartbeats 1600000 in
set_option maxRecDepth 100000 in
theorem fits_size (A : Option Addr) (n cp : Nat) (C I : Int) (w : World) (h : n ≠ 8) (hn : n ≤ 140737488351300) :
    Calls Try.prog 42 #[.slice A n cp, .int .i64 C, .int .i64 I] w fun e w' => e = .returned (.int .i64 1) ∧ w = w' := by
  have d : ((n : Int) != 8) = true := by simp; omega
  go_enter Try.func42, Try.ntmps42
  go_wp2
  go_ret
  exact ⟨rfl, rfl⟩
theorem fits_any (A : Option Addr) (l : List Int) (n cp : Nat) (C I : Int) (w : World) (hl : l.length = n) (ha : Rd w A (ivs l)) (hn : n ≤ 140737488351300) :
    Calls Try.prog 42 #[.slice A n cp, .int .i64 C, .int .i64 I] w fun e w' => e = .returned (.int .i64 (padErr l C I)) ∧ w = w' := by
  by_cases h : n = 8
  · subst h
    obtain ⟨m, h1, h2⟩ := firstBad_ex l hl
    rw [padErr_words C I hl h2]
    exact fits_words A l cp m C I w hl ha h1
  · have e : padErr l C I = 1 := by unfold padErr; rw [if_pos (by omega)]
    rw [e]
    exact fits_size A n cp C I w h hn
end Go.Proofs.Ytkbaganbfcbioaa
namespace Go.Proofs.Ytkbaganbfcbioaa
set_option linter.unusedSimpArgs false
set_option linter.unusedVariables false
open Go.RowKit

theorem len8_lenB : ∀ n : Fin 256, Lib.len8 (n.val : Int) = (lenB n.val : Int) := by decide +kernel
theorem len8_at {z : Nat} (h : z < 256) : Lib.len8 (z : Int) = (lenB z : Int) := len8_lenB ⟨z, h⟩
theorem len_tab {z : Nat} (h : z < 256) : ∀ w, (Instr.index 9 (.string Lib.len8tab) (.int .u8 (z : Int))).run Try.prog w = .ok (.int .u8 (lenB z : Int)) w := by
  intro w
  rw [← len8_at h]
  exact Lib.run_index_len8tab w _ _ _ Try.underlying9 (by omega) (by omega)
set_option maxHeartbeats 2000000 in
set_option maxRecDepth 100000 in
theorem len64_any (x : Nat) (w : World) (hx : x < 18446744073709551616) : Calls Try.prog 75 #[.int .u64 (x : Int)] w fun e w' => e = .returned (.int .i64 (lenB x)) ∧ w = w' := by
  by_cases h56 : 72057594037927936 ≤ x
  · have a1 : (4294967296 : Int) ≤ (x : Int) := by first | exact decide_eq_false (by omega) | omega
    have a2 : (65536 : Int) ≤ (x : Int) / 4294967296 := by first | exact decide_eq_false (by omega) | omega
    have a3 : (256 : Int) ≤ (x : Int) / 4294967296 / 65536 := by first | exact decide_eq_false (by omega) | omega
    have hz : x / 2 ^ 56 < 256 := by omega
    have e1 : (x : Int) / 4294967296 / 65536 / 256 = ((x / 2 ^ 56 : Nat) : Int) := by omega
    have b2 : decide ((65536 : Int) ≤ ((x / 2 ^ 56 : Nat) : Int)) = false := decide_eq_false (by omega)
    have b3 : decide ((256 : Int) ≤ ((x / 2 ^ 56 : Nat) : Int)) = false := decide_eq_false (by omega)
    have e2 := len_tab hz
    have HS := Lib.hid (lenB_div (n := x) (k := 56) (by omega))
    have h8 : lenB (x / 2 ^ 56) ≤ 8 := lenB_le.2 hz
    generalize x / 2 ^ 56 = z at *
    go_enter Try.func75, Try.ntmps75
    go_wp2
    go_ret
    exact ⟨ret_int (by rw [HS.out]; omega), rfl⟩
  by_cases h48 : 281474976710656 ≤ x
  · have a1 : (4294967296 : Int) ≤ (x : Int) := by first | exact decide_eq_false (by omega) | omega
    have a2 : (65536 : Int) ≤ (x : Int) / 4294967296 := by first | exact decide_eq_false (by omega) | omega
    have a3 : decide ((256 : Int) ≤ (x : Int) / 4294967296 / 65536) = false := by first | exact decide_eq_false (by omega) | omega
    have hz : x / 2 ^ 48 < 256 := by omega
    have e1 : (x : Int) / 4294967296 / 65536 = ((x / 2 ^ 48 : Nat) : Int) := by omega
    have b2 : decide ((65536 : Int) ≤ ((x / 2 ^ 48 : Nat) : Int)) = false := decide_eq_false (by omega)
    have b3 : decide ((256 : Int) ≤ ((x / 2 ^ 48 : Nat) : Int)) = false := decide_eq_false (by omega)
    have e2 := len_tab hz
    have HS := Lib.hid (lenB_div (n := x) (k := 48) (by omega))
    have h8 : lenB (x / 2 ^ 48) ≤ 8 := lenB_le.2 hz
    generalize x / 2 ^ 48 = z at *
    go_enter Try.func75, Try.ntmps75
    go_wp2
    go_ret
    exact ⟨ret_int (by rw [HS.out]; omega), rfl⟩
  by_cases h40 : 1099511627776 ≤ x
  · have a1 : (4294967296 : Int) ≤ (x : Int) := by first | exact decide_eq_false (by omega) | omega
    have a2 : decide ((65536 : Int) ≤ (x : Int) / 4294967296) = false := by first | exact decide_eq_false (by omega) | omega
    have a3 : (256 : Int) ≤ (x : Int) / 4294967296 := by first | exact decide_eq_false (by omega) | omega
    have hz : x / 2 ^ 40 < 256 := by omega
    have e1 : (x : Int) / 4294967296 / 256 = ((x / 2 ^ 40 : Nat) : Int) := by omega
    have b2 : decide ((65536 : Int) ≤ ((x / 2 ^ 40 : Nat) : Int)) = false := decide_eq_false (by omega)
    have b3 : decide ((256 : Int) ≤ ((x / 2 ^ 40 : Nat) : Int)) = false := decide_eq_false (by omega)
    have e2 := len_tab hz
    have HS := Lib.hid (lenB_div (n := x) (k := 40) (by omega))
    have h8 : lenB (x / 2 ^ 40) ≤ 8 := lenB_le.2 hz
    generalize x / 2 ^ 40 = z at *
    go_enter Try.func75, Try.ntmps75
    go_wp2
    go_ret
    exact ⟨ret_int (by rw [HS.out]; omega), rfl⟩
  by_cases h32 : 4294967296 ≤ x
  · have a1 : (4294967296 : Int) ≤ (x : Int) := by first | exact decide_eq_false (by omega) | omega
    have a2 : decide ((65536 : Int) ≤ (x : Int) / 4294967296) = false := by first | exact decide_eq_false (by omega) | omega
    have a3 : decide ((256 : Int) ≤ (x : Int) / 4294967296) = false := by first | exact decide_eq_false (by omega) | omega
    have hz : x / 2 ^ 32 < 256 := by omega
    have e1 : (x : Int) / 4294967296 = ((x / 2 ^ 32 : Nat) : Int) := by omega
    have b2 : decide ((65536 : Int) ≤ ((x / 2 ^ 32 : Nat) : Int)) = false := decide_eq_false (by omega)
    have b3 : decide ((256 : Int) ≤ ((x / 2 ^ 32 : Nat) : Int)) = false := decide_eq_false (by omega)
    have e2 := len_tab hz
    have HS := Lib.hid (lenB_div (n := x) (k := 32) (by omega))
    have h8 : lenB (x / 2 ^ 32) ≤ 8 := lenB_le.2 hz
    generalize x / 2 ^ 32 = z at *
    go_enter Try.func75, Try.ntmps75
    go_wp2
    go_ret
    exact ⟨ret_int (by rw [HS.out]; omega), rfl⟩
  by_cases h24 : 16777216 ≤ x
  · have a1 : decide ((4294967296 : Int) ≤ (x : Int)) = false := by first | exact decide_eq_false (by omega) | omega
    have a2 : (65536 : Int) ≤ (x : Int) := by first | exact decide_eq_false (by omega) | omega
    have a3 : (256 : Int) ≤ (x : Int) / 65536 := by first | exact decide_eq_false (by omega) | omega
    have hz : x / 2 ^ 24 < 256 := by omega
    have e1 : (x : Int) / 65536 / 256 = ((x / 2 ^ 24 : Nat) : Int) := by omega
    have b2 : decide ((65536 : Int) ≤ ((x / 2 ^ 24 : Nat) : Int)) = false := decide_eq_false (by omega)
    have b3 : decide ((256 : Int) ≤ ((x / 2 ^ 24 : Nat) : Int)) = false := decide_eq_false (by omega)
    have e2 := len_tab hz
    have HS := Lib.hid (lenB_div (n := x) (k := 24) (by omega))
    have h8 : lenB (x / 2 ^ 24) ≤ 8 := lenB_le.2 hz
    generalize x / 2 ^ 24 = z at *
    go_enter Try.func75, Try.ntmps75
    go_wp2
    go_ret
    exact ⟨ret_int (by rw [HS.out]; omega), rfl⟩
  by_cases h16 : 65536 ≤ x
  · have a1 : decide ((4294967296 : Int) ≤ (x : Int)) = false := by first | exact decide_eq_false (by omega) | omega
    have a2 : (65536 : Int) ≤ (x : Int) := by first | exact decide_eq_false (by omega) | omega
    have a3 : decide ((256 : Int) ≤ (x : Int) / 65536) = false := by first | exact decide_eq_false (by omega) | omega
    have hz : x / 2 ^ 16 < 256 := by omega
    have e1 : (x : Int) / 65536 = ((x / 2 ^ 16 : Nat) : Int) := by omega
    have b2 : decide ((65536 : Int) ≤ ((x / 2 ^ 16 : Nat) : Int)) = false := decide_eq_false (by omega)
    have b3 : decide ((256 : Int) ≤ ((x / 2 ^ 16 : Nat) : Int)) = false := decide_eq_false (by omega)
    have e2 := len_tab hz
    have HS := Lib.hid (lenB_div (n := x) (k := 16) (by omega))
    have h8 : lenB (x / 2 ^ 16) ≤ 8 := lenB_le.2 hz
    generalize x / 2 ^ 16 = z at *
    go_enter Try.func75, Try.ntmps75
    go_wp2
    go_ret
    exact ⟨ret_int (by rw [HS.out]; omega), rfl⟩
  by_cases h8 : 256 ≤ x
  · have a1 : decide ((4294967296 : Int) ≤ (x : Int)) = false := by first | exact decide_eq_false (by omega) | omega
    have a2 : decide ((65536 : Int) ≤ (x : Int)) = false := by first | exact decide_eq_false (by omega) | omega
    have a3 : (256 : Int) ≤ (x : Int) := by first | exact decide_eq_false (by omega) | omega
    have hz : x / 2 ^ 8 < 256 := by omega
    have e1 : (x : Int) / 256 = ((x / 2 ^ 8 : Nat) : Int) := by omega
    have b2 : decide ((65536 : Int) ≤ ((x / 2 ^ 8 : Nat) : Int)) = false := decide_eq_false (by omega)
    have b3 : decide ((256 : Int) ≤ ((x / 2 ^ 8 : Nat) : Int)) = false := decide_eq_false (by omega)
    have e2 := len_tab hz
    have HS := Lib.hid (lenB_div (n := x) (k := 8) (by omega))
    have h8 : lenB (x / 2 ^ 8) ≤ 8 := lenB_le.2 hz
    generalize x / 2 ^ 8 = z at *
    go_enter Try.func75, Try.ntmps75
    go_wp2
    go_ret
    exact ⟨ret_int (by rw [HS.out]; omega), rfl⟩
  have hz : x < 256 := by omega
  have a1 : decide ((4294967296 : Int) ≤ (x : Int)) = false := decide_eq_false (by omega)
  have a2 : decide ((65536 : Int) ≤ (x : Int)) = false := decide_eq_false (by omega)
  have a3 : decide ((256 : Int) ≤ (x : Int)) = false := decide_eq_false (by omega)
  have e2 := len_tab hz
  have h8 : lenB x ≤ 8 := lenB_le.2 hz
  go_enter Try.func75, Try.ntmps75
  go_wp2
  go_ret
  exact ⟨ret_int (by omega), rfl⟩
theorem len_any (x : Nat) (w : World) (hx : x < 18446744073709551616) : Calls Try.prog 67 #[.int .u64 (x : Int)] w fun e w' => e = .returned (.int .i64 (lenB x)) ∧ w = w' := by
  have HC := Lib.hid (fun w => len64_any x w hx)
  go_enter Try.func67, Try.ntmps67
  go_wp2_with (go_at_call 75; refine (HC.out _).mono ?_; rintro e w' ⟨rfl, rfl⟩)
  go_ret
  exact ⟨rfl, rfl⟩
end Go.Proofs.Ytkbaganbfcbioaa
