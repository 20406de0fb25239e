/-
  What is wrong with a key's words, a counter, an index, as the program asks.
-/
import Derived.Test.YtkbaganbfcbioaaKeyRef
namespace Go.Proofs.Ytkbaganbfcbioaa
set_option linter.unusedSimpArgs false
set_option linter.unusedVariables false
open Go.RowKit

set_option maxHeartbeats 1600000 in
set_option maxRecDepth 100000 in
theorem kin_yes (n most : Int) (w : World) (h0 : 0 ≤ n) (h1 : n ≤ most) : Calls Try.prog 53 #[.int .i64 n, .int .i64 most] w fun e w' => e = .returned (.bool true) ∧ w = w' := by
  go_enter Try.func53, Try.ntmps53
  go_wp2
  go_ret
  exact ⟨rfl, rfl⟩
set_option maxHeartbeats 1600000 in
set_option maxRecDepth 100000 in
theorem kin_no (n most : Int) (w : World) (h : n < 0 ∨ most < n) : Calls Try.prog 53 #[.int .i64 n, .int .i64 most] w fun e w' => e = .returned (.bool false) ∧ w = w' := by
  by_cases h0 : n < 0
  · have d : decide (0 ≤ n) = false := by simp; omega
    go_enter Try.func53, Try.ntmps53
    go_wp2
    go_ret
    exact ⟨rfl, rfl⟩
  · have h1 : most < n := by omega
    have h2 : 0 ≤ n := by omega
    have h3 : decide (n ≤ most) = false := by simp; omega
    clear h h0
    go_enter Try.func53, Try.ntmps53
    go_wp2
    go_ret
    exact ⟨rfl, rfl⟩
set_option maxHeartbeats 1600000 in
set_option maxRecDepth 100000 in
theorem odd_no (n : Int) (w : World) (h0 : 0 ≤ n) (h1 : n ≤ 4294967295) : Calls Try.prog 62 #[.int .i64 n] w fun e w' => e = .returned (.bool false) ∧ w = w' := by
  go_enter Try.func62, Try.ntmps62
  go_wp2_with fail
  refine (kin_yes _ _ w h0 h1).mono ?_
  rintro e w' ⟨rfl, rfl⟩
  go_wp2
  go_ret
  exact ⟨rfl, rfl⟩
set_option maxHeartbeats 1600000 in
set_option maxRecDepth 100000 in
theorem odd_yes (n : Int) (w : World) (h : n < 0 ∨ 4294967295 < n) : Calls Try.prog 62 #[.int .i64 n] w fun e w' => e = .returned (.bool true) ∧ w = w' := by
  go_enter Try.func62, Try.ntmps62
  go_wp2_with fail
  refine (kin_no _ _ w h).mono ?_
  rintro e w' ⟨rfl, rfl⟩
  go_wp2
  go_ret
  exact ⟨rfl, rfl⟩
/-- Where the first one is. -/
def firstAt (m : Nat) : Int := if m = 8 then -1 else (m : Int)
set_option maxHeartbeats 1600000 in
set_option maxRecDepth 100000 in
theorem idx_words (A : Option Addr) (l : List Int) (cp m : Nat) (w : World) (hl : l.length = 8) (ha : Rd w A (ivs l)) (hm : firstBad l m) :
    Calls Try.prog 71 #[.slice A 8 cp, .func (.func 62) #[] #[]] w fun e w' => e = .returned (.int .i64 (firstAt m)) ∧ w = w' := by
  obtain ⟨hm8, hgood, hbad⟩ := hm
  have HG := Lib.hid hgood
  have HB := Lib.hid hbad
  clear hgood hbad
  go_enter Try.func71, Try.ntmps71
  go_wp2_with fail
  go_loop [8] (fun i => ∃ k : Nat, k ≤ m ∧ i = .int .i64 k) (fun i => 8 - (intOf i).toNat)
  case atStart => exact ⟨0, by omega, by simp⟩
  case round =>
    obtain ⟨k, hk, rfl⟩ := hrel
    by_cases h8 : k = 8
    · subst h8
      obtain rfl : m = 8 := by omega
      go_wp2
      go_ret
      exact ⟨ret_int (by simp [firstAt]), rfl⟩
    · have k8 : k < 8 := by omega
      have k8i : (k : Int) < 8 := by omega
      obtain ⟨b, off, rfl, hc⟩ := ha.intE (k := k) (by omega)
      by_cases hkm : k < m
      · obtain ⟨g1, g2⟩ := HG.out k hkm
        generalize l.getD k 0 = x at *
        go_wp2_with fail
        refine (odd_no x w g1 g2).mono ?_
        rintro e w' ⟨rfl, rfl⟩
        go_wp2_with fail
        go_round
        case rel => exact ⟨k + 1, by omega, by go_num⟩
        case measure => simp [intOf]; omega
      · obtain rfl : k = m := by omega
        have g := HB.out k8
        generalize l.getD k 0 = x at *
        have g' : x < 0 ∨ 4294967295 < x := by omega
        have G := Lib.hid g'
        clear g g' HG HB
        go_wp2_with fail
        refine (odd_yes x w G.out).mono ?_
        rintro e w' ⟨rfl, rfl⟩
        go_wp2_with fail
        go_ret
        exact ⟨ret_int (by unfold firstAt; rw [if_neg h8]), rfl⟩
set_option maxHeartbeats 1600000 in
set_option maxRecDepth 100000 in
theorem has_words (A : Option Addr) (l : List Int) (cp m : Nat) (w : World) (hl : l.length = 8) (ha : Rd w A (ivs l)) (hm : firstBad l m) :
    Calls Try.prog 61 #[.slice A 8 cp, .func (.func 62) #[] #[]] w fun e w' => e = .returned (.bool (decide (0 ≤ firstAt m))) ∧ w = w' := by
  have hI := Lib.hid (idx_words A l cp m w hl ha hm)
  clear ha hm hl
  generalize firstAt m = r at *
  go_enter Try.func61, Try.ntmps61
  go_wp2_with fail
  refine hI.out.mono ?_
  rintro e w' ⟨rfl, rfl⟩
  go_wp2_with fail
  go_ret
  exact ⟨rfl, rfl⟩

set_option maxHeartbeats 1600000 in
set_option maxRecDepth 100000 in
theorem fits_words (A : Option Addr) (l : List Int) (cp m : Nat) (C I : Int) (w : World) (hl : l.length = 8) (ha : Rd w A (ivs l)) (hm : firstBad l m) :
    Calls Try.prog 42 #[.slice A 8 cp, .int .i64 C, .int .i64 I] w fun e w' => e = .returned (.int .i64 (rangeB m C I)) ∧ w = w' := by
  have hI := Lib.hid (has_words A l cp m w hl ha hm)
  have hm8 := hm.1
  clear ha hm
  have HR : Hid (rangeB m C I = if m = 8 ∧ 0 ≤ C ∧ C ≤ 281474976710655 ∧ 0 ≤ I ∧ I ≤ 1000 then 0 else 2) := Lib.hid rfl
  generalize rangeB m C I = R at *
  by_cases h8 : m = 8
  · subst h8
    have d : decide (0 ≤ firstAt 8) = false := by decide
    rw [d] at hI
    clear d
    by_cases c : 0 ≤ C ∧ C ≤ 281474976710655
    · obtain ⟨c0, c1⟩ := c
      by_cases i : 0 ≤ I ∧ I ≤ 1000
      · obtain ⟨i0, i1⟩ := i
        go_enter Try.func42, Try.ntmps42
        go_wp2_with fail
        refine hI.out.mono ?_
        rintro e w' ⟨rfl, rfl⟩
        go_wp2_with fail
        refine (kin_yes _ _ w c0 c1).mono ?_
        rintro e w' ⟨rfl, rfl⟩
        go_wp2_with fail
        refine (kin_yes _ _ w i0 i1).mono ?_
        rintro e w' ⟨rfl, rfl⟩
        go_wp2_with fail
        go_ret
        exact ⟨ret_int (by rw [HR.out, if_pos (by exact ⟨by first | rfl | trivial, c0, c1, i0, i1⟩)]), rfl⟩
      · have hR : R = 2 := by rw [HR.out, if_neg (fun h => i h.2.2.2)]
        have HR2 := Lib.hid hR
        have i' : I < 0 ∨ 1000 < I := by omega
        have HI := Lib.hid i'
        clear HR hR i i'
        go_enter Try.func42, Try.ntmps42
        go_wp2_with fail
        refine hI.out.mono ?_
        rintro e w' ⟨rfl, rfl⟩
        go_wp2_with fail
        refine (kin_yes _ _ w c0 c1).mono ?_
        rintro e w' ⟨rfl, rfl⟩
        go_wp2_with fail
        refine (kin_no _ _ w HI.out).mono ?_
        rintro e w' ⟨rfl, rfl⟩
        go_wp2_with fail
        go_ret
        exact ⟨ret_int HR2.out.symm, rfl⟩
    · have hR : R = 2 := by rw [HR.out, if_neg (fun h => c ⟨h.2.1, h.2.2.1⟩)]
      have HR2 := Lib.hid hR
      have c' : C < 0 ∨ 281474976710655 < C := by omega
      have HC := Lib.hid c'
      clear HR hR c c'
      go_enter Try.func42, Try.ntmps42
      go_wp2_with fail
      refine hI.out.mono ?_
      rintro e w' ⟨rfl, rfl⟩
      go_wp2_with fail
      refine (kin_no _ _ w HC.out).mono ?_
      rintro e w' ⟨rfl, rfl⟩
      go_wp2_with fail
      go_ret
      exact ⟨ret_int HR2.out.symm, rfl⟩
  · have d : decide (0 ≤ firstAt m) = true := by unfold firstAt; rw [if_neg h8]; simp
    rw [d] at hI
    have hR : R = 2 := by rw [HR.out, if_neg (fun h => h8 h.1)]
    have HR2 := Lib.hid hR
    clear HR hR d
    go_enter Try.func42, Try.ntmps42
    go_wp2_with fail
    refine hI.out.mono ?_
    rintro e w' ⟨rfl, rfl⟩
    go_wp2_with fail
    go_ret
    exact ⟨ret_int HR2.out.symm, rfl⟩
set_option maxHeartbeats 1600000 in
set_option maxRecDepth 100000 in
theorem fits_size (A : Option Addr) (n cp : Nat) (C I : Int) (w : World) (h : n ≠ 8) (hn : n ≤ 140737488351300) :
    Calls Try.prog 42 #[.slice A n cp, .int .i64 C, .int .i64 I] w fun e w' => e = .returned (.int .i64 1) ∧ w = w' := by
  have d : ((n : Int) != 8) = true := by simp; omega
  go_enter Try.func42, Try.ntmps42
  go_wp2
  go_ret
  exact ⟨rfl, rfl⟩
theorem fits_any (A : Option Addr) (l : List Int) (n cp : Nat) (C I : Int) (w : World) (hl : l.length = n) (ha : Rd w A (ivs l)) (hn : n ≤ 140737488351300) :
    Calls Try.prog 42 #[.slice A n cp, .int .i64 C, .int .i64 I] w fun e w' => e = .returned (.int .i64 (padErr l C I)) ∧ w = w' := by
  by_cases h : n = 8
  · subst h
    obtain ⟨m, h1, h2⟩ := firstBad_ex l hl
    rw [padErr_words C I hl h2]
    exact fits_words A l cp m C I w hl ha h1
  · have e : padErr l C I = 1 := by unfold padErr; rw [if_pos (by omega)]
    rw [e]
    exact fits_size A n cp C I w h hn
end Go.Proofs.Ytkbaganbfcbioaa
