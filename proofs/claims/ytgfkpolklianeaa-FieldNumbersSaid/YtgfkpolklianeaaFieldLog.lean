import Derived.Test.YtgfkpolklianeaaFieldPow
namespace Go.Proofs.Ytgfkpolklianeaa
set_option linter.unusedSimpArgs false
set_option linter.unusedVariables false
open Go.RowKit

/-- Of which number, from k on, the power of 2 is a; f: how many are tried. -/
def logFrom (a : Nat) : Nat → Nat → Option Nat
  | _, 0 => none
  | k, f + 1 => if pow 2 k = a then some k else logFrom a (k + 1) f
def logF (a : Nat) : Option Nat := logFrom a 0 255
def logv (r : Option Nat) : Value := .tuple #[.int .i64 (r.getD 0 : Nat), .bool r.isSome]

set_option maxHeartbeats 1600000 in
set_option maxRecDepth 100000 in
theorem log_any (a : Nat) (w : World) (ha : a < 256) :
    Calls Try.prog 48 #[.int .u8 a] w fun e w' => e = .returned (logv (logF a)) ∧ w = w' := by
  obtain ⟨r, HP⟩ : ∃ r, Hid (logF a = r) := ⟨_, rfl⟩
  rw [HP.out]
  go_enter Try.func48, Try.ntmps48
  go_wp2_with fail
  go_loop [4, 6] (fun p i => ∃ k : Nat, k ≤ 255 ∧ i = .int .i64 k ∧ p = .int .u8 (pow 2 k : Nat) ∧ Hid (logFrom a k (255 - k) = r)) (fun _ i => 255 - (intOf i).toNat)
  case atStart => exact ⟨0, by omega, rfl, rfl, HP⟩
  case round =>
    obtain ⟨k, hk, rfl, rfl, HR⟩ := hrel
    by_cases h5 : k < 255
    · have hq := pow_lt (a := 2) (by omega) k
      have HS : Hid (pow 2 (k + 1) = mul (pow 2 k) 2) := rfl
      have HE : Hid (logFrom a k (255 - k) = if pow 2 k = a then some k else logFrom a (k + 1) (255 - (k + 1))) := by
        show _ = _
        rw [show 255 - k = (255 - (k + 1)) + 1 from by omega]
        rfl
      generalize pow 2 k = q at *
      by_cases he : q = a
      · have HX : Hid (r = some k) := by show _ = _; rw [← HR.out, HE.out, if_pos he]
        have hz : ((q : Int) == (a : Int)) = true := by rw [beq_iff_eq, he]
        clear he
        go_wp2_with fail
        go_ret2
        refine ⟨?_, rfl⟩
        rw [HX.out]
        rfl
      · have HX : Hid (logFrom a (k + 1) (255 - (k + 1)) = r) := by show _ = _; rw [← HR.out, HE.out, if_neg he]
        have hz : ((q : Int) == (a : Int)) = false := by rw [beq_eq_false_iff_ne]; omega
        clear he
        go_wp2_with fail
        refine (mul_i q 2 q 2 _ rfl (by rfl) hq (by omega)).mono ?_
        rintro e w' ⟨rfl, rfl⟩
        go_wp2_with fail
        go_round
        case rel => exact ⟨k + 1, by omega, by go_num, by rw [HS.out], HX⟩
        case measure => simp [intOf]; omega
    · obtain rfl : k = 255 := by omega
      have HX : Hid (r = none) := by show _ = _; rw [← HR.out]; rfl
      go_wp2_with fail
      go_ret2
      refine ⟨?_, rfl⟩
      rw [HX.out]
      rfl
set_option maxHeartbeats 1600000 in
set_option maxRecDepth 100000 in
theorem rlog_any (a : Nat) (w : World) (ha : a < 256) :
    Calls Try.prog 49 #[.int .u8 a] w fun e w' => e = .returned (logv (logF a)) ∧ w = w' := by
  obtain ⟨r, HP⟩ : ∃ r, Hid (logF a = r) := ⟨_, rfl⟩
  rw [HP.out]
  go_enter Try.func49, Try.ntmps49
  go_wp2_with fail
  go_loop [4, 5] (fun p i => ∃ k : Nat, k ≤ 255 ∧ i = .int .i64 k ∧ p = .int .u8 (pow 2 k : Nat) ∧ Hid (logFrom a k (255 - k) = r)) (fun _ i => 255 - (intOf i).toNat)
  case atStart => exact ⟨0, by omega, rfl, rfl, HP⟩
  case round =>
    obtain ⟨k, hk, rfl, rfl, HR⟩ := hrel
    by_cases h5 : k < 255
    · have hq := pow_lt (a := 2) (by omega) k
      have HS : Hid (pow 2 (k + 1) = mul (pow 2 k) 2) := rfl
      have HE : Hid (logFrom a k (255 - k) = if pow 2 k = a then some k else logFrom a (k + 1) (255 - (k + 1))) := by
        show _ = _
        rw [show 255 - k = (255 - (k + 1)) + 1 from by omega]
        rfl
      generalize pow 2 k = q at *
      by_cases he : q = a
      · have HX : Hid (r = some k) := by show _ = _; rw [← HR.out, HE.out, if_pos he]
        have hz : ((q : Int) == (a : Int)) = true := by rw [beq_iff_eq, he]
        clear he
        go_wp2_with fail
        go_ret2
        refine ⟨?_, rfl⟩
        rw [HX.out]
        rfl
      · have HX : Hid (logFrom a (k + 1) (255 - (k + 1)) = r) := by show _ = _; rw [← HR.out, HE.out, if_neg he]
        have hz : ((q : Int) == (a : Int)) = false := by rw [beq_eq_false_iff_ne]; omega
        clear he
        go_wp2_with fail
        refine (rmul_i q 2 q 2 _ rfl (by rfl) hq (by omega)).mono ?_
        rintro e w' ⟨rfl, rfl⟩
        go_wp2_with fail
        go_round
        case rel => exact ⟨k + 1, by omega, by go_num, by rw [HS.out], HX⟩
        case measure => simp [intOf]; omega
    · obtain rfl : k = 255 := by omega
      have HX : Hid (r = none) := by show _ = _; rw [← HR.out]; rfl
      go_wp2_with fail
      go_ret2
      refine ⟨?_, rfl⟩
      rw [HX.out]
      rfl

theorem tmod_bounds (n : Int) : -255 < n.tmod 255 ∧ n.tmod 255 < 255 := by
  have h1 := Int.tmod_lt_of_pos n (b := 255) (by omega)
  have h2 := Int.tmod_lt_of_pos (-n) (b := 255) (by omega)
  rw [Int.neg_tmod] at h2
  omega
theorem tmod_emod (n : Int) : (n.tmod 255) % 255 = n % 255 := by
  by_cases h : 0 ≤ n
  · rw [Int.tmod_eq_emod_of_nonneg h, Int.emod_emod_of_dvd _ (Int.dvd_refl _)]
  · have e : n = -(-n) := by omega
    generalize hm : -n = m at *
    subst e
    rw [Int.neg_tmod, Int.tmod_eq_emod_of_nonneg (by omega)]
    omega
/-- A number of powers, from nought on. -/
def powIx (n : Int) : Nat := (n % 255).toNat

set_option maxHeartbeats 1600000 in
set_option maxRecDepth 100000 in
theorem power_any (n : Int) (w : World) :
    Calls Try.prog 52 #[.int .i64 n] w fun e w' => e = .returned (.int .u8 (pow 2 (powIx n) : Nat)) ∧ w = w' := by
  have hb := tmod_bounds n
  have he := tmod_emod n
  have hx : n.tmod 255 % 255 = ((powIx n : Nat) : Int) := by unfold powIx; omega
  have hlt : powIx n < 255 := by unfold powIx; omega
  have HX := Lib.hid hx
  clear hx he
  obtain ⟨hb1, hb2⟩ := hb
  go_enter Try.func52, Try.ntmps52
  go_wp2_with fail
  refine (raised_any 2 (powIx n) _ _ (by rfl) HX.out _ (by omega) (by omega)).mono ?_
  rintro e w' ⟨rfl, rfl⟩
  go_wp2_with fail
  go_ret
  exact ⟨rfl, rfl⟩
set_option maxHeartbeats 1600000 in
set_option maxRecDepth 100000 in
theorem rpower_any (n : Int) (w : World) :
    Calls Try.prog 53 #[.int .i64 n] w fun e w' => e = .returned (.int .u8 (pow 2 (powIx n) : Nat)) ∧ w = w' := by
  have hb := tmod_bounds n
  have he := tmod_emod n
  have hlt : powIx n < 255 := by unfold powIx; omega
  have HT : Hid (timesN 1 2 (powIx n) = pow 2 (powIx n)) := timesN_one (by omega) _
  obtain ⟨hb1, hb2⟩ := hb
  by_cases hneg : n.tmod 255 < 0
  · have hx : n.tmod 255 + 255 = ((powIx n : Nat) : Int) := by unfold powIx; omega
    clear he
    generalize powIx n = m at *
    go_enter Try.func53, Try.ntmps53
    go_wp2_with fail
    go_loop [3, 4] (fun p i => ∃ k : Nat, k ≤ m ∧ i = .int .i64 k ∧ p = .int .u8 (timesN 1 2 k : Nat)) (fun _ i => m - (intOf i).toNat)
    case atStart => exact ⟨0, by omega, rfl, rfl⟩
    case round =>
      obtain ⟨k, hk, rfl, rfl⟩ := hrel
      by_cases h5 : k < m
      · have hq := timesN_lt (q := 1) (by omega) 2 k
        have HS : Hid (timesN 1 2 (k + 1) = mul (timesN 1 2 k) 2) := rfl
        generalize timesN 1 2 k = q at *
        go_wp2_with fail
        refine (rmul_i q 2 q 2 _ rfl (by rfl) hq (by omega)).mono ?_
        rintro e w' ⟨rfl, rfl⟩
        go_wp2_with fail
        go_round
        case rel => exact ⟨k + 1, by omega, by go_num, by rw [HS.out]⟩
        case measure => simp [intOf]; omega
      · obtain rfl : k = m := by omega
        go_wp2_with fail
        go_ret
        exact ⟨ret_int (by rw [HT.out]), rfl⟩
  · have hx : n.tmod 255 = ((powIx n : Nat) : Int) := by unfold powIx; omega
    clear he
    generalize powIx n = m at *
    go_enter Try.func53, Try.ntmps53
    go_wp2_with fail
    go_loop [3, 4] (fun p i => ∃ k : Nat, k ≤ m ∧ i = .int .i64 k ∧ p = .int .u8 (timesN 1 2 k : Nat)) (fun _ i => m - (intOf i).toNat)
    case atStart => exact ⟨0, by omega, rfl, rfl⟩
    case round =>
      obtain ⟨k, hk, rfl, rfl⟩ := hrel
      by_cases h5 : k < m
      · have hq := timesN_lt (q := 1) (by omega) 2 k
        have HS : Hid (timesN 1 2 (k + 1) = mul (timesN 1 2 k) 2) := rfl
        generalize timesN 1 2 k = q at *
        go_wp2_with fail
        refine (rmul_i q 2 q 2 _ rfl (by rfl) hq (by omega)).mono ?_
        rintro e w' ⟨rfl, rfl⟩
        go_wp2_with fail
        go_round
        case rel => exact ⟨k + 1, by omega, by go_num, by rw [HS.out]⟩
        case measure => simp [intOf]; omega
      · obtain rfl : k = m := by omega
        go_wp2_with fail
        go_ret
        exact ⟨ret_int (by rw [HT.out]), rfl⟩
end Go.Proofs.Ytgfkpolklianeaa
