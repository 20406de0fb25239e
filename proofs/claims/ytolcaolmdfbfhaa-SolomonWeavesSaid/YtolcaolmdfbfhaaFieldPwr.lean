import Derived.Test.YtolcaolmdfbfhaaFieldPow
namespace Go.Proofs.Ytolcaolmdfbfhaa
set_option linter.unusedSimpArgs false
set_option linter.unusedVariables false
open Go.RowKit

theorem tmod_bounds (n : Int) : -255 < n.tmod 255 ∧ n.tmod 255 < 255 := by
  have h1 := Int.tmod_lt_of_pos n (b := 255) (by omega)
  have h2 := Int.tmod_lt_of_pos (-n) (b := 255) (by omega)
  rw [Int.neg_tmod] at h2
  omega
theorem tmod_emod (n : Int) : (n.tmod 255) % 255 = n % 255 := by
  by_cases h : 0 ≤ n
  · rw [Int.tmod_eq_emod_of_nonneg h, Int.emod_emod_of_dvd _ (Int.dvd_refl _)]
  · have e : n = -(-n) := by omega
    generalize hm : -n = m at *
    subst e
    rw [Int.neg_tmod, Int.tmod_eq_emod_of_nonneg (by omega)]
    omega
/-- A number of powers, from nought on. -/
def powIx (n : Int) : Nat := (n % 255).toNat

set_option maxHeartbeats 1600000 in
set_option maxRecDepth 100000 in
theorem power_any (n : Int) (w : World) :
    Calls Try.prog 140 #[.int .i64 n] w fun e w' => e = .returned (.int .u8 (pow 2 (powIx n) : Nat)) ∧ w = w' := by
  have hb := tmod_bounds n
  have he := tmod_emod n
  have hx : n.tmod 255 % 255 = ((powIx n : Nat) : Int) := by unfold powIx; omega
  have hlt : powIx n < 255 := by unfold powIx; omega
  have HX := Lib.hid hx
  clear hx he
  obtain ⟨hb1, hb2⟩ := hb
  go_enter Try.func140, Try.ntmps140
  go_wp2_with fail
  refine (raised_any 2 (powIx n) _ _ (by rfl) HX.out _ (by omega) (by omega)).mono ?_
  rintro e w' ⟨rfl, rfl⟩
  go_wp2_with fail
  go_ret
  exact ⟨rfl, rfl⟩
set_option maxHeartbeats 1600000 in
set_option maxRecDepth 100000 in
theorem rpower_any (n : Int) (w : World) :
    Calls Try.prog 72 #[.int .i64 n] w fun e w' => e = .returned (.int .u8 (pow 2 (powIx n) : Nat)) ∧ w = w' := by
  have hb := tmod_bounds n
  have he := tmod_emod n
  have hlt : powIx n < 255 := by unfold powIx; omega
  have HT : Hid (timesN 1 2 (powIx n) = pow 2 (powIx n)) := timesN_one (by omega) _
  obtain ⟨hb1, hb2⟩ := hb
  by_cases hneg : n.tmod 255 < 0
  · have hx : n.tmod 255 + 255 = ((powIx n : Nat) : Int) := by unfold powIx; omega
    clear he
    generalize powIx n = m at *
    go_enter Try.func72, Try.ntmps72
    go_wp2_with fail
    go_loop [3, 4] (fun p i => ∃ k : Nat, k ≤ m ∧ i = .int .i64 k ∧ p = .int .u8 (timesN 1 2 k : Nat)) (fun _ i => m - (intOf i).toNat)
    case atStart => exact ⟨0, by omega, rfl, rfl⟩
    case round =>
      obtain ⟨k, hk, rfl, rfl⟩ := hrel
      by_cases h5 : k < m
      · have hq := timesN_lt (q := 1) (by omega) 2 k
        have HS : Hid (timesN 1 2 (k + 1) = mul (timesN 1 2 k) 2) := rfl
        generalize timesN 1 2 k = q at *
        go_wp2_with fail
        refine (rmul_i q 2 q 2 _ rfl (by rfl) hq (by omega)).mono ?_
        rintro e w' ⟨rfl, rfl⟩
        go_wp2_with fail
        go_round
        case rel => exact ⟨k + 1, by omega, by go_num, by rw [HS.out]⟩
        case measure => simp [intOf]; omega
      · obtain rfl : k = m := by omega
        go_wp2_with fail
        go_ret
        exact ⟨ret_int (by rw [HT.out]), rfl⟩
  · have hx : n.tmod 255 = ((powIx n : Nat) : Int) := by unfold powIx; omega
    clear he
    generalize powIx n = m at *
    go_enter Try.func72, Try.ntmps72
    go_wp2_with fail
    go_loop [3, 4] (fun p i => ∃ k : Nat, k ≤ m ∧ i = .int .i64 k ∧ p = .int .u8 (timesN 1 2 k : Nat)) (fun _ i => m - (intOf i).toNat)
    case atStart => exact ⟨0, by omega, rfl, rfl⟩
    case round =>
      obtain ⟨k, hk, rfl, rfl⟩ := hrel
      by_cases h5 : k < m
      · have hq := timesN_lt (q := 1) (by omega) 2 k
        have HS : Hid (timesN 1 2 (k + 1) = mul (timesN 1 2 k) 2) := rfl
        generalize timesN 1 2 k = q at *
        go_wp2_with fail
        refine (rmul_i q 2 q 2 _ rfl (by rfl) hq (by omega)).mono ?_
        rintro e w' ⟨rfl, rfl⟩
        go_wp2_with fail
        go_round
        case rel => exact ⟨k + 1, by omega, by go_num, by rw [HS.out]⟩
        case measure => simp [intOf]; omega
      · obtain rfl : k = m := by omega
        go_wp2_with fail
        go_ret
        exact ⟨ret_int (by rw [HT.out]), rfl⟩
end Go.Proofs.Ytolcaolmdfbfhaa
