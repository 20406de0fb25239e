/-
  The program's TrailingZeros, places, free, Code and Mend.
-/
import Derived.Test.YtidgdjagaifofaaDoorCodeR
import Derived.Test.YtidgdjagaifofaaDoorCodeL
import Derived.Test.YtidgdjagaifofaaDoorLen
import Derived.Shelf.Spec.TrailingZeros
namespace Go.Proofs.YtidgdjagaifofaaDoor
set_option linter.unusedSimpArgs false
set_option linter.unusedVariables false
open Go.RowKit

/-- The table of math/bits lies in its variable. -/
def TabOk (w : World) : Prop := Go.Proofs.TabAt 1 Lib.deBruijn64tab w
set_option maxHeartbeats 1600000 in
set_option maxRecDepth 100000 in
theorem tz64_core (x k idx : Nat) (w : World) (hx0 : ((x : Int) == 0) = false)
    (key : IntKind.u64.wrap (bits BinOp.and IntKind.u64 (x : Int) (IntKind.u64.wrap (-(x : Int))) * 285870213051353865) / 288230376151711744 = (idx : Int))
    (hi : idx < 64) (hk : k < 64) (hcell : w.cell? ⟨1, idx, none⟩ = some (.int .u8 k)) :
    Calls Tryd.prog 16 #[.int .u64 (x : Int)] w fun e w' => e = .returned (.int .i64 (k : Nat)) ∧ w = w' := by
  go_enter Tryd.func16, Tryd.ntmps16
  go_wp2_with (simp only [key])
  go_ret
  exact ⟨rfl, rfl⟩
theorem tz64_any (x : Nat) (w : World) (hx0 : x ≠ 0) (hx : x < 18446744073709551616) (hT : TabOk w) : Calls Tryd.prog 16 #[.int .u64 (x : Int)] w fun e w' => e = .returned (.int .i64 (Lib.ctz 64 x : Nat)) ∧ w = w' := by
  obtain ⟨hlow, hk⟩ := Lib.lowest_bit 64 x hx0 hx
  obtain ⟨hi, htab⟩ := Lib.deBruijn64_at _ hk
  have hcell := hT _ hi
  rw [htab] at hcell
  exact tz64_core x _ _ w (by simp; omega) (Go.Proofs.tz64_key x _ hx hx0 hlow) hi hk hcell
set_option maxHeartbeats 1600000 in
set_option maxRecDepth 100000 in
theorem tz_any (x : Nat) (w : World) (hx0 : x ≠ 0) (hx : x < 18446744073709551616) (hT : TabOk w) : Calls Tryd.prog 12 #[.int .u64 (x : Int)] w fun e w' => e = .returned (.int .i64 (Lib.ctz 64 x : Nat)) ∧ w = w' := by
  have HC := Lib.hid (tz64_any x w hx0 hx hT)
  clear hT
  go_enter Tryd.func12, Tryd.ntmps12
  go_wp2_with (go_at_call 16; refine HC.out.mono ?_; rintro e w' ⟨rfl, rfl⟩)
  go_ret
  exact ⟨rfl, rfl⟩
set_option maxHeartbeats 1600000 in
set_option maxRecDepth 100000 in
theorem free_any (p : Nat) (w : World) (hp : p < 64) : Calls Tryd.prog 9 #[.int .i64 (p : Int)] w fun e w' => e = .returned (.bool (freeB p)) ∧ w = w' := by
  by_cases h0 : p = 0
  · subst h0
    go_enter Tryd.func9, Tryd.ntmps9
    go_wp2
    go_ret
    exact ⟨rfl, rfl⟩
  · have e1 := free_i64 p hp (by omega)
    have HF : Hid (freeB p = ((p &&& (p - 1)) != 0)) := Lib.hid rfl
    generalize freeB p = fb at *
    generalize p &&& (p - 1) = f at *
    have HE : Hid ((((f : Nat) : Int) != 0) = (f != 0)) := Lib.hid (by rw [Bool.eq_iff_iff]; simp)
    go_enter Tryd.func9, Tryd.ntmps9
    go_wp2
    go_ret
    exact ⟨ret_bool (by rw [HF.out, ← HE.out]), rfl⟩
set_option maxHeartbeats 1600000 in
set_option maxRecDepth 100000 in
theorem places_any (c : Nat) (w : World) (hc : c < 549755813888) (hT : TabOk w) : Calls Tryd.prog 10 #[.int .i64 (c : Int)] w fun e w' => e = .returned (.tuple #[.int .i64 ((onesTo c 39).2 : Nat), .bool (decide ((onesTo c 39).1 % 2 = 0))]) ∧ w = w' := by
  have HT := Lib.hid hT
  have hcw : IntKind.u64.wrap (c : Int) = (c : Int) := by rw [IntKind.wrap_u64]; omega
  clear hT
  go_enter Tryd.func10, Tryd.ntmps10
  go_wp2_with fail
  go_loop [2, 3, 4] (fun s e x => ∃ t : Nat, t ≤ 39 ∧ x = .int .u64 (clrTo c t : Nat) ∧ s = .int .i64 ((onesTo c t).2 : Nat) ∧ e = .bool (decide ((onesTo c t).1 % 2 = 0))) (fun _ _ x => (intOf x).toNat)
  case atStart => exact ⟨0, by omega, by rw [clrTo_zero], rfl, rfl⟩
  case round =>
    obtain ⟨t, ht, rfl, rfl, rfl⟩ := hrel
    have hle := clr_le c t
    by_cases h0 : clrTo c t = 0
    · rw [h0]
      have HE := Lib.hid (clr_end h0 ht)
      generalize onesTo c t = s at *
      go_wp2_with fail
      go_ret2
      exact ⟨by rw [HE.out]; rfl, rfl⟩
    · obtain ⟨h1, h2, h3, h4⟩ := clr_next hc h0
      have hol := onesTo_lt c t (by omega)
      have HC := Lib.hid (tz_any (clrTo c t) w h0 (by omega) HT.out)
      have H2 := Lib.hid h2
      have H4 := Lib.hid h4
      have hxw : IntKind.u64.wrap ((clrTo c t : Int) - 1) = ((clrTo c t - 1 : Nat) : Int) := by rw [IntKind.wrap_u64]; omega
      have e1 := bits_and_u64_nat (clrTo c t) (clrTo c t - 1) (by omega) (by omega)
      rw [h3] at e1
      have ex := i64_xor_nat (onesTo c t).2 (Lib.ctz 64 (clrTo c t)) (by omega) (by omega)
      have hb : ((clrTo c t : Int) != 0) = true := by simp; omega
      generalize onesTo c t = s at *
      obtain ⟨n, x⟩ := s
      dsimp only at *
      generalize hy : clrTo c (Lib.ctz 64 (clrTo c t) + 1) = y at *
      have HY := Lib.hid hy
      clear hy
      generalize Lib.ctz 64 (clrTo c t) = q at *
      generalize hz : x ^^^ q = z at *
      have HZ := Lib.hid hz
      generalize clrTo c t = X at *
      clear h2 h3 h4 hz
      go_wp2_with (go_at_call 12; (with_reducible refine HC.out.mono ?_); rintro e w' ⟨rfl, rfl⟩)
      go_round
      case rel => exact ⟨q + 1, by omega, by rw [HY.out], by rw [H2.out], by rw [H2.out]; congr 1; rw [Bool.eq_iff_iff]; simp; omega⟩
      case measure => have := H4.out; simp [intOf] <;> omega
theorem and_tab : ∀ (s : Fin 64) (i : Fin 6), bits .and .i64 (s.val : Int) ((2 ^ i.val : Nat) : Int) = ((s.val / 2 ^ i.val % 2 * 2 ^ i.val : Nat) : Int) := by decide +kernel
theorem and_pow {s i : Nat} (hs : s < 64) (hi : i < 6) : bits .and .i64 (s : Int) ((2 ^ i : Nat) : Int) = ((s / 2 ^ i % 2 * 2 ^ i : Nat) : Int) := and_tab ⟨s, hs⟩ ⟨i, hi⟩
theorem evenTo_one {c w i : Nat} (h : w / 2 ^ i % 2 = 1) : evenTo c w (i + 1) = !evenTo c w i := by
  conv => lhs; unfold evenTo
  rw [if_pos h]
theorem evenTo_not {c w i : Nat} (h : w / 2 ^ i % 2 ≠ 1) : evenTo c w (i + 1) = evenTo c w i := by
  conv => lhs; unfold evenTo
  rw [if_neg h]

set_option maxHeartbeats 6400000 in
set_option maxRecDepth 100000 in
theorem code_good (n : Nat) (w : World) (hn : n < 4294967296) (hT : TabOk w) : Calls Tryd.prog 5 #[.int .i64 (n : Int)] w fun e w' => e = .returned (.tuple #[.int .i64 (codeW n : Nat), .int .i64 0]) ∧ w = w' := by
  have HP := Lib.hid (fun (c : Nat) (h : c < 549755813888) => places_any c w h hT)
  have HFr := Lib.hid (fun (p : Nat) (h : p < 64) => free_any p w h)
  have HW := Lib.hid (codeW_prog n)
  have HCL := Lib.hid (codeTo_lt n)
  have HFL := Lib.hid (fun (c w : Nat) (h : c < 549755813888) (i : Nat) (hi : i ≤ 6) => (by have := fixTo_lt (c := c) (w := w) (by rw [pow39]; exact h) i hi; rwa [pow39] at this : fixTo c w i < 549755813888))
  have HOL := Lib.hid (fun (c : Nat) => onesTo_lt c 39 (by omega))
  have hni : (n : Int) ≤ 4294967295 := by omega
  have hn0 : (0 : Int) ≤ (n : Int) := by omega
  clear hT
  go_enter Tryd.func5, Tryd.ntmps5
  go_wp2_with fail
  go_loop [0, 4, 15] (fun x c p => ∃ k : Nat, k ≤ 39 ∧ p = .int .i64 k ∧ c = .int .i64 ((codeTo n k).1 : Nat) ∧ x = .int .i64 ((codeTo n k).2 : Nat)) (fun _ _ p => 39 - (intOf p).toNat)
  case atStart => exact ⟨0, by omega, by simp, rfl, rfl⟩
  case round =>
    obtain ⟨k, hk, rfl, rfl, rfl⟩ := hrel
    have hr := codeTo_rest n k
    have hl := HCL.out k
    have hl2 : (codeTo n k).1 < 549755813888 := Nat.lt_of_lt_of_le hl (by rw [← pow39]; exact Nat.pow_le_pow_right (by decide) hk)
    clear hl
    by_cases h0 : k < 39
    · have h0i : (k : Int) < 39 := by omega
      have HF := Lib.hid (HFr.out k (by omega))
      by_cases hb : freeB k = true
      · have HS := Lib.hid (codeTo_free (n := n) hb)
        rw [hb] at HF
        generalize codeTo n k = s at *
        obtain ⟨c, x⟩ := s
        dsimp only at *
        have e2 := one_i64 x (by omega)
        have e3 := or_shl (b := x % 2) hl2 (by omega) h0
        have e4 : (x : Int) / 2 = ((x / 2 : Nat) : Int) := by omega
        generalize x / 2 = x2 at *
        generalize x % 2 = b at *
        generalize c ||| b * 2 ^ k = c2 at *
        clear hb
        go_wp2_with (go_at_call 9; (with_reducible refine HF.out.mono ?_); rintro e w' ⟨rfl, rfl⟩)
        go_round
        case rel => exact ⟨k + 1, by omega, by go_num, by rw [HS.out], by rw [HS.out]⟩
        case measure => simp [intOf] <;> omega
      · have HS := Lib.hid (codeTo_not (n := n) (p := k) (by simpa using hb))
        rw [show freeB k = false by simpa using hb] at HF
        generalize codeTo n k = s at *
        obtain ⟨c, x⟩ := s
        dsimp only at *
        clear hb
        go_wp2_with (go_at_call 9; (with_reducible refine HF.out.mono ?_); rintro e w' ⟨rfl, rfl⟩)
        go_round
        case rel => exact ⟨k + 1, by omega, by go_num, by rw [HS.out], by rw [HS.out]⟩
        case measure => simp [intOf] <;> omega
    · obtain rfl : k = 39 := by omega
      generalize codeTo n 39 = s at *
      obtain ⟨c, x⟩ := s
      dsimp only at *
      have C1 := Lib.hid (HP.out c hl2)
      have hsl := HOL.out c
      have HE0 : Hid (evenTo c (onesTo c 39).2 0 = decide ((onesTo c 39).1 % 2 = 0)) := Lib.hid rfl
      generalize decide ((onesTo c 39).1 % 2 = 0) = ev0 at *
      generalize (onesTo c 39).2 = s at *
      go_wp2_with fail
      refine C1.out.mono ?_
      rintro e w' ⟨rfl, rfl⟩
      go_wp2_with fail
      go_loop [4, 7, 8] (fun d e i => ∃ k : Nat, k ≤ 6 ∧ i = .int .i64 (2 ^ k : Nat) ∧ d = .int .i64 (fixTo c s k : Nat) ∧ e = .bool (evenTo c s k)) (fun _ _ i => 64 - (intOf i).toNat)
      case atStart => exact ⟨0, by omega, by simp, rfl, by rw [HE0.out]⟩
      case round =>
        obtain ⟨k, hk, rfl, rfl, rfl⟩ := hrel
        have hf := HFL.out c s hl2 k hk
        by_cases h0 : k < 6
        · have e := and_pow hsl h0
          by_cases hb : s / 2 ^ k % 2 = 1
          · have HS := Lib.hid (fixTo_one (c := c) hb)
            have HV := Lib.hid (evenTo_one (c := c) hb)
            rw [hb, Nat.one_mul] at e
            clear hb
            by_cases hj0 : k = 0
            · subst hj0
              rw [show (2 : Nat) ^ 2 ^ 0 = 2 from by decide] at HS
              have e3 : bits .or .i64 (fixTo c s 0 : Int) 2 = ((fixTo c s 0 ||| 2 : Nat) : Int) := i64_or_nat (fixTo c s 0) 2 (by omega) (by omega)
              have e5 : bits .and .i64 (s : Int) 1 = 1 := e
              rw [show (2 : Nat) ^ 0 = 1 from by decide]
              generalize fixTo c s 0 = d at *
              generalize d ||| 2 = d2 at *
              generalize evenTo c s 0 = ev at *
              clear e
              go_wp2_with fail
              go_round
              case rel => exact ⟨0 + 1, by omega, by rw [show (2 : Nat) ^ (0 + 1) = 2 from by decide]; rfl, by rw [HS.out], by rw [HV.out]⟩
              case measure => simp [intOf]
            by_cases hj1 : k = 1
            · subst hj1
              rw [show (2 : Nat) ^ 2 ^ 1 = 4 from by decide] at HS
              have e3 : bits .or .i64 (fixTo c s 1 : Int) 4 = ((fixTo c s 1 ||| 4 : Nat) : Int) := i64_or_nat (fixTo c s 1) 4 (by omega) (by omega)
              have e5 : bits .and .i64 (s : Int) 2 = 2 := e
              rw [show (2 : Nat) ^ 1 = 2 from by decide]
              generalize fixTo c s 1 = d at *
              generalize d ||| 4 = d2 at *
              generalize evenTo c s 1 = ev at *
              clear e
              go_wp2_with fail
              go_round
              case rel => exact ⟨1 + 1, by omega, by rw [show (2 : Nat) ^ (1 + 1) = 4 from by decide]; rfl, by rw [HS.out], by rw [HV.out]⟩
              case measure => simp [intOf]
            by_cases hj2 : k = 2
            · subst hj2
              rw [show (2 : Nat) ^ 2 ^ 2 = 16 from by decide] at HS
              have e3 : bits .or .i64 (fixTo c s 2 : Int) 16 = ((fixTo c s 2 ||| 16 : Nat) : Int) := i64_or_nat (fixTo c s 2) 16 (by omega) (by omega)
              have e5 : bits .and .i64 (s : Int) 4 = 4 := e
              rw [show (2 : Nat) ^ 2 = 4 from by decide]
              generalize fixTo c s 2 = d at *
              generalize d ||| 16 = d2 at *
              generalize evenTo c s 2 = ev at *
              clear e
              go_wp2_with fail
              go_round
              case rel => exact ⟨2 + 1, by omega, by rw [show (2 : Nat) ^ (2 + 1) = 8 from by decide]; rfl, by rw [HS.out], by rw [HV.out]⟩
              case measure => simp [intOf]
            by_cases hj3 : k = 3
            · subst hj3
              rw [show (2 : Nat) ^ 2 ^ 3 = 256 from by decide] at HS
              have e3 : bits .or .i64 (fixTo c s 3 : Int) 256 = ((fixTo c s 3 ||| 256 : Nat) : Int) := i64_or_nat (fixTo c s 3) 256 (by omega) (by omega)
              have e5 : bits .and .i64 (s : Int) 8 = 8 := e
              rw [show (2 : Nat) ^ 3 = 8 from by decide]
              generalize fixTo c s 3 = d at *
              generalize d ||| 256 = d2 at *
              generalize evenTo c s 3 = ev at *
              clear e
              go_wp2_with fail
              go_round
              case rel => exact ⟨3 + 1, by omega, by rw [show (2 : Nat) ^ (3 + 1) = 16 from by decide]; rfl, by rw [HS.out], by rw [HV.out]⟩
              case measure => simp [intOf]
            by_cases hj4 : k = 4
            · subst hj4
              rw [show (2 : Nat) ^ 2 ^ 4 = 65536 from by decide] at HS
              have e3 : bits .or .i64 (fixTo c s 4 : Int) 65536 = ((fixTo c s 4 ||| 65536 : Nat) : Int) := i64_or_nat (fixTo c s 4) 65536 (by omega) (by omega)
              have e5 : bits .and .i64 (s : Int) 16 = 16 := e
              rw [show (2 : Nat) ^ 4 = 16 from by decide]
              generalize fixTo c s 4 = d at *
              generalize d ||| 65536 = d2 at *
              generalize evenTo c s 4 = ev at *
              clear e
              go_wp2_with fail
              go_round
              case rel => exact ⟨4 + 1, by omega, by rw [show (2 : Nat) ^ (4 + 1) = 32 from by decide]; rfl, by rw [HS.out], by rw [HV.out]⟩
              case measure => simp [intOf]
            by_cases hj5 : k = 5
            · subst hj5
              rw [show (2 : Nat) ^ 2 ^ 5 = 4294967296 from by decide] at HS
              have e3 : bits .or .i64 (fixTo c s 5 : Int) 4294967296 = ((fixTo c s 5 ||| 4294967296 : Nat) : Int) := i64_or_nat (fixTo c s 5) 4294967296 (by omega) (by omega)
              have e5 : bits .and .i64 (s : Int) 32 = 32 := e
              rw [show (2 : Nat) ^ 5 = 32 from by decide]
              generalize fixTo c s 5 = d at *
              generalize d ||| 4294967296 = d2 at *
              generalize evenTo c s 5 = ev at *
              clear e
              go_wp2_with fail
              go_round
              case rel => exact ⟨5 + 1, by omega, by rw [show (2 : Nat) ^ (5 + 1) = 64 from by decide]; rfl, by rw [HS.out], by rw [HV.out]⟩
              case measure => simp [intOf]
            exact absurd h0 (by omega)
          · have HS := Lib.hid (fixTo_not (c := c) hb)
            have HV := Lib.hid (evenTo_not (c := c) hb)
            have hb2 : s / 2 ^ k % 2 = 0 := by omega
            rw [hb2, Nat.zero_mul] at e
            clear hb hb2
            by_cases hj0 : k = 0
            · subst hj0
              have e5 : bits .and .i64 (s : Int) 1 = 0 := e
              rw [show (2 : Nat) ^ 0 = 1 from by decide]
              generalize fixTo c s 0 = d at *
              generalize evenTo c s 0 = ev at *
              clear e
              go_wp2_with fail
              go_round
              case rel => exact ⟨0 + 1, by omega, by rw [show (2 : Nat) ^ (0 + 1) = 2 from by decide]; rfl, by rw [HS.out], by rw [HV.out]⟩
              case measure => simp [intOf]
            by_cases hj1 : k = 1
            · subst hj1
              have e5 : bits .and .i64 (s : Int) 2 = 0 := e
              rw [show (2 : Nat) ^ 1 = 2 from by decide]
              generalize fixTo c s 1 = d at *
              generalize evenTo c s 1 = ev at *
              clear e
              go_wp2_with fail
              go_round
              case rel => exact ⟨1 + 1, by omega, by rw [show (2 : Nat) ^ (1 + 1) = 4 from by decide]; rfl, by rw [HS.out], by rw [HV.out]⟩
              case measure => simp [intOf]
            by_cases hj2 : k = 2
            · subst hj2
              have e5 : bits .and .i64 (s : Int) 4 = 0 := e
              rw [show (2 : Nat) ^ 2 = 4 from by decide]
              generalize fixTo c s 2 = d at *
              generalize evenTo c s 2 = ev at *
              clear e
              go_wp2_with fail
              go_round
              case rel => exact ⟨2 + 1, by omega, by rw [show (2 : Nat) ^ (2 + 1) = 8 from by decide]; rfl, by rw [HS.out], by rw [HV.out]⟩
              case measure => simp [intOf]
            by_cases hj3 : k = 3
            · subst hj3
              have e5 : bits .and .i64 (s : Int) 8 = 0 := e
              rw [show (2 : Nat) ^ 3 = 8 from by decide]
              generalize fixTo c s 3 = d at *
              generalize evenTo c s 3 = ev at *
              clear e
              go_wp2_with fail
              go_round
              case rel => exact ⟨3 + 1, by omega, by rw [show (2 : Nat) ^ (3 + 1) = 16 from by decide]; rfl, by rw [HS.out], by rw [HV.out]⟩
              case measure => simp [intOf]
            by_cases hj4 : k = 4
            · subst hj4
              have e5 : bits .and .i64 (s : Int) 16 = 0 := e
              rw [show (2 : Nat) ^ 4 = 16 from by decide]
              generalize fixTo c s 4 = d at *
              generalize evenTo c s 4 = ev at *
              clear e
              go_wp2_with fail
              go_round
              case rel => exact ⟨4 + 1, by omega, by rw [show (2 : Nat) ^ (4 + 1) = 32 from by decide]; rfl, by rw [HS.out], by rw [HV.out]⟩
              case measure => simp [intOf]
            by_cases hj5 : k = 5
            · subst hj5
              have e5 : bits .and .i64 (s : Int) 32 = 0 := e
              rw [show (2 : Nat) ^ 5 = 32 from by decide]
              generalize fixTo c s 5 = d at *
              generalize evenTo c s 5 = ev at *
              clear e
              go_wp2_with fail
              go_round
              case rel => exact ⟨5 + 1, by omega, by rw [show (2 : Nat) ^ (5 + 1) = 64 from by decide]; rfl, by rw [HS.out], by rw [HV.out]⟩
              case measure => simp [intOf]
            exact absurd h0 (by omega)
        · obtain rfl : k = 6 := by omega
          rw [show (2 : Nat) ^ 6 = 64 from by decide]
          generalize fixTo c s 6 = d at *
          have e3 : bits .or .i64 (d : Int) 1 = ((d ||| 1 : Nat) : Int) := i64_or_nat d 1 (by omega) (by omega)
          by_cases hv : evenTo c s 6 = true
          · rw [hv] at HW ⊢
            go_wp2_with fail
            go_ret2
            exact ⟨by rw [HW.out, if_pos trivial]; rfl, rfl⟩
          · have hv2 : evenTo c s 6 = false := by simpa using hv
            rw [hv2] at HW ⊢
            clear hv hv2
            go_wp2_with fail
            go_ret2
            exact ⟨by rw [HW.out, if_neg (by simp)]; rfl, rfl⟩
theorem code_any (n : Int) (w : World) (hT : TabOk w) : Calls Tryd.prog 5 #[.int .i64 n] w fun e w' => e = .returned (.tuple #[.int .i64 (codeOf n).1, .int .i64 (codeOf n).2]) ∧ w = w' := by
  unfold codeOf
  by_cases h : n < 0 ∨ 4294967295 < n
  · rw [if_pos h]
    by_cases h0 : n < 0
    · clear h
      go_enter Tryd.func5, Tryd.ntmps5
      go_wp2_with fail
      go_ret2
      exact ⟨rfl, rfl⟩
    · have h1 : 4294967295 < n := by omega
      clear h
      go_enter Tryd.func5, Tryd.ntmps5
      go_wp2_with fail
      go_ret2
      exact ⟨rfl, rfl⟩
  · rw [if_neg h]
    obtain ⟨m, rfl⟩ := Int.eq_ofNat_of_zero_le (show 0 ≤ n by omega)
    exact code_good m w (by omega) hT
set_option maxHeartbeats 6400000 in
set_option maxRecDepth 100000 in
theorem mend_no (c : Nat) (w : World) (hT : TabOk w) (hc : c < 549755813888) (h : ¬ ((onesTo c 39).1 % 2 = 1 ∧ (onesTo c 39).2 < 39)) (h2 : (onesTo c 39).1 % 2 = 1 ∨ (onesTo c 39).2 ≠ 0) :
    Calls Tryd.prog 7 #[.int .i64 (c : Int)] w fun e w' => e = .returned (.tuple #[.int .i64 0, .bool false, .int .i64 18]) ∧ w = w' := by
  have HP := Lib.hid (places_any c w hc hT)
  have HFr := Lib.hid (fun (p : Nat) (h : p < 64) => free_any p w h)
  have hlen : lenB c ≤ 39 := lenB_le.2 (by rw [pow39]; exact hc)
  have HLn := Lib.hid (len_any c w (by omega))
  have hcw : IntKind.u64.wrap (c : Int) = (c : Int) := by rw [IntKind.wrap_u64]; omega
  generalize lenB c = ln at *
  have hc0 : (0 : Int) ≤ (c : Int) := by omega
  have hln : decide ((39 : Int) < (ln : Int)) = false := decide_eq_false (by omega)
  by_cases h1 : (onesTo c 39).1 % 2 = 0
  · rw [decide_eq_true h1] at HP
    have e3 : (((onesTo c 39).2 : Int) != 0) = true := by simp; omega
    generalize (onesTo c 39).2 = s at *
    clear h h2 h1 hT
    go_enter Tryd.func7, Tryd.ntmps7
    go_wp2_with (first | (go_at_call 11; (with_reducible refine HLn.out.mono ?_); rintro e w' ⟨rfl, rfl⟩) | (go_at_call 10; (with_reducible refine HP.out.mono ?_); rintro e w' ⟨rfl, rfl⟩))
    refine bodyPost_ret (v := .tuple #[.int .i64 0, .bool false, .int .i64 18]) (by simp [results, Tryd.results7, go_sem]) rfl ?_
    exact ⟨rfl, rfl⟩
  · rw [decide_eq_false h1] at HP
    have e3 : (39 : Int) ≤ ((onesTo c 39).2 : Int) := by omega
    generalize (onesTo c 39).2 = s at *
    clear h h2 h1 hT
    go_enter Tryd.func7, Tryd.ntmps7
    go_wp2_with (first | (go_at_call 11; (with_reducible refine HLn.out.mono ?_); rintro e w' ⟨rfl, rfl⟩) | (go_at_call 10; (with_reducible refine HP.out.mono ?_); rintro e w' ⟨rfl, rfl⟩))
    refine bodyPost_ret (v := .tuple #[.int .i64 0, .bool false, .int .i64 18]) (by simp [results, Tryd.results7, go_sem]) rfl ?_
    exact ⟨rfl, rfl⟩
set_option maxHeartbeats 6400000 in
set_option maxRecDepth 100000 in
theorem mend_yes (c : Nat) (w : World) (hT : TabOk w) (hc : c < 549755813888) (h1 : (onesTo c 39).1 % 2 = 1) (h2 : (onesTo c 39).2 < 39) :
    Calls Tryd.prog 7 #[.int .i64 (c : Int)] w fun e w' => e = .returned (.tuple #[.int .i64 ((exTo (c ^^^ 2 ^ (onesTo c 39).2) 39).1 : Nat), .bool true, .int .i64 0]) ∧ w = w' := by
  have HP := Lib.hid (places_any c w hc hT)
  have HFr := Lib.hid (fun (p : Nat) (h : p < 64) => free_any p w h)
  have hlen : lenB c ≤ 39 := lenB_le.2 (by rw [pow39]; exact hc)
  have HLn := Lib.hid (len_any c w (by omega))
  have hcw : IntKind.u64.wrap (c : Int) = (c : Int) := by rw [IntKind.wrap_u64]; omega
  generalize lenB c = ln at *
  have hc0 : (0 : Int) ≤ (c : Int) := by omega
  have hln : decide ((39 : Int) < (ln : Int)) = false := decide_eq_false (by omega)
  rw [decide_eq_false (show ¬ (onesTo c 39).1 % 2 = 0 by omega)] at HP
  obtain ⟨hx, hxl⟩ := xor_shl1 (s := (onesTo c 39).2) hc h2
  have e3 : decide ((39 : Int) ≤ ((onesTo c 39).2 : Int)) = false := decide_eq_false (by omega)
  generalize (onesTo c 39).2 = s at *
  generalize c ^^^ 2 ^ s = m at *
  clear h1 hT
  go_enter Tryd.func7, Tryd.ntmps7
  go_wp2_with (first | (go_at_call 11; (with_reducible refine HLn.out.mono ?_); rintro e w' ⟨rfl, rfl⟩) | (go_at_call 10; (with_reducible refine HP.out.mono ?_); rintro e w' ⟨rfl, rfl⟩))
  clear hx hcw hln hc0 hc HP HLn e3
  go_loop [7, 8, 40] (fun x a p => ∃ k : Nat, k ≤ 39 ∧ p = .int .i64 k ∧ x = .int .i64 ((exTo m k).1 : Nat) ∧ a = .int .i64 ((exTo m k).2 : Nat)) (fun _ _ p => 39 - (intOf p).toNat)
  case atStart => exact ⟨0, by omega, by simp, rfl, rfl⟩
  case round =>
    obtain ⟨k, hk, rfl, rfl, rfl⟩ := hrel
    have hl2 := exTo_lt39 m hk
    have ha := exTo_le m k
    by_cases h0 : k < 39
    · have h0i : (k : Int) < 39 := by omega
      have HF := Lib.hid (HFr.out k (by omega))
      by_cases hb : freeB k = true
      · have HS := Lib.hid (exTo_free (c := m) hb)
        rw [hb] at HF
        generalize exTo m k = q at *
        obtain ⟨x, a⟩ := q
        dsimp only at *
        have e2 := cbit_i64 m k (by omega)
        have e3 := or_shl (b := m / 2 ^ k % 2) (p := a) hl2 (by omega) (by omega)
        generalize m / 2 ^ k % 2 = b at *
        generalize x ||| b * 2 ^ a = x2 at *
        clear hb
        go_wp2_with (go_at_call 9; (with_reducible refine HF.out.mono ?_); rintro e w' ⟨rfl, rfl⟩)
        go_round
        case rel => exact ⟨k + 1, by omega, by go_num, by rw [HS.out], by rw [HS.out]; go_num⟩
        case measure => simp [intOf] <;> omega
      · have HS := Lib.hid (exTo_not (c := m) (p := k) (by simpa using hb))
        rw [show freeB k = false by simpa using hb] at HF
        generalize exTo m k = q at *
        obtain ⟨x, a⟩ := q
        dsimp only at *
        clear hb
        go_wp2_with (go_at_call 9; (with_reducible refine HF.out.mono ?_); rintro e w' ⟨rfl, rfl⟩)
        go_round
        case rel => exact ⟨k + 1, by omega, by go_num, by rw [HS.out], by rw [HS.out]⟩
        case measure => simp [intOf] <;> omega
    · obtain rfl : k = 39 := by omega
      obtain ⟨x, hx⟩ : ∃ x, x = (exTo m 39).1 := ⟨_, rfl⟩
      rw [← hx]
      have HX := Lib.hid hx
      clear hx
      go_wp2_with fail
      refine bodyPost_ret (v := .tuple #[.int .i64 (x : Int), .bool true, .int .i64 0]) (by simp [results, Tryd.results7, go_sem]) rfl ?_
      exact ⟨by rw [HX.out], rfl⟩
set_option maxHeartbeats 6400000 in
set_option maxRecDepth 100000 in
theorem mend_zero (c : Nat) (w : World) (hT : TabOk w) (hc : c < 549755813888) (h1 : (onesTo c 39).1 % 2 = 0) (h2 : (onesTo c 39).2 = 0) :
    Calls Tryd.prog 7 #[.int .i64 (c : Int)] w fun e w' => e = .returned (.tuple #[.int .i64 ((exTo c 39).1 : Nat), .bool false, .int .i64 0]) ∧ w = w' := by
  have HP := Lib.hid (places_any c w hc hT)
  have HFr := Lib.hid (fun (p : Nat) (h : p < 64) => free_any p w h)
  have hlen : lenB c ≤ 39 := lenB_le.2 (by rw [pow39]; exact hc)
  have HLn := Lib.hid (len_any c w (by omega))
  have hcw : IntKind.u64.wrap (c : Int) = (c : Int) := by rw [IntKind.wrap_u64]; omega
  generalize lenB c = ln at *
  have hc0 : (0 : Int) ≤ (c : Int) := by omega
  have hln : decide ((39 : Int) < (ln : Int)) = false := decide_eq_false (by omega)
  rw [decide_eq_true h1, h2] at HP
  clear h1 h2 hT
  go_enter Tryd.func7, Tryd.ntmps7
  go_wp2_with (first | (go_at_call 11; (with_reducible refine HLn.out.mono ?_); rintro e w' ⟨rfl, rfl⟩) | (go_at_call 10; (with_reducible refine HP.out.mono ?_); rintro e w' ⟨rfl, rfl⟩))
  clear hcw hln hc0 HP HLn
  go_loop [7, 8, 40] (fun x a p => ∃ k : Nat, k ≤ 39 ∧ p = .int .i64 k ∧ x = .int .i64 ((exTo c k).1 : Nat) ∧ a = .int .i64 ((exTo c k).2 : Nat)) (fun _ _ p => 39 - (intOf p).toNat)
  case atStart => exact ⟨0, by omega, by simp, rfl, rfl⟩
  case round =>
    obtain ⟨k, hk, rfl, rfl, rfl⟩ := hrel
    have hl2 := exTo_lt39 c hk
    have ha := exTo_le c k
    by_cases h0 : k < 39
    · have h0i : (k : Int) < 39 := by omega
      have HF := Lib.hid (HFr.out k (by omega))
      by_cases hb : freeB k = true
      · have HS := Lib.hid (exTo_free (c := c) hb)
        rw [hb] at HF
        generalize exTo c k = q at *
        obtain ⟨x, a⟩ := q
        dsimp only at *
        have e2 := cbit_i64 c k (by omega)
        have e3 := or_shl (b := c / 2 ^ k % 2) (p := a) hl2 (by omega) (by omega)
        generalize c / 2 ^ k % 2 = b at *
        generalize x ||| b * 2 ^ a = x2 at *
        clear hb
        go_wp2_with (go_at_call 9; (with_reducible refine HF.out.mono ?_); rintro e w' ⟨rfl, rfl⟩)
        go_round
        case rel => exact ⟨k + 1, by omega, by go_num, by rw [HS.out], by rw [HS.out]; go_num⟩
        case measure => simp [intOf] <;> omega
      · have HS := Lib.hid (exTo_not (c := c) (p := k) (by simpa using hb))
        rw [show freeB k = false by simpa using hb] at HF
        generalize exTo c k = q at *
        obtain ⟨x, a⟩ := q
        dsimp only at *
        clear hb
        go_wp2_with (go_at_call 9; (with_reducible refine HF.out.mono ?_); rintro e w' ⟨rfl, rfl⟩)
        go_round
        case rel => exact ⟨k + 1, by omega, by go_num, by rw [HS.out], by rw [HS.out]⟩
        case measure => simp [intOf] <;> omega
    · obtain rfl : k = 39 := by omega
      obtain ⟨x, hx⟩ : ∃ x, x = (exTo c 39).1 := ⟨_, rfl⟩
      rw [← hx]
      have HX := Lib.hid hx
      clear hx
      go_wp2_with fail
      refine bodyPost_ret (v := .tuple #[.int .i64 (x : Int), .bool false, .int .i64 0]) (by simp [results, Tryd.results7, go_sem]) rfl ?_
      exact ⟨by rw [HX.out], rfl⟩
theorem mend_any (c : Int) (w : World) (hT : TabOk w) (hcb : c < 9223372036854775808) : Calls Tryd.prog 7 #[.int .i64 c] w fun e w' => e = .returned (.tuple #[.int .i64 (mendOf c).1, .bool (mendOf c).2.1, .int .i64 (mendOf c).2.2]) ∧ w = w' := by
  unfold mendOf
  by_cases h : c < 0 ∨ 549755813888 ≤ c
  · rw [if_pos h]
    by_cases h0 : c < 0
    · clear h
      go_enter Tryd.func7, Tryd.ntmps7
      go_wp2_with fail
      refine bodyPost_ret (v := .tuple #[.int .i64 0, .bool false, .int .i64 2]) (by simp [results, Tryd.results7, go_sem]) rfl ?_
      exact ⟨rfl, rfl⟩
    · have h2 : 0 ≤ c := by omega
      have hl : ¬ lenB c.toNat ≤ 39 := fun hh => by have := lenB_le.1 hh; rw [pow39] at this; omega
      have hL := len_any c.toNat w (by omega)
      rw [Int.toNat_of_nonneg h2] at hL
      have HLn := Lib.hid hL
      have hcw : IntKind.u64.wrap c = c := by rw [IntKind.wrap_u64]; omega
      have hd : (39 : Int) < (lenB c.toNat : Int) := by omega
      generalize lenB c.toNat = ln at *
      clear h h0 hl hL hT
      go_enter Tryd.func7, Tryd.ntmps7
      go_wp2_with (go_at_call 11; (with_reducible refine HLn.out.mono ?_); rintro e w' ⟨rfl, rfl⟩)
      refine bodyPost_ret (v := .tuple #[.int .i64 0, .bool false, .int .i64 2]) (by simp [results, Tryd.results7, go_sem]) rfl ?_
      exact ⟨rfl, rfl⟩
  · rw [if_neg h]
    obtain ⟨m, rfl⟩ := Int.eq_ofNat_of_zero_le (show 0 ≤ c by omega)
    have hm : m < 549755813888 := by omega
    rw [Int.toNat_natCast]
    unfold mendW
    by_cases h1 : (onesTo m 39).1 % 2 = 1 ∧ (onesTo m 39).2 < 39
    · rw [if_pos h1]
      exact mend_yes m w hT hm h1.1 h1.2
    · rw [if_neg h1]
      by_cases h2 : (onesTo m 39).1 % 2 = 1 ∨ (onesTo m 39).2 ≠ 0
      · rw [if_pos h2]
        exact mend_no m w hT hm h1 h2
      · rw [if_neg h2]
        exact mend_zero m w hT hm (by omega) (by omega)
end Go.Proofs.YtidgdjagaifofaaDoor
