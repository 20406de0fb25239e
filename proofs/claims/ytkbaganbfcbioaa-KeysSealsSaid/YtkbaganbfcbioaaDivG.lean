/-
  math/bits.Mul64 of any two numbers; math/bits.Div64 by P.
-/
import Derived.Test.YtkbaganbfcbioaaDivP
import Derived.Test.YtkbaganbfcbioaaStep
import Derived.Lib.Mul64
import Derived.Shelf.Bits.Mul64
import Derived.Laws.Bits64b
import Derived.BigQuiet
import Derived.Deep.QuietTactic
import Derived.Deep.CutBlock
import Derived.Deep.DeepCutAuto
namespace Go.Proofs.Ytkbaganbfcbioaa
set_option linter.unusedSimpArgs false
set_option linter.unusedVariables false
open Go.RowKit Go.Lib


set_option maxHeartbeats 1000000 in
theorem mul64_any (x y : Nat) (hx : x < 18446744073709551616) (hy : y < 18446744073709551616) (w : World) :
    Calls Try.prog 65 #[.int .u64 x, .int .u64 y] w fun e w' => e = .returned (.tuple #[.int .u64 ((x * y / 18446744073709551616 : Nat) : Int), .int .u64 ((x * y % 18446744073709551616 : Nat) : Int)]) ∧ w' = w := by
  obtain ⟨bd, bt, bw, hhi⟩ := Lib.mul64_hi x y hx hy
  have ba := Lib.half_mul_le (a := x / 4294967296) (b := y / 4294967296) (by omega) (by omega)
  have bb := Lib.half_mul_le (a := x / 4294967296) (b := y % 4294967296) (by omega) (by omega)
  have bc := Lib.half_mul_le (a := x % 4294967296) (b := y / 4294967296) (by omega) (by omega)
  have ba' : x / 4294967296 * (y / 4294967296) < 18446744073709551616 := by omega
  have bb' : x / 4294967296 * (y % 4294967296) < 18446744073709551616 := by omega
  have bc' : x % 4294967296 * (y / 4294967296) < 18446744073709551616 := by omega
  have bh1 : x / 4294967296 * (y / 4294967296) + (x / 4294967296 * (y % 4294967296) + x % 4294967296 * (y % 4294967296) / 4294967296) / 4294967296 < 18446744073709551616 := by omega
  have bh : x / 4294967296 * (y / 4294967296) + (x / 4294967296 * (y % 4294967296) + x % 4294967296 * (y % 4294967296) / 4294967296) / 4294967296 + ((x / 4294967296 * (y % 4294967296) + x % 4294967296 * (y % 4294967296) / 4294967296) % 4294967296 + x % 4294967296 * (y / 4294967296)) / 4294967296 < 18446744073709551616 := by omega
  go_enter Try.func65, Try.ntmps65
  go_wp2
  simp only [Mul64.maskN x hx, Mul64.maskN y hy, Mul64.divN, Mul64.mulN, Mul64.addN, Mul64.wrapN _ bd, Mul64.wrapN _ bb', Mul64.wrapN _ bt, Mul64.maskN _ bt, Mul64.wrapN _ bc', Mul64.wrapN _ bw, Mul64.wrapN _ ba', Mul64.wrapN _ bh1, Mul64.wrapN _ bh, Mul64.wrapM (x * y)]
  rw [hhi]
  go_ret2
  exact ⟨rfl, rfl⟩

set_option maxHeartbeats 1000000 in
set_option maxRecDepth 100000 in
theorem len64_P (w : World) : Calls Try.prog 75 #[.int .u64 2305843009213693951] w fun e w' => e = .returned (.int .i64 61) ∧ w = w' := by
  go_enter Try.func75, Try.ntmps75
  go_wp2
  go_ret
  exact ⟨by kernel_rfl, rfl⟩
set_option maxHeartbeats 1000000 in
set_option maxRecDepth 100000 in
theorem lz64_P (w : World) : Calls Try.prog 77 #[.int .u64 2305843009213693951] w fun e w' => e = .returned (.int .i64 3) ∧ w = w' := by
  go_enter Try.func77, Try.ntmps77
  go_wp2_with (go_at_call 75; refine (len64_P _).mono ?_; rintro e w' ⟨rfl, rfl⟩)
  go_ret
  exact ⟨rfl, rfl⟩

set_option maxHeartbeats 1000000 in
set_option maxRecDepth 100000 in
theorem div64_zero (lo : Nat) (w : World) (hl : lo < 18446744073709551616) : Calls Try.prog 73 #[.int .u64 0, .int .u64 lo, .int .u64 2305843009213693951] w fun e w' => ∃ q : Nat, e = .returned (.tuple #[.int .u64 (q : Int), .int .u64 ((lo % bP : Nat) : Int)]) ∧ ∃ m, w' = w.drewN m := by
  have e1 : IntKind.u64.wrap ((lo : Int).tdiv 2305843009213693951) = ((lo / 2305843009213693951 : Nat) : Int) := by rw [Int.tdiv_eq_ediv_of_nonneg (by omega), IntKind.wrap_u64]; omega
  have e2 : (lo : Int).tmod 2305843009213693951 = ((lo % 2305843009213693951 : Nat) : Int) := by rw [Int.tmod_eq_emod_of_nonneg (by omega)]; omega
  have e4 : IntKind.u64.wrap ((lo : Int) / 2305843009213693951) = ((lo / 2305843009213693951 : Nat) : Int) := by rw [IntKind.wrap_u64]; omega
  have e5 : (lo : Int) % 2305843009213693951 = ((lo % 2305843009213693951 : Nat) : Int) := by omega
  have e3 : IntKind.u64.wrap ((lo % 2305843009213693951 : Nat) : Int) = ((lo % 2305843009213693951 : Nat) : Int) := by rw [IntKind.wrap_u64]; omega
  rw [show bP = 2305843009213693951 from rfl]
  generalize lo % 2305843009213693951 = R at *
  generalize lo / 2305843009213693951 = Q at *
  go_enter Try.func73, Try.ntmps73
  go_wp2
  go_region_law (fail)
  all_goals go_wp2
  all_goals first
    | (refine bodyPost_ret (v := .tuple #[.int .u64 (Q : Int), .int .u64 (R : Int)]) (by simp [results, Try.results73, go_sem, e1, e2, e3, e4, e5]) rfl ?_; exact ⟨Q, rfl, 1, rfl⟩)
theorem u64_eq {a b : Int} (h : a = b) : Value.int .u64 a = .int .u64 b := by rw [h]
/-- hi and lo, moved by three. -/
theorem or_u64 {hi lo : Nat} (hh : hi < 2305843009213693951) (hl : lo < 18446744073709551616) : bits .or .u64 ((hi : Int) * 8) ((lo : Int) / 2305843009213693952) = ((hi * 8 + lo / 2305843009213693952 : Nat) : Int) := by
  have h := bits_or_u64_nat (hi * 8) (lo / 2305843009213693952) (by omega) (by omega)
  have e : hi * 8 ||| lo / 2305843009213693952 = hi * 8 + lo / 2305843009213693952 := by
    have := Nat.two_pow_add_eq_or_of_lt (i := 3) (b := lo / 2305843009213693952) (by omega) hi
    rw [show hi * 8 = 2 ^ 3 * hi from by omega]
    exact this.symm
  rw [e] at h
  rw [← h]
  congr 1
set_option maxHeartbeats 4000000 in
set_option maxRecDepth 100000 in
theorem div64_more (hi lo : Nat) (w : World) (h0 : 0 < hi) (hh : hi < 2305843009213693951) (hl : lo < 18446744073709551616) : Calls Try.prog 73 #[.int .u64 hi, .int .u64 lo, .int .u64 2305843009213693951] w fun e w' => ∃ q : Nat, e = .returned (.tuple #[.int .u64 (q : Int), .int .u64 (((hi * 18446744073709551616 + lo) % bP : Nat) : Int)]) ∧ w' = w := by
  have d1 : ((hi : Int) == 0) = false := by rw [beq_eq_false_iff_ne]; omega
  have d2 : decide ((2305843009213693951 : Int) ≤ (hi : Int)) = false := decide_eq_false (by omega)
  have HR := Lib.hid (div_rem (hi := hi) (lo := lo) (by rw [bP_eq]; exact hh) hl)
  have r1 : bits .and .u64 18446744073709551608 4294967295 = 4294967288 := by kernel_rfl
  have r2 := or_u64 hh hl
  have r3 : IntKind.u64.wrap ((lo : Int) * 8) = ((lo * 8 % 18446744073709551616 : Nat) : Int) := by rw [IntKind.wrap_u64]; omega
  have r4 := Mul64.maskN (lo * 8 % 18446744073709551616) (by omega)
  unfold dN2 dN1 at HR
  have bu : hi * 8 + lo / 2305843009213693952 ≤ 18446744073709551607 := by omega
  have bv : lo * 8 % 18446744073709551616 / 4294967296 < 4294967296 := by omega
  have bz : lo * 8 % 18446744073709551616 % 4294967296 < 4294967296 := by omega
  have r5 : ((lo * 8 % 18446744073709551616 : Nat) : Int) / 4294967296 = ((lo * 8 % 18446744073709551616 / 4294967296 : Nat) : Int) := by omega
  generalize lo * 8 % 18446744073709551616 % 4294967296 = Z at *
  generalize lo * 8 % 18446744073709551616 / 4294967296 = V at *
  generalize lo * 8 % 18446744073709551616 = L at *
  generalize hi * 8 + lo / 2305843009213693952 = U at *
  have G1 := Guess.start bu bv
  have q1 : ((U : Nat) : Int) / 4294967295 = ((U / 4294967295 : Nat) : Int) := by omega
  have q2 : U / 4294967295 * 4294967295 ≤ U := Nat.div_mul_le_self _ _
  have q3 : U / 4294967295 ≤ 4294967297 := by omega
  generalize U / 4294967295 = A at *
  obtain ⟨Q1, hQ1⟩ : ∃ Q, Q = (U * 4294967296 + V) / dY := ⟨_, rfl⟩
  have HQ := Lib.hid hQ1
  clear hQ1
  have G1b : A * 4294967295 ≤ U := q2
  have s16 : ((U : Int) - (A : Int) * 4294967295) = ((U - A * 4294967295 : Nat) : Int) := by omega
  obtain ⟨g1, g1r⟩ := G1
  generalize U - A * 4294967295 = B at *
  have b1i : (B : Int) < 4294967296 := by omega
  go_enter Try.func73, Try.ntmps73
  go_upto_block 0 with (go_at_call 77; refine (lz64_P _).mono ?_; rintro e w' ⟨rfl, rfl⟩)
  clear s16 q1
  go_cut [15, 16] from 67 to 85 (fun s15 _ wx => s15 = .int .u64 (Q1 : Int) ∧ w = wx)
  case first =>
    clear r1 r2 r3 r4 r5
    go_wp2_with fail
    go_loop [15, 16] (fun sq sr => ∃ q r : Nat, sq = .int .u64 (q : Int) ∧ sr = .int .u64 (r : Int) ∧ Guess U V q r ∧ r < 4294967296) (fun sq _ => (intOf sq).toNat)
    case atStart => exact ⟨A, B, rfl, rfl, g1, g1r⟩
    case round =>
      obtain ⟨q, r, rfl, rfl, hg, hr⟩ := hrel
      have hq := hg.sum
      have hqb : q ≤ 4294967297 := by omega
      clear hq
      have HG := Lib.hid hg
      clear hg
      by_cases hA : 4294967296 ≤ q
      · obtain ⟨p1, g2⟩ := HG.out.more (.inl hA)
        have HG2 := Lib.hid g2
        clear g2 HG
        have p1i : (1 : Int) ≤ (q : Int) := by omega
        have hAi : (4294967296 : Int) ≤ (q : Int) := by omega
        by_cases hr1 : 1 ≤ r
        · have hE := Lib.hid (HG2.out.over (by omega))
          have hri : (4294967296 : Int) ≤ (r : Int) + 4294967295 := by omega
          clear hA hr1
          go_wp2_with fail
          go_meet
          refine ⟨?_, by rfl⟩
          rw [HQ.out, ← hE.out]
          exact u64_eq (by omega)
        · obtain rfl : r = 0 := by omega
          go_wp2_with fail
          go_round
          case rel => exact ⟨q - 1, 4294967295, u64_eq (by omega), rfl, HG2.out, by omega⟩
          case measure => simp [intOf] <;> omega
      · have hAi : (q : Int) < (4294967296 : Int) := by omega
        by_cases hB : r * 4294967296 + V < q * 4294967288
        · obtain ⟨p1, g2⟩ := HG.out.more (.inr hB)
          have HG2 := Lib.hid g2
          clear g2 HG
          have p1i : (1 : Int) ≤ (q : Int) := by omega
          have hBi : 4294967296 * (r : Int) + (V : Int) < (q : Int) * 4294967288 := by omega
          by_cases hr1 : 1 ≤ r
          · have hE := Lib.hid (HG2.out.over (by omega))
            have hri : (4294967296 : Int) ≤ (r : Int) + 4294967295 := by omega
            clear hA hr1 hB
            go_wp2_with fail
            go_meet
            refine ⟨?_, by rfl⟩
            rw [HQ.out, ← hE.out]
            exact u64_eq (by omega)
          · obtain rfl : r = 0 := by omega
            have hB0 : (V : Int) < (q : Int) * 4294967288 := by omega
            clear hB hBi
            go_wp2_with fail
            go_round
            case rel => exact ⟨q - 1, 4294967295, u64_eq (by omega), rfl, HG2.out, by omega⟩
            case measure => simp [intOf] <;> omega
        · have hAd : decide ((4294967296 : Int) ≤ (q : Int)) = false := decide_eq_false (by omega); have hBd : decide (4294967296 * (r : Int) + (V : Int) < (q : Int) * 4294967288) = false := decide_eq_false (by omega)
          have hE := Lib.hid (HG.out.less (Nat.lt_of_not_le hA) (Nat.le_of_not_lt hB))
          clear hA hB HG
          go_wp2_with fail
          go_meet
          refine ⟨?_, by rfl⟩
          rw [HQ.out, ← hE.out]
  case rest =>
    obtain ⟨rfl, rfl⟩ := hcut
    clear r1 r2 r3 r4 r5
    obtain ⟨q1b, q1c, q1d, rb⟩ := step_quo HQ.out bu bv
    have HR2 := HR.out
    rw [q1d] at HR2
    have hw := step_wrap q1c rb
    clear q1c q1d HR HQ
    have HWW := Lib.hid hw
    clear hw
    generalize U * 4294967296 + V - Q1 * 18446744073709551608 = R at *
    have HR3 := Lib.hid HR2
    clear HR2
    have G2 := Guess.start (u := R) (v := Z) (by omega) bz
    have q1 : ((R : Nat) : Int) / 4294967295 = ((R / 4294967295 : Nat) : Int) := by omega
    have q2 : R / 4294967295 * 4294967295 ≤ R := Nat.div_mul_le_self _ _
    have q3 : R / 4294967295 ≤ 4294967297 := by omega
    generalize R / 4294967295 = A2 at *
    have t16 : ((R : Int) - (A2 : Int) * 4294967295) = ((R - A2 * 4294967295 : Nat) : Int) := by omega
    obtain ⟨g2, g2r⟩ := G2
    generalize R - A2 * 4294967295 = B2 at *
    have b2i : (B2 : Int) < 4294967296 := by omega
    have b2w : IntKind.u64.wrap (B2 : Int) = (B2 : Int) := by rw [IntKind.wrap_u64]; omega
    obtain ⟨Q2, hQ2⟩ : ∃ Q, Q = (R * 4294967296 + Z) / dY := ⟨_, rfl⟩
    have HQ2 := Lib.hid hQ2
    clear hQ2
    have hw := HWW.out
    clear HWW
    go_upto_block 2 with fail
    go_cut [16, 18] from 102 to 120 (fun _ s18 wx => s18 = .int .u64 (Q2 : Int) ∧ w = wx)
    case first =>
      clear hw t16 q1 b2w
      go_wp2_with fail
      go_loop [16, 18] (fun sr sq => ∃ q r : Nat, sq = .int .u64 (q : Int) ∧ sr = .int .u64 (r : Int) ∧ Guess R Z q r ∧ r < 4294967296) (fun _ sq => (intOf sq).toNat)
      case atStart => exact ⟨A2, B2, rfl, rfl, g2, g2r⟩
      case round =>
        obtain ⟨q, r, rfl, rfl, hg, hr⟩ := hrel
        have hq := hg.sum
        have hqb : q ≤ 4294967297 := by omega
        clear hq
        have HG := Lib.hid hg
        clear hg
        by_cases hA : 4294967296 ≤ q
        · obtain ⟨p1, g3⟩ := HG.out.more (.inl hA)
          have HG2 := Lib.hid g3
          clear g3 HG
          have p1i : (1 : Int) ≤ (q : Int) := by omega
          have hAi : (4294967296 : Int) ≤ (q : Int) := by omega
          by_cases hr1 : 1 ≤ r
          · have hE := Lib.hid (HG2.out.over (by omega))
            have hri : (4294967296 : Int) ≤ (r : Int) + 4294967295 := by omega
            clear hA hr1
            go_wp2_with fail
            go_meet
            refine ⟨?_, by rfl⟩
            rw [HQ2.out, ← hE.out]
            exact u64_eq (by omega)
          · obtain rfl : r = 0 := by omega
            go_wp2_with fail
            go_round
            case rel => exact ⟨q - 1, 4294967295, u64_eq (by omega), rfl, HG2.out, by omega⟩
            case measure => simp [intOf] <;> omega
        · have hAi : (q : Int) < (4294967296 : Int) := by omega
          by_cases hB : r * 4294967296 + Z < q * 4294967288
          · obtain ⟨p1, g3⟩ := HG.out.more (.inr hB)
            have HG2 := Lib.hid g3
            clear g3 HG
            have p1i : (1 : Int) ≤ (q : Int) := by omega
            have hBi : 4294967296 * (r : Int) + (Z : Int) < (q : Int) * 4294967288 := by omega
            by_cases hr1 : 1 ≤ r
            · have hE := Lib.hid (HG2.out.over (by omega))
              have hri : (4294967296 : Int) ≤ (r : Int) + 4294967295 := by omega
              clear hA hr1 hB
              go_wp2_with fail
              go_meet
              refine ⟨?_, by rfl⟩
              rw [HQ2.out, ← hE.out]
              exact u64_eq (by omega)
            · obtain rfl : r = 0 := by omega
              have hB0 : (Z : Int) < (q : Int) * 4294967288 := by omega
              clear hB hBi
              go_wp2_with fail
              go_round
              case rel => exact ⟨q - 1, 4294967295, u64_eq (by omega), rfl, HG2.out, by omega⟩
              case measure => simp [intOf] <;> omega
          · have hAd : decide ((4294967296 : Int) ≤ (q : Int)) = false := decide_eq_false (by omega); have hBd : decide (4294967296 * (r : Int) + (Z : Int) < (q : Int) * 4294967288) = false := decide_eq_false (by omega)
            have hE := Lib.hid (HG.out.less (Nat.lt_of_not_le hA) (Nat.le_of_not_lt hB))
            clear hA hB HG
            go_wp2_with fail
            go_meet
            refine ⟨?_, by rfl⟩
            rw [HQ2.out, ← hE.out]
    case rest =>
      obtain ⟨rfl, rfl⟩ := hcut
      clear hw t16 q1 b2w
      obtain ⟨q2b, q2c, q2d, rb2⟩ := step_quo HQ2.out (by omega) bz
      have HR4 := HR3.out
      rw [q2d] at HR4
      have hw2 := step_wrap q2c rb2
      clear q2c q2d HR3 HQ2
      generalize R * 4294967296 + Z - Q2 * 18446744073709551608 = X at *
      have hw3 := Lib.hid hw2
      clear hw2
      have x8 : ((X : Nat) : Int) / 8 = ((X / 8 : Nat) : Int) := by omega
      rw [HR4] at x8
      clear HR4
      have hw2 := hw3.out
      clear hw3
      obtain ⟨Y, hY⟩ : ∃ Y, Y = (hi * 18446744073709551616 + lo) % bP := ⟨_, rfl⟩
      rw [← hY] at x8
      have HY := Lib.hid hY.symm
      clear hY
      go_wp2_with fail
      go_ret2
      refine ⟨Q1 * 4294967296 + Q2, ?_, rfl⟩
      rw [show ((Q1 * 4294967296 + Q2 : Nat) : Int) = (Q1 : Int) * 4294967296 + (Q2 : Int) from by omega, HY.out]
      rfl
end Go.Proofs.Ytkbaganbfcbioaa
