/-
  math/bits.Mul64 of any two numbers; math/bits.Div64 by P. The program's less and number. The program's stir.
-/
import Derived.Test.YtkbaganbfcbioaaMKeysOpens19
import Derived.Test.YtkbaganbfcbioaaMKeysOpens4
import Derived.Lib.Mul64
import Derived.Shelf.Bits.Mul64
import Derived.Laws.Bits64b
import Derived.BigQuiet
import Derived.Deep.QuietTactic
import Derived.Deep.CutBlock
import Derived.Deep.DeepCutAuto
import Derived.Test.YtkbaganbfcbioaaMKeysOpens7
import Derived.Test.YtkbaganbfcbioaaMKeysOpens3
namespace Go.Proofs.Ytkbaganbfcbioaa
set_option linter.unusedSimpArgs false
set_option linter.unusedVariables false
open Go.RowKit Go.Lib


set_option maxHeartbeats 1000000 in
theorem mul64_any (x y : Nat) (hx : x < 18446744073709551616) (hy : y < 18446744073709551616) (w : World) :
    Calls Try.prog 65 #[.int .u64 x, .int .u64 y] w fun e w' => e = .returned (.tuple #[.int .u64 ((x * y / 18446744073709551616 : Nat) : Int), .int .u64 ((x * y % 18446744073709551616 : Nat) : Int)]) ∧ w' = w := by
  obtain ⟨bd, bt, bw, hhi⟩ := Lib.mul64_hi x y hx hy
  have ba := Lib.half_mul_le (a := x / 4294967296) (b := y / 4294967296) (by omega) (by omega)
  have bb := Lib.half_mul_le (a := x / 4294967296) (b := y % 4294967296) (by omega) (by omega)
  have bc := Lib.half_mul_le (a := x % 4294967296) (b := y / 4294967296) (by omega) (by omega)
  have ba' : x / 4294967296 * (y / 4294967296) < 18446744073709551616 := by omega
  have bb' : x / 4294967296 * (y % 4294967296) < 18446744073709551616 := by omega
  have bc' : x % 4294967296 * (y / 4294967296) < 18446744073709551616 := by omega
  have bh1 : x / 4294967296 * (y / 4294967296) + (x / 4294967296 * (y % 4294967296) + x % 4294967296 * (y % 4294967296) / 4294967296) / 4294967296 < 18446744073709551616 := by omega
  have bh : x / 4294967296 * (y / 4294967296) + (x / 4294967296 * (y % 4294967296) + x % 4294967296 * (y % 4294967296) / 4294967296) / 4294967296 + ((x / 4294967296 * (y % 4294967296) + x % 4294967296 * (y % 4294967296) / 4294967296) % 4294967296 + x % 4294967296 * (y / 4294967296)) / 4294967296 < 18446744073709551616 := by omega
  go_enter Try.func65, Try.ntmps65
  go_wp2
  simp only [Mul64.maskN x hx, Mul64.maskN y hy, Mul64.divN, Mul64.mulN, Mul64.addN, Mul64.wrapN _ bd, Mul64.wrapN _ bb', Mul64.wrapN _ bt, Mul64.maskN _ bt, Mul64.wrapN _ bc', Mul64.wrapN _ bw, Mul64.wrapN _ ba', Mul64.wrapN _ bh1, Mul64.wrapN _ bh, Mul64.wrapM (x * y)]
  rw [hhi]
  go_ret2
  exact ⟨rfl, rfl⟩

set_option maxHeartbeats 1000000 in
set_option maxRecDepth 100000 in
theorem len64_P (w : World) : Calls Try.prog 75 #[.int .u64 2305843009213693951] w fun e w' => e = .returned (.int .i64 61) ∧ w = w' := by
  go_enter Try.func75, Try.ntmps75
  go_wp2
  go_ret
  exact ⟨by kernel_rfl, rfl⟩
set_option maxHeartbeats 1000000 in
set_option maxRecDepth 100000 in
theorem lz64_P (w : World) : Calls Try.prog 77 #[.int .u64 2305843009213693951] w fun e w' => e = .returned (.int .i64 3) ∧ w = w' := by
  go_enter Try.func77, Try.ntmps77
  go_wp2_with (go_at_call 75; refine (len64_P _).mono ?_; rintro e w' ⟨rfl, rfl⟩)
  go_ret
  exact ⟨rfl, rfl⟩

set_option maxHeartbeats 1000000 in
set_option maxRecDepth 100000 in
theorem div64_zero (lo : Nat) (w : World) (hl : lo < 18446744073709551616) : Calls Try.prog 73 #[.int .u64 0, .int .u64 lo, .int .u64 2305843009213693951] w fun e w' => ∃ q : Nat, e = .returned (.tuple #[.int .u64 (q : Int), .int .u64 ((lo % bP : Nat) : Int)]) ∧ ∃ m, w' = w.drewN m := by
  have e1 : IntKind.u64.wrap ((lo : Int).tdiv 2305843009213693951) = ((lo / 2305843009213693951 : Nat) : Int) := by rw [Int.tdiv_eq_ediv_of_nonneg (by omega), IntKind.wrap_u64]; omega
  have e2 : (lo : Int).tmod 2305843009213693951 = ((lo % 2305843009213693951 : Nat) : Int) := by rw [Int.tmod_eq_emod_of_nonneg (by omega)]; omega
  have e4 : IntKind.u64.wrap ((lo : Int) / 2305843009213693951) = ((lo / 2305843009213693951 : Nat) : Int) := by rw [IntKind.wrap_u64]; omega
  have e5 : (lo : Int) % 2305843009213693951 = ((lo % 2305843009213693951 : Nat) : Int) := by omega
  have e3 : IntKind.u64.wrap ((lo % 2305843009213693951 : Nat) : Int) = ((lo % 2305843009213693951 : Nat) : Int) := by rw [IntKind.wrap_u64]; omega
  rw [show bP = 2305843009213693951 from rfl]
  generalize lo % 2305843009213693951 = R at *
  generalize lo / 2305843009213693951 = Q at *
  go_enter Try.func73, Try.ntmps73
  go_wp2
  go_region_law (fail)
  all_goals go_wp2
  all_goals first
    | (refine bodyPost_ret (v := .tuple #[.int .u64 (Q : Int), .int .u64 (R : Int)]) (by simp [results, Try.results73, go_sem, e1, e2, e3, e4, e5]) rfl ?_; exact ⟨Q, rfl, 1, rfl⟩)
theorem u64_eq {a b : Int} (h : a = b) : Value.int .u64 a = .int .u64 b := by rw [h]
/-- hi and lo, moved by three. -/
theorem or_u64 {hi lo : Nat} (hh : hi < 2305843009213693951) (hl : lo < 18446744073709551616) : bits .or .u64 ((hi : Int) * 8) ((lo : Int) / 2305843009213693952) = ((hi * 8 + lo / 2305843009213693952 : Nat) : Int) := by
  have h := bits_or_u64_nat (hi * 8) (lo / 2305843009213693952) (by omega) (by omega)
  have e : hi * 8 ||| lo / 2305843009213693952 = hi * 8 + lo / 2305843009213693952 := by
    have := Nat.two_pow_add_eq_or_of_lt (i := 3) (b := lo / 2305843009213693952) (by omega) hi
    rw [show hi * 8 = 2 ^ 3 * hi from by omega]
    exact this.symm
  rw [e] at h
  rw [← h]
  congr 1
set_option maxHeartbeats 4000000 in
set_option maxRecDepth 100000 in
theorem div64_more (hi lo : Nat) (w : World) (h0 : 0 < hi) (hh : hi < 2305843009213693951) (hl : lo < 18446744073709551616) : Calls Try.prog 73 #[.int .u64 hi, .int .u64 lo, .int .u64 2305843009213693951] w fun e w' => ∃ q : Nat, e = .returned (.tuple #[.int .u64 (q : Int), .int .u64 (((hi * 18446744073709551616 + lo) % bP : Nat) : Int)]) ∧ w' = w := by
  have d1 : ((hi : Int) == 0) = false := by rw [beq_eq_false_iff_ne]; omega
  have d2 : decide ((2305843009213693951 : Int) ≤ (hi : Int)) = false := decide_eq_false (by omega)
  have HR := Lib.hid (div_rem (hi := hi) (lo := lo) (by rw [bP_eq]; exact hh) hl)
  have r1 : bits .and .u64 18446744073709551608 4294967295 = 4294967288 := by kernel_rfl
  have r2 := or_u64 hh hl
  have r3 : IntKind.u64.wrap ((lo : Int) * 8) = ((lo * 8 % 18446744073709551616 : Nat) : Int) := by rw [IntKind.wrap_u64]; omega
  have r4 := Mul64.maskN (lo * 8 % 18446744073709551616) (by omega)
  unfold dN2 dN1 at HR
  have bu : hi * 8 + lo / 2305843009213693952 ≤ 18446744073709551607 := by omega
  have bv : lo * 8 % 18446744073709551616 / 4294967296 < 4294967296 := by omega
  have bz : lo * 8 % 18446744073709551616 % 4294967296 < 4294967296 := by omega
  have r5 : ((lo * 8 % 18446744073709551616 : Nat) : Int) / 4294967296 = ((lo * 8 % 18446744073709551616 / 4294967296 : Nat) : Int) := by omega
  generalize lo * 8 % 18446744073709551616 % 4294967296 = Z at *
  generalize lo * 8 % 18446744073709551616 / 4294967296 = V at *
  generalize lo * 8 % 18446744073709551616 = L at *
  generalize hi * 8 + lo / 2305843009213693952 = U at *
  have G1 := Guess.start bu bv
  have q1 : ((U : Nat) : Int) / 4294967295 = ((U / 4294967295 : Nat) : Int) := by omega
  have q2 : U / 4294967295 * 4294967295 ≤ U := Nat.div_mul_le_self _ _
  have q3 : U / 4294967295 ≤ 4294967297 := by omega
  generalize U / 4294967295 = A at *
  obtain ⟨Q1, hQ1⟩ : ∃ Q, Q = (U * 4294967296 + V) / dY := ⟨_, rfl⟩
  have HQ := Lib.hid hQ1
  clear hQ1
  have G1b : A * 4294967295 ≤ U := q2
  have s16 : ((U : Int) - (A : Int) * 4294967295) = ((U - A * 4294967295 : Nat) : Int) := by omega
  obtain ⟨g1, g1r⟩ := G1
  generalize U - A * 4294967295 = B at *
  have b1i : (B : Int) < 4294967296 := by omega
  go_enter Try.func73, Try.ntmps73
  go_upto_block 0 with (go_at_call 77; refine (lz64_P _).mono ?_; rintro e w' ⟨rfl, rfl⟩)
  clear s16 q1
  go_cut [15, 16] from 67 to 85 (fun s15 _ wx => s15 = .int .u64 (Q1 : Int) ∧ w = wx)
  case first =>
    clear r1 r2 r3 r4 r5
    go_wp2_with fail
    go_loop [15, 16] (fun sq sr => ∃ q r : Nat, sq = .int .u64 (q : Int) ∧ sr = .int .u64 (r : Int) ∧ Guess U V q r ∧ r < 4294967296) (fun sq _ => (intOf sq).toNat)
    case atStart => exact ⟨A, B, rfl, rfl, g1, g1r⟩
    case round =>
      obtain ⟨q, r, rfl, rfl, hg, hr⟩ := hrel
      have hq := hg.sum
      have hqb : q ≤ 4294967297 := by omega
      clear hq
      have HG := Lib.hid hg
      clear hg
      by_cases hA : 4294967296 ≤ q
      · obtain ⟨p1, g2⟩ := HG.out.more (.inl hA)
        have HG2 := Lib.hid g2
        clear g2 HG
        have p1i : (1 : Int) ≤ (q : Int) := by omega
        have hAi : (4294967296 : Int) ≤ (q : Int) := by omega
        by_cases hr1 : 1 ≤ r
        · have hE := Lib.hid (HG2.out.over (by omega))
          have hri : (4294967296 : Int) ≤ (r : Int) + 4294967295 := by omega
          clear hA hr1
          go_wp2_with fail
          go_meet
          refine ⟨?_, by rfl⟩
          rw [HQ.out, ← hE.out]
          exact u64_eq (by omega)
        · obtain rfl : r = 0 := by omega
          go_wp2_with fail
          go_round
          case rel => exact ⟨q - 1, 4294967295, u64_eq (by omega), rfl, HG2.out, by omega⟩
          case measure => simp [intOf] <;> omega
      · have hAi : (q : Int) < (4294967296 : Int) := by omega
        by_cases hB : r * 4294967296 + V < q * 4294967288
        · obtain ⟨p1, g2⟩ := HG.out.more (.inr hB)
          have HG2 := Lib.hid g2
          clear g2 HG
          have p1i : (1 : Int) ≤ (q : Int) := by omega
          have hBi : 4294967296 * (r : Int) + (V : Int) < (q : Int) * 4294967288 := by omega
          by_cases hr1 : 1 ≤ r
          · have hE := Lib.hid (HG2.out.over (by omega))
            have hri : (4294967296 : Int) ≤ (r : Int) + 4294967295 := by omega
            clear hA hr1 hB
            go_wp2_with fail
            go_meet
            refine ⟨?_, by rfl⟩
            rw [HQ.out, ← hE.out]
            exact u64_eq (by omega)
          · obtain rfl : r = 0 := by omega
            have hB0 : (V : Int) < (q : Int) * 4294967288 := by omega
            clear hB hBi
            go_wp2_with fail
            go_round
            case rel => exact ⟨q - 1, 4294967295, u64_eq (by omega), rfl, HG2.out, by omega⟩
            case measure => simp [intOf] <;> omega
        · have hAd : decide ((4294967296 : Int) ≤ (q : Int)) = false := decide_eq_false (by omega); have hBd : decide (4294967296 * (r : Int) + (V : Int) < (q : Int) * 4294967288) = false := decide_eq_false (by omega)
          have hE := Lib.hid (HG.out.less (Nat.lt_of_not_le hA) (Nat.le_of_not_lt hB))
          clear hA hB HG
          go_wp2_with fail
          go_meet
          refine ⟨?_, by rfl⟩
          rw [HQ.out, ← hE.out]
  case rest =>
    obtain ⟨rfl, rfl⟩ := hcut
    clear r1 r2 r3 r4 r5
    obtain ⟨q1b, q1c, q1d, rb⟩ := step_quo HQ.out bu bv
    have HR2 := HR.out
    rw [q1d] at HR2
    have hw := step_wrap q1c rb
    clear q1c q1d HR HQ
    have HWW := Lib.hid hw
    clear hw
    generalize U * 4294967296 + V - Q1 * 18446744073709551608 = R at *
    have HR3 := Lib.hid HR2
    clear HR2
    have G2 := Guess.start (u := R) (v := Z) (by omega) bz
    have q1 : ((R : Nat) : Int) / 4294967295 = ((R / 4294967295 : Nat) : Int) := by omega
    have q2 : R / 4294967295 * 4294967295 ≤ R := Nat.div_mul_le_self _ _
    have q3 : R / 4294967295 ≤ 4294967297 := by omega
    generalize R / 4294967295 = A2 at *
    have t16 : ((R : Int) - (A2 : Int) * 4294967295) = ((R - A2 * 4294967295 : Nat) : Int) := by omega
    obtain ⟨g2, g2r⟩ := G2
    generalize R - A2 * 4294967295 = B2 at *
    have b2i : (B2 : Int) < 4294967296 := by omega
    have b2w : IntKind.u64.wrap (B2 : Int) = (B2 : Int) := by rw [IntKind.wrap_u64]; omega
    obtain ⟨Q2, hQ2⟩ : ∃ Q, Q = (R * 4294967296 + Z) / dY := ⟨_, rfl⟩
    have HQ2 := Lib.hid hQ2
    clear hQ2
    have hw := HWW.out
    clear HWW
    go_upto_block 2 with fail
    go_cut [16, 18] from 102 to 120 (fun _ s18 wx => s18 = .int .u64 (Q2 : Int) ∧ w = wx)
    case first =>
      clear hw t16 q1 b2w
      go_wp2_with fail
      go_loop [16, 18] (fun sr sq => ∃ q r : Nat, sq = .int .u64 (q : Int) ∧ sr = .int .u64 (r : Int) ∧ Guess R Z q r ∧ r < 4294967296) (fun _ sq => (intOf sq).toNat)
      case atStart => exact ⟨A2, B2, rfl, rfl, g2, g2r⟩
      case round =>
        obtain ⟨q, r, rfl, rfl, hg, hr⟩ := hrel
        have hq := hg.sum
        have hqb : q ≤ 4294967297 := by omega
        clear hq
        have HG := Lib.hid hg
        clear hg
        by_cases hA : 4294967296 ≤ q
        · obtain ⟨p1, g3⟩ := HG.out.more (.inl hA)
          have HG2 := Lib.hid g3
          clear g3 HG
          have p1i : (1 : Int) ≤ (q : Int) := by omega
          have hAi : (4294967296 : Int) ≤ (q : Int) := by omega
          by_cases hr1 : 1 ≤ r
          · have hE := Lib.hid (HG2.out.over (by omega))
            have hri : (4294967296 : Int) ≤ (r : Int) + 4294967295 := by omega
            clear hA hr1
            go_wp2_with fail
            go_meet
            refine ⟨?_, by rfl⟩
            rw [HQ2.out, ← hE.out]
            exact u64_eq (by omega)
          · obtain rfl : r = 0 := by omega
            go_wp2_with fail
            go_round
            case rel => exact ⟨q - 1, 4294967295, u64_eq (by omega), rfl, HG2.out, by omega⟩
            case measure => simp [intOf] <;> omega
        · have hAi : (q : Int) < (4294967296 : Int) := by omega
          by_cases hB : r * 4294967296 + Z < q * 4294967288
          · obtain ⟨p1, g3⟩ := HG.out.more (.inr hB)
            have HG2 := Lib.hid g3
            clear g3 HG
            have p1i : (1 : Int) ≤ (q : Int) := by omega
            have hBi : 4294967296 * (r : Int) + (Z : Int) < (q : Int) * 4294967288 := by omega
            by_cases hr1 : 1 ≤ r
            · have hE := Lib.hid (HG2.out.over (by omega))
              have hri : (4294967296 : Int) ≤ (r : Int) + 4294967295 := by omega
              clear hA hr1 hB
              go_wp2_with fail
              go_meet
              refine ⟨?_, by rfl⟩
              rw [HQ2.out, ← hE.out]
              exact u64_eq (by omega)
            · obtain rfl : r = 0 := by omega
              have hB0 : (Z : Int) < (q : Int) * 4294967288 := by omega
              clear hB hBi
              go_wp2_with fail
              go_round
              case rel => exact ⟨q - 1, 4294967295, u64_eq (by omega), rfl, HG2.out, by omega⟩
              case measure => simp [intOf] <;> omega
          · have hAd : decide ((4294967296 : Int) ≤ (q : Int)) = false := decide_eq_false (by omega); have hBd : decide (4294967296 * (r : Int) + (Z : Int) < (q : Int) * 4294967288) = false := decide_eq_false (by omega)
            have hE := Lib.hid (HG.out.less (Nat.lt_of_not_le hA) (Nat.le_of_not_lt hB))
            clear hA hB HG
            go_wp2_with fail
            go_meet
            refine ⟨?_, by rfl⟩
            rw [HQ2.out, ← hE.out]
    case rest =>
      obtain ⟨rfl, rfl⟩ := hcut
      clear hw t16 q1 b2w
      obtain ⟨q2b, q2c, q2d, rb2⟩ := step_quo HQ2.out (by omega) bz
      have HR4 := HR3.out
      rw [q2d] at HR4
      have hw2 := step_wrap q2c rb2
      clear q2c q2d HR3 HQ2
      generalize R * 4294967296 + Z - Q2 * 18446744073709551608 = X at *
      have hw3 := Lib.hid hw2
      clear hw2
      have x8 : ((X : Nat) : Int) / 8 = ((X / 8 : Nat) : Int) := by omega
      rw [HR4] at x8
      clear HR4
      have hw2 := hw3.out
      clear hw3
      obtain ⟨Y, hY⟩ : ∃ Y, Y = (hi * 18446744073709551616 + lo) % bP := ⟨_, rfl⟩
      rw [← hY] at x8
      have HY := Lib.hid hY.symm
      clear hY
      go_wp2_with fail
      go_ret2
      refine ⟨Q1 * 4294967296 + Q2, ?_, rfl⟩
      rw [show ((Q1 * 4294967296 + Q2 : Nat) : Int) = (Q1 : Int) * 4294967296 + (Q2 : Int) from by omega, HY.out]
      rfl
end Go.Proofs.Ytkbaganbfcbioaa
namespace Go.Proofs.Ytkbaganbfcbioaa
set_option linter.unusedSimpArgs false
set_option linter.unusedVariables false
open Go.RowKit Go.Lib

theorem div64_any (hi lo : Nat) (w : World) (hh : hi < 2305843009213693951) (hl : lo < 18446744073709551616) : Calls Try.prog 73 #[.int .u64 hi, .int .u64 lo, .int .u64 2305843009213693951] w fun e w' => ∃ q : Nat, e = .returned (.tuple #[.int .u64 (q : Int), .int .u64 (((hi * 18446744073709551616 + lo) % bP : Nat) : Int)]) ∧ ∃ m, w' = w.drewN m := by
  by_cases h : hi = 0
  · subst h
    rw [Nat.zero_mul, Nat.zero_add]
    exact div64_zero lo w hl
  · exact (div64_more hi lo w (by omega) hh hl).mono fun e w' ⟨q, h1, h2⟩ => ⟨q, h1, 0, h2⟩

set_option maxHeartbeats 1000000 in
set_option maxRecDepth 100000 in
theorem less_any (hi lo : Nat) (w : World) (hh : hi < 18446744073709551616) (hl : lo < 18446744073709551616) : Calls Try.prog 64 #[.int .u64 (hi : Int), .int .u64 (lo : Int)] w fun e w' => e = .returned (.int .u64 (((hi * 18446744073709551616 + lo) % bP : Nat) : Int)) ∧ ∃ m, w' = w.drewN m := by
  have e1 : (hi : Int) % 2305843009213693951 = ((hi % 2305843009213693951 : Nat) : Int) := by omega
  have hm : hi % 2305843009213693951 < 2305843009213693951 := Nat.mod_lt _ (by decide)
  have HE : (hi * 18446744073709551616 + lo) % bP = (hi % 2305843009213693951 * 18446744073709551616 + lo) % bP := by
    rw [show (2305843009213693951 : Nat) = bP from rfl, Nat.add_mod, Nat.mul_mod]
    conv => rhs; rw [Nat.add_mod, Nat.mul_mod, Nat.mod_mod]
  rw [HE]
  clear HE
  generalize hi % 2305843009213693951 = H at *
  have CD := Lib.hid (fun (w : World) => div64_any H lo w hm hl)
  generalize (H * 18446744073709551616 + lo) % bP = R at *
  go_enter Try.func64, Try.ntmps64
  go_wp2_with (go_at_call 73; refine (CD.out _).mono ?_; rintro e w' ⟨q, rfl, m, rfl⟩)
  go_ret
  exact ⟨rfl, m, rfl⟩

theorem or_byte {n : Nat} (x : UInt8) (h : n < 72057594037927936) : bits .or .u64 ((n : Int) * 256) (x.toNat : Int) = ((n * 256 + x.toNat : Nat) : Int) := by
  have hx := x.toNat_lt
  have hb := bits_or_u64_nat (n * 256) x.toNat (by omega) (by omega)
  have e : n * 256 ||| x.toNat = n * 256 + x.toNat := by
    have := Nat.two_pow_add_eq_or_of_lt (i := 8) (b := x.toNat) (by omega) n
    rw [show n * 256 = 2 ^ 8 * n from by omega]
    exact this.symm
  rw [e] at hb
  rw [← hb]
  rfl
theorem pow256_lt {k n : Nat} (h : k < 8) (hn : n < 256 ^ k) : n < 72057594037927936 := Nat.lt_of_lt_of_le hn (pow256_le (by omega))

set_option maxHeartbeats 1000000 in
set_option maxRecDepth 100000 in
theorem knumber_any (A : Option Addr) (l : List UInt8) (n c : Nat) (w : World) (hl : l.length = n) (hn : n ≤ 8) (ha : Rd w A (bvs l)) : Calls Try.prog 55 #[.slice A n c] w fun e w' => e = .returned (.int .u64 ((numB l : Nat) : Int)) ∧ w = w' := by
  have HL := Lib.hid hl
  have HE : Hid (numB (l.take n) = numB l) := by show _ = _; rw [List.take_of_length_le (by omega)]
  clear hl
  go_enter Try.func55, Try.ntmps55
  go_wp2_with fail
  go_loop [2, 7] (fun s i => ∃ k : Nat, k ≤ n ∧ i = .int .i64 k ∧ s = .int .u64 (numB (l.take k) : Nat)) (fun _ i => n - (intOf i).toNat)
  case atStart => exact ⟨0, by omega, by simp, by simp [numB]⟩
  case round =>
    obtain ⟨k, hk, rfl, rfl⟩ := hrel
    by_cases h5 : k < n
    · have h5i : (k : Int) < (n : Int) := by omega
      obtain ⟨b, off, rfl, hc⟩ := ha.byteD (k := k) (by rw [HL.out]; omega)
      have Hs := Lib.hid (numB_take (l := l) (k := k) (by rw [HL.out]; omega))
      have hlt := pow256_lt (k := k) (by omega) (numB_lt k (l.take k) (by rw [List.length_take, HL.out]; omega))
      have hor := or_byte (l.getD k 0) hlt
      generalize numB (l.take k) = s at *
      generalize l.getD k 0 = x at *
      have hx := byte_lt x
      have i1 : (0 : Int) ≤ (k : Int) := by omega
      go_wp2_with fail
      go_round
      case rel => exact ⟨k + 1, by omega, by go_num, by rw [Hs.out]; exact u64_eq (by omega)⟩
      case measure => simp [intOf] <;> omega
    · obtain rfl : k = n := by omega
      go_wp2_with fail
      go_ret
      exact ⟨by rw [← HE.out]; rfl, rfl⟩
end Go.Proofs.Ytkbaganbfcbioaa
namespace Go.Proofs.Ytkbaganbfcbioaa
set_option linter.unusedSimpArgs false
set_option linter.unusedVariables false
open Go.RowKit

theorem u64_and31 {k : Nat} (h : k ≤ 31) : bits .and .u64 (k : Int) 31 = (k : Int) := by
  have e := u64_and_nat k 31 (by omega) (by decide)
  rw [show ((31 : Nat) : Int) = 31 from rfl] at e
  rw [e, show (31 : Nat) = 2 ^ 5 - 1 from rfl, Nat.and_two_pow_sub_one_eq_mod, Nat.mod_eq_of_lt (by omega)]
theorem rot_eq {X k : Nat} (hx : X < 4294967296) : bits .or .u32 ((X : Int) * 2 ^ k % 4294967296) ((X : Int) / 2 ^ (32 - k)) = ((rot32 X k : Nat) : Int) := by
  have h2 : X / 2 ^ (32 - k) ≤ X := Nat.div_le_self _ _
  have e : ((X : Int) / 2 ^ (32 - k)) = ((X / 2 ^ (32 - k) : Nat) : Int) := by rw [int_pow2]; rfl
  have e2 : ((X : Int) * 2 ^ k % 4294967296) = ((X * 2 ^ k % 4294967296 : Nat) : Int) := by rw [int_pow2]; rfl
  rw [e, e2, u32_or_nat _ _ (Nat.mod_lt _ (by decide)) (by omega)]
  rfl
set_option maxHeartbeats 1600000 in
set_option maxRecDepth 100000 in
theorem rot_any (x kk : Int) (X k : Nat) (w : World) (hX : x = (X : Int)) (hkk : kk = (k : Int)) (hx : X < 4294967296) (hk : 1 ≤ k) (hk2 : k ≤ 31) :
    Calls Try.prog 76 #[.int .u32 x, .int .i64 kk] w fun e w' => e = .returned (.int .u32 (rot32 X k : Nat)) ∧ w' = w := by
  subst hX
  subst hkk
  have t1 : ((k : Int)).toNat = k := by omega
  have t2 : ((32 : Int) - (k : Int)).toNat = 32 - k := by omega
  have t3 : (0 : Int) ≤ (32 : Int) - (k : Int) := by omega
  have t4 : (32 : Int) - (k : Int) < 32 := by omega
  have t5 : (k : Int) < 32 := by omega
  have a1 := u64_and31 hk2
  have HE := Lib.hid (rot_eq (k := k) hx)
  go_enter Try.func76, Try.ntmps76
  go_wp2
  go_ret
  exact ⟨ret_int HE.out, rfl⟩

theorem add_prog {x y : Nat} : ((x : Int) + (y : Int)) % 4294967296 = ((add32 x y : Nat) : Int) := by
  unfold add32
  omega
theorem xor_prog {x y : Nat} (hx : x < 4294967296) (hy : y < 4294967296) : bits .xor .u32 (x : Int) (y : Int) = ((x ^^^ y : Nat) : Int) := u32_xor_nat x y hx hy
/-- A square's block. -/
def UB (w : World) (g : Nat) (q : List Nat) : Prop := Blk w g 99 (uvs q).toArray
theorem UB.nat {w : World} {g : Nat} {q : List Nat} (h : UB w g q) (hq : Sq q) {i : Nat} (hi : i < 16) : w.cell? ⟨g, i, none⟩ = some (.int .u32 (q.getD i 0 : Nat)) := by
  refine Blk.cell' h ?_
  rw [List.getElem?_toArray]
  exact uvs_get (by rw [hq.len]; exact hi)
theorem UB.set {w : World} {g : Nat} {q : List Nat} (h : UB w g q) (i v : Nat) : UB (w.setCell ⟨g, i, none⟩ (.int .u32 (v : Int))) g (q.set i v) := by
  have := Blk.set_ h i (.int .u32 (v : Int))
  unfold UB
  rwa [show ((uvs q).toArray.setIfInBounds i (.int .u32 (v : Int))) = (uvs (q.set i v)).toArray from by simp [uvs, List.map_set]] at this
theorem UB.drewN {w : World} {g : Nat} {q : List Nat} (h : UB w g q) (n : Nat) : UB (w.drewN n) g q := h
theorem UB.drew {w : World} {g : Nat} {q : List Nat} (h : UB w g q) : UB w.drew g q := h
def halfTo (q : List Nat) (a b c d : Nat) : Nat → List Nat
  | 0 => q
  | 1 => stirH q a b c d 13 9
  | _ => stirL q a b c d
def byA : Nat → Nat
  | 0 => 13
  | _ => 17
def byB : Nat → Nat
  | 0 => 9
  | _ => 5
theorem halfTo_succ (q : List Nat) (a b c d : Nat) {k : Nat} (h : k < 2) : halfTo q a b c d (k + 1) = stR (stA (stR (stA (halfTo q a b c d k) a b) d a (byA k)) c d) b c (byB k) := by
  have : k = 0 ∨ k = 1 := by omega
  rcases this with rfl | rfl <;> rfl
theorem Sq.half {q : List Nat} (h : Sq q) (a b c d : Nat) : ∀ k, Sq (halfTo q a b c d k)
  | 0 => h
  | 1 => h.stirH _ _ _ _ _ _
  | _ + 2 => h.stirL _ _ _ _

set_option maxHeartbeats 3200000 in
set_option maxRecDepth 100000 in
theorem pstir_any (g : Nat) (q : List Nat) (x1 x2 x3 x4 : Int) (a b c d : Nat) (w : World) (h1 : x1 = (a : Int)) (h2 : x2 = (b : Int)) (h3 : x3 = (c : Int)) (h4 : x4 = (d : Int)) (ha : a < 16) (hb : b < 16) (hc : c < 16) (hd : d < 16)
    (hq : Sq q) (hO : UB w g q) :
    Calls Try.prog 72 #[.pointer (some ⟨g, 0, none⟩), .int .i64 x1, .int .i64 x2, .int .i64 x3, .int .i64 x4] w fun e w' => e = .returned (.tuple #[]) ∧ UB w' g (stirL q a b c d) ∧ w.grownBy w' (some g) := by
  subst h1
  subst h2
  subst h3
  subst h4
  have za : (0 : Int) ≤ (a : Int) := by omega
  have ya : (a : Int) < 16 := by omega
  have zb : (0 : Int) ≤ (b : Int) := by omega
  have yb : (b : Int) < 16 := by omega
  have zc : (0 : Int) ≤ (c : Int) := by omega
  have yc : (c : Int) < 16 := by omega
  have zd : (0 : Int) ≤ (d : Int) := by omega
  have yd : (d : Int) < 16 := by omega
  have J0 : ∀ w, (Instr.index 106 (.agg #[.int .i64 13, .int .i64 9, .int .i64 17, .int .i64 5]) (.int .i64 0)).run Try.prog w = .ok (.agg #[.int .i64 13, .int .i64 9]) w := fun _ => by kernel_rfl
  have J1 : ∀ w, (Instr.index 106 (.agg #[.int .i64 13, .int .i64 9, .int .i64 17, .int .i64 5]) (.int .i64 1)).run Try.prog w = .ok (.agg #[.int .i64 17, .int .i64 5]) w := fun _ => by kernel_rfl
  go_enter Try.func72, Try.ntmps72
  go_wp2_with fail
  go_loopw [15] (fun i wr => ∃ k : Nat, k ≤ 2 ∧ i = .int .i64 k ∧ UB wr g (halfTo q a b c d k) ∧ w.grownBy wr (some g)) (fun i _ => 2 - (intOf i).toNat)
  case atStart => exact ⟨0, by omega, by simp, hO, World.grownBy.refl _ _⟩
  case round =>
    obtain ⟨k, hk, rfl, hU, hG⟩ := hrel
    clear hO
    by_cases h2 : k = 2
    · subst h2
      go_wp2
      go_end0
      exact ⟨rfl, hU, hG⟩
    · have HS := Lib.hid (halfTo_succ q a b c d (k := k) (by omega))
      have hQ := hq.half a b c d k
      have hkk : k = 0 ∨ k = 1 := by omega
      clear h2 hk
      rcases hkk with rfl | rfl

      · go_upto_region 3 with fail
        obtain ⟨B, hBe⟩ : ∃ B, B = wr.heap.size := ⟨_, rfl⟩
        obtain ⟨W0, hW⟩ : ∃ W : World, W = wr.alloc (.cells #[.int .i64 13, .int .i64 9] 105) := ⟨_, rfl⟩
        rw [← hW, ← hBe]
        have hK0 : Blk W0 B 105 #[.int .i64 13, .int .i64 9] := by rw [hW, hBe]; exact Blk.new _ _ _
        have O0 : UB W0 g (halfTo q a b c d 0) := by rw [hW]; exact Blk.alloc hU _
        have G0 : w.grownBy W0 (some g) := by rw [hW]; exact grown_alloc hG _
        have hgB : B ≠ g := by have := Blk.lt hU; omega
        have hgB' : ¬ (g = B) := fun e => hgB e.symm
        clear hW hBe hU hG
        have e1 := O0.nat hQ ha
        have e2 := O0.nat hQ hb
        have f := Blk.frozen O0 a
        have l1 := hQ.lt a
        have l2 := hQ.lt b
        have N : Hid (stA (halfTo q a b c d 0) a b = (halfTo q a b c d 0).set a (add32 ((halfTo q a b c d 0).getD a 0) ((halfTo q a b c d 0).getD b 0))) := Lib.hid rfl
        have X := Lib.hid (add_prog (x := (halfTo q a b c d 0).getD a 0) (y := (halfTo q a b c d 0).getD b 0))
        generalize (halfTo q a b c d 0).getD a 0 = u1 at *
        generalize (halfTo q a b c d 0).getD b 0 = u2 at *
        go_upto_region 3 with fail
        go_cut [18] (fun _ wx => ∃ W : World, W = wx ∧ UB W g (stA (halfTo q a b c d 0) a b) ∧ Blk W B 105 #[.int .i64 13, .int .i64 9] ∧ w.grownBy W (some g))
        case first =>
          go_region
          all_goals
            go_wp2_with fail
            go_meet
            rw [N.out, X.out]
            exact ⟨_, rfl, (O0.set a _).drew, (hK0.far (p := ⟨g, a, none⟩) hgB _).drew, grown_drew (grown_setCell (p := ⟨g, a, none⟩) G0 (.inl rfl) _)⟩
        clear e1 e2 f l1 l2 N X O0 G0 hK0
        obtain ⟨W1, rfl, O1, hK1, G1⟩ := hcut
        have Q1 := hQ.stA a b
        have e1 := O1.nat Q1 hd
        have e2 := O1.nat Q1 ha
        have f := Blk.frozen O1 d
        have l1 := Q1.lt d
        have l2 := Q1.lt a
        have N : Hid (stR (stA (halfTo q a b c d 0) a b) d a 13 = (stA (halfTo q a b c d 0) a b).set d (rot32 ((stA (halfTo q a b c d 0) a b).getD d 0 ^^^ (stA (halfTo q a b c d 0) a b).getD a 0) 13)) := Lib.hid rfl
        have X := Lib.hid (xor_prog l1 l2)
        have l3 := xor32_lt l1 l2
        generalize (stA (halfTo q a b c d 0) a b).getD d 0 = u1 at *
        generalize (stA (halfTo q a b c d 0) a b).getD a 0 = u2 at *
        obtain ⟨p0, p1, pf⟩ := hK1.two
        go_upto_region 4 with fail
        go_cut [31] (fun _ wx => ∃ W : World, W = wx ∧ UB W g (stR (stA (halfTo q a b c d 0) a b) d a 13) ∧ Blk W B 105 #[.int .i64 13, .int .i64 9] ∧ w.grownBy W (some g))
        case first =>
          go_region_law ((go_simp; go_at_call 76; refine (rot_any _ _ (u1 ^^^ u2) 13 _ X.out rfl l3 (by decide) (by decide)).mono ?_; rintro e w' ⟨rfl, rfl⟩))
          all_goals
            go_wp2_with fail
            go_meet
            rw [N.out]
            exact ⟨_, rfl, (O1.drewN _).set d _, (hK1.drewN _).far (p := ⟨g, d, none⟩) hgB _, grown_setCell (p := ⟨g, d, none⟩) (grown_drewN G1 _) (.inl rfl) _⟩
        clear p0 p1 pf l3
        clear e1 e2 f l1 l2 N X O1 G1 hK1
        obtain ⟨W2, rfl, O2, hK2, G2⟩ := hcut
        have Q2 := Q1.stR d a 13
        have e1 := O2.nat Q2 hc
        have e2 := O2.nat Q2 hd
        have f := Blk.frozen O2 c
        have l1 := Q2.lt c
        have l2 := Q2.lt d
        have N : Hid (stA (stR (stA (halfTo q a b c d 0) a b) d a 13) c d = (stR (stA (halfTo q a b c d 0) a b) d a 13).set c (add32 ((stR (stA (halfTo q a b c d 0) a b) d a 13).getD c 0) ((stR (stA (halfTo q a b c d 0) a b) d a 13).getD d 0))) := Lib.hid rfl
        have X := Lib.hid (add_prog (x := (stR (stA (halfTo q a b c d 0) a b) d a 13).getD c 0) (y := (stR (stA (halfTo q a b c d 0) a b) d a 13).getD d 0))
        generalize (stR (stA (halfTo q a b c d 0) a b) d a 13).getD c 0 = u1 at *
        generalize (stR (stA (halfTo q a b c d 0) a b) d a 13).getD d 0 = u2 at *
        go_upto_region 5 with fail
        go_cut [49] (fun _ wx => ∃ W : World, W = wx ∧ UB W g (stA (stR (stA (halfTo q a b c d 0) a b) d a 13) c d) ∧ Blk W B 105 #[.int .i64 13, .int .i64 9] ∧ w.grownBy W (some g))
        case first =>
          go_region
          all_goals
            go_wp2_with fail
            go_meet
            rw [N.out, X.out]
            exact ⟨_, rfl, (O2.set c _).drew, (hK2.far (p := ⟨g, c, none⟩) hgB _).drew, grown_drew (grown_setCell (p := ⟨g, c, none⟩) G2 (.inl rfl) _)⟩
        clear e1 e2 f l1 l2 N X O2 G2 hK2
        obtain ⟨W3, rfl, O3, hK3, G3⟩ := hcut
        have Q3 := Q2.stA c d
        have e1 := O3.nat Q3 hb
        have e2 := O3.nat Q3 hc
        have f := Blk.frozen O3 b
        have l1 := Q3.lt b
        have l2 := Q3.lt c
        have N : Hid (stR (stA (stR (stA (halfTo q a b c d 0) a b) d a 13) c d) b c 9 = (stA (stR (stA (halfTo q a b c d 0) a b) d a 13) c d).set b (rot32 ((stA (stR (stA (halfTo q a b c d 0) a b) d a 13) c d).getD b 0 ^^^ (stA (stR (stA (halfTo q a b c d 0) a b) d a 13) c d).getD c 0) 9)) := Lib.hid rfl
        have X := Lib.hid (xor_prog l1 l2)
        have l3 := xor32_lt l1 l2
        generalize (stA (stR (stA (halfTo q a b c d 0) a b) d a 13) c d).getD b 0 = u1 at *
        generalize (stA (stR (stA (halfTo q a b c d 0) a b) d a 13) c d).getD c 0 = u2 at *
        obtain ⟨p0, p1, pf⟩ := hK3.two
        go_upto_region 6 with fail
        go_region_law ((go_simp; go_at_call 76; refine (rot_any _ _ (u1 ^^^ u2) 9 _ X.out rfl l3 (by decide) (by decide)).mono ?_; rintro e w' ⟨rfl, rfl⟩))
        all_goals go_wp2
        all_goals go_roundw
        all_goals
          first
            | (refine ⟨1, by omega, by rfl, ?_, by first | exact grown_setCell (p := ⟨g, b, none⟩) (grown_drewN G3 _) (.inl rfl) _ | exact grown_drew (grown_setCell (p := ⟨g, b, none⟩) G3 (.inl rfl) _)⟩
               rw [HS.out]
               show UB _ g (stR (stA (stR (stA (halfTo q a b c d 0) a b) d a 13) c d) b c 9)
               rw [N.out]
               first | exact (O3.drewN _).set b _ | exact (O3.set b _).drew)
            | (simp [intOf]; done)
            | (simp [intOf]; omega)
      · go_upto_region 3 with fail
        obtain ⟨B, hBe⟩ : ∃ B, B = wr.heap.size := ⟨_, rfl⟩
        obtain ⟨W0, hW⟩ : ∃ W : World, W = wr.alloc (.cells #[.int .i64 17, .int .i64 5] 105) := ⟨_, rfl⟩
        rw [← hW, ← hBe]
        have hK0 : Blk W0 B 105 #[.int .i64 17, .int .i64 5] := by rw [hW, hBe]; exact Blk.new _ _ _
        have O0 : UB W0 g (halfTo q a b c d 1) := by rw [hW]; exact Blk.alloc hU _
        have G0 : w.grownBy W0 (some g) := by rw [hW]; exact grown_alloc hG _
        have hgB : B ≠ g := by have := Blk.lt hU; omega
        have hgB' : ¬ (g = B) := fun e => hgB e.symm
        clear hW hBe hU hG
        have e1 := O0.nat hQ ha
        have e2 := O0.nat hQ hb
        have f := Blk.frozen O0 a
        have l1 := hQ.lt a
        have l2 := hQ.lt b
        have N : Hid (stA (halfTo q a b c d 1) a b = (halfTo q a b c d 1).set a (add32 ((halfTo q a b c d 1).getD a 0) ((halfTo q a b c d 1).getD b 0))) := Lib.hid rfl
        have X := Lib.hid (add_prog (x := (halfTo q a b c d 1).getD a 0) (y := (halfTo q a b c d 1).getD b 0))
        generalize (halfTo q a b c d 1).getD a 0 = u1 at *
        generalize (halfTo q a b c d 1).getD b 0 = u2 at *
        go_upto_region 3 with fail
        go_cut [18] (fun _ wx => ∃ W : World, W = wx ∧ UB W g (stA (halfTo q a b c d 1) a b) ∧ Blk W B 105 #[.int .i64 17, .int .i64 5] ∧ w.grownBy W (some g))
        case first =>
          go_region
          all_goals
            go_wp2_with fail
            go_meet
            rw [N.out, X.out]
            exact ⟨_, rfl, (O0.set a _).drew, (hK0.far (p := ⟨g, a, none⟩) hgB _).drew, grown_drew (grown_setCell (p := ⟨g, a, none⟩) G0 (.inl rfl) _)⟩
        clear e1 e2 f l1 l2 N X O0 G0 hK0
        obtain ⟨W1, rfl, O1, hK1, G1⟩ := hcut
        have Q1 := hQ.stA a b
        have e1 := O1.nat Q1 hd
        have e2 := O1.nat Q1 ha
        have f := Blk.frozen O1 d
        have l1 := Q1.lt d
        have l2 := Q1.lt a
        have N : Hid (stR (stA (halfTo q a b c d 1) a b) d a 17 = (stA (halfTo q a b c d 1) a b).set d (rot32 ((stA (halfTo q a b c d 1) a b).getD d 0 ^^^ (stA (halfTo q a b c d 1) a b).getD a 0) 17)) := Lib.hid rfl
        have X := Lib.hid (xor_prog l1 l2)
        have l3 := xor32_lt l1 l2
        generalize (stA (halfTo q a b c d 1) a b).getD d 0 = u1 at *
        generalize (stA (halfTo q a b c d 1) a b).getD a 0 = u2 at *
        obtain ⟨p0, p1, pf⟩ := hK1.two
        go_upto_region 4 with fail
        go_cut [31] (fun _ wx => ∃ W : World, W = wx ∧ UB W g (stR (stA (halfTo q a b c d 1) a b) d a 17) ∧ Blk W B 105 #[.int .i64 17, .int .i64 5] ∧ w.grownBy W (some g))
        case first =>
          go_region_law ((go_simp; go_at_call 76; refine (rot_any _ _ (u1 ^^^ u2) 17 _ X.out rfl l3 (by decide) (by decide)).mono ?_; rintro e w' ⟨rfl, rfl⟩))
          all_goals
            go_wp2_with fail
            go_meet
            rw [N.out]
            exact ⟨_, rfl, (O1.drewN _).set d _, (hK1.drewN _).far (p := ⟨g, d, none⟩) hgB _, grown_setCell (p := ⟨g, d, none⟩) (grown_drewN G1 _) (.inl rfl) _⟩
        clear p0 p1 pf l3
        clear e1 e2 f l1 l2 N X O1 G1 hK1
        obtain ⟨W2, rfl, O2, hK2, G2⟩ := hcut
        have Q2 := Q1.stR d a 17
        have e1 := O2.nat Q2 hc
        have e2 := O2.nat Q2 hd
        have f := Blk.frozen O2 c
        have l1 := Q2.lt c
        have l2 := Q2.lt d
        have N : Hid (stA (stR (stA (halfTo q a b c d 1) a b) d a 17) c d = (stR (stA (halfTo q a b c d 1) a b) d a 17).set c (add32 ((stR (stA (halfTo q a b c d 1) a b) d a 17).getD c 0) ((stR (stA (halfTo q a b c d 1) a b) d a 17).getD d 0))) := Lib.hid rfl
        have X := Lib.hid (add_prog (x := (stR (stA (halfTo q a b c d 1) a b) d a 17).getD c 0) (y := (stR (stA (halfTo q a b c d 1) a b) d a 17).getD d 0))
        generalize (stR (stA (halfTo q a b c d 1) a b) d a 17).getD c 0 = u1 at *
        generalize (stR (stA (halfTo q a b c d 1) a b) d a 17).getD d 0 = u2 at *
        go_upto_region 5 with fail
        go_cut [49] (fun _ wx => ∃ W : World, W = wx ∧ UB W g (stA (stR (stA (halfTo q a b c d 1) a b) d a 17) c d) ∧ Blk W B 105 #[.int .i64 17, .int .i64 5] ∧ w.grownBy W (some g))
        case first =>
          go_region
          all_goals
            go_wp2_with fail
            go_meet
            rw [N.out, X.out]
            exact ⟨_, rfl, (O2.set c _).drew, (hK2.far (p := ⟨g, c, none⟩) hgB _).drew, grown_drew (grown_setCell (p := ⟨g, c, none⟩) G2 (.inl rfl) _)⟩
        clear e1 e2 f l1 l2 N X O2 G2 hK2
        obtain ⟨W3, rfl, O3, hK3, G3⟩ := hcut
        have Q3 := Q2.stA c d
        have e1 := O3.nat Q3 hb
        have e2 := O3.nat Q3 hc
        have f := Blk.frozen O3 b
        have l1 := Q3.lt b
        have l2 := Q3.lt c
        have N : Hid (stR (stA (stR (stA (halfTo q a b c d 1) a b) d a 17) c d) b c 5 = (stA (stR (stA (halfTo q a b c d 1) a b) d a 17) c d).set b (rot32 ((stA (stR (stA (halfTo q a b c d 1) a b) d a 17) c d).getD b 0 ^^^ (stA (stR (stA (halfTo q a b c d 1) a b) d a 17) c d).getD c 0) 5)) := Lib.hid rfl
        have X := Lib.hid (xor_prog l1 l2)
        have l3 := xor32_lt l1 l2
        generalize (stA (stR (stA (halfTo q a b c d 1) a b) d a 17) c d).getD b 0 = u1 at *
        generalize (stA (stR (stA (halfTo q a b c d 1) a b) d a 17) c d).getD c 0 = u2 at *
        obtain ⟨p0, p1, pf⟩ := hK3.two
        go_upto_region 6 with fail
        go_region_law ((go_simp; go_at_call 76; refine (rot_any _ _ (u1 ^^^ u2) 5 _ X.out rfl l3 (by decide) (by decide)).mono ?_; rintro e w' ⟨rfl, rfl⟩))
        all_goals go_wp2
        all_goals go_roundw
        all_goals
          first
            | (refine ⟨2, by omega, by rfl, ?_, by first | exact grown_setCell (p := ⟨g, b, none⟩) (grown_drewN G3 _) (.inl rfl) _ | exact grown_drew (grown_setCell (p := ⟨g, b, none⟩) G3 (.inl rfl) _)⟩
               rw [HS.out]
               show UB _ g (stR (stA (stR (stA (halfTo q a b c d 1) a b) d a 17) c d) b c 5)
               rw [N.out]
               first | exact (O3.drewN _).set b _ | exact (O3.set b _).drew)
            | (simp [intOf]; done)
            | (simp [intOf]; omega)
end Go.Proofs.Ytkbaganbfcbioaa
