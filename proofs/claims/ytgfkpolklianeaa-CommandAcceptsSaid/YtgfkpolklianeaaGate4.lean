import Derived.Test.YtgfkpolklianeaaGate3
namespace Go.Proofs.Ytgfkpolklianeaa
set_option linter.unusedSimpArgs false
set_option linter.unusedVariables false
open Go.RowKit

/-- What the program has joined behind k of the three flags. -/
def accN (s w a c n : Nat) : Nat → Nat
  | 0 => 16777216 + c * 512 + n
  | 1 => 16777216 + c * 512 + n + s * 8192
  | 2 => 16777216 + c * 512 + n + s * 8192 + w * 4096
  | _ => 16777216 + c * 512 + n + s * 8192 + w * 4096 + a * 2048
theorem acc_all (s w a c n : Nat) : accN s w a c n 3 = statN s w a c n := by
  show 16777216 + c * 512 + n + s * 8192 + w * 4096 + a * 2048 = 16777216 + s * 8192 + w * 4096 + a * 2048 + c * 512 + n
  omega
theorem low_succ' (a n : Nat) : a % 2 ^ (n + 1) = if a / 2 ^ n % 2 = 1 then a % 2 ^ n + 2 ^ n else a % 2 ^ n := by
  rw [Nat.pow_succ, Nat.mod_mul]
  rcases Nat.mod_two_eq_zero_or_one (a / 2 ^ n) with h | h <;> rw [h] <;> simp
/-- A bit that is not there yet is added. -/
theorem or_new (i : Nat) {x : Nat} (hi : i ≤ 40) (h : x / 2 ^ i % 2 = 0) (hx : x < 1099511627776) : bits .or .i64 (x : Int) ((2 ^ i : Nat) : Int) = ((x + 2 ^ i : Nat) : Int) := by
  have h2 : 2 ^ i ≤ 2 ^ 40 := Nat.pow_le_pow_right (by omega) hi
  have e := i64_or_nat x (2 ^ i) (by omega) (by omega)
  have e2 : x ||| 2 ^ i = x + 2 ^ i := by
    have hp : 2 ^ (i + 1) = 2 * 2 ^ i := by rw [Nat.pow_succ, Nat.mul_comm]
    have hd := Nat.div_add_mod x (2 ^ (i + 1))
    have hr : x % 2 ^ (i + 1) < 2 ^ i := by
      rw [low_succ', if_neg (by omega)]
      exact Nat.mod_lt _ (Nat.two_pow_pos i)
    generalize x / 2 ^ (i + 1) = q at *
    generalize x % 2 ^ (i + 1) = r at *
    subst hd
    rw [Nat.two_pow_add_eq_or_of_lt (by omega) q, Nat.or_assoc, Nat.or_two_pow_eq_add_of_lt hr, ← Nat.two_pow_add_eq_or_of_lt (by omega) q, ← Nat.two_pow_add_eq_or_of_lt (by omega) q]
    omega
  rw [e, e2]
theorem acc_zero {c n : Nat} (hc : c ≤ 3) (hn : n ≤ 255) : bits .or .i64 (bits .or .i64 16777216 ((c : Int) * 512)) (n : Int) = ((16777216 + c * 512 + n : Nat) : Int) := by
  have e0 : (16777216 : Int) = ((16777216 : Nat) : Int) := rfl
  rw [e0, or_lit 11 (c * 512) (by omega) (by omega) (by omega) (by omega), or_at 9 (by omega) (by omega) (by omega)]

set_option maxHeartbeats 1600000 in
set_option maxRecDepth 100000 in
theorem report_yes (cr : Int) (nx : Nat) (ha : Int) (sh wa ag : Bool) (co : Nat) (w : World) (hg : guardOk cr ha) (h : nx ≤ 255 ∧ co ≤ 3) :
    Calls Try.prog 36 #[gv7 cr nx ha sh wa ag co] w fun e w' => e = .returned (.tuple #[.int .i64 (statN (flag sh 1) (flag wa 1) (flag ag 1) co nx : Nat), .int .i64 0]) ∧ Below w.heap.size w w' := by
  have f1 := flag_le1 sh
  have f2 := flag_le1 wa
  have f3 := flag_le1 ag
  have HS := Lib.hid (acc_all (flag sh 1) (flag wa 1) (flag ag 1) co nx)
  obtain ⟨h1, h2⟩ := h
  have H0 := Lib.hid (acc_zero h2 h1)
  go_enter Try.func36, Try.ntmps36
  unfold gv7
  go_wp2_with fail
  refine (stands_yes cr nx ha sh wa ag co _ hg (by omega)).mono ?_
  rintro e w1 ⟨rfl, hb⟩
  have hB : Below w.heap.size w w1 := ((Below.refl _ _).alloc (Nat.le_refl _) _).trans (hb.mono (by simp))
  have hK := (Blk.new w 53 #[.int .i64 cr, .int .i64 nx, .int .i64 ha, .bool sh, .bool wa, .bool ag, .int .i64 co]).below' hb
  obtain ⟨x0, x1, x2, x3, x4, x5, x6, fx⟩ := hK.seven
  clear hg hb hK
  go_wp2_with fail
  obtain ⟨W2, hW2⟩ : ∃ W : World, W = w1.alloc (.cells #[.bool sh, .int .i64 8192, .bool wa, .int .i64 4096, .bool ag, .int .i64 2048] 112) := ⟨_, rfl⟩
  have hS : Blk W2 w1.heap.size 112 #[.bool sh, .int .i64 8192, .bool wa, .int .i64 4096, .bool ag, .int .i64 2048] := by rw [hW2]; exact Blk.new _ _ _
  have hB2 : Below w.heap.size w W2 := by rw [hW2]; exact hB.alloc hB.size _
  rw [← hW2]
  clear hW2 x0 x1 x2 x3 x4 x5 x6 fx hB
  go_loopw [4, 28] (fun v i wr => ∃ k : Nat, k ≤ 3 ∧ i = .int .i64 k ∧ v = .int .i64 (accN (flag sh 1) (flag wa 1) (flag ag 1) co nx k : Nat) ∧ Blk wr w1.heap.size 112 #[.bool sh, .int .i64 8192, .bool wa, .int .i64 4096, .bool ag, .int .i64 2048] ∧ Below w.heap.size w wr) (fun _ i _ => 3 - (intOf i).toNat)
  case atStart => exact ⟨0, by omega, rfl, by rw [H0.out]; rfl, hS, hB2⟩
  case round =>
    obtain ⟨k, hk, rfl, rfl, hSr, hBr⟩ := hrel
    clear hS hB2
    have hk4 : k = 0 ∨ k = 1 ∨ k = 2 ∨ k = 3 := by omega
    obtain ⟨b0, b1, b2, b3, b4, b5, fb⟩ := hSr.six
    have HN := HS
    rcases hk4 with rfl | rfl | rfl | rfl
    · cases sh
      · have HZ : Hid (accN (flag false 1) (flag wa 1) (flag ag 1) co nx 0 = accN (flag false 1) (flag wa 1) (flag ag 1) co nx 1) := by show _ = _; simp [accN, flag]
        generalize accN (flag false 1) (flag wa 1) (flag ag 1) co nx 0 = z at *
        go_wp2
        go_roundw
        case rel => exact ⟨1, by omega, rfl, by rw [HZ.out], hSr.alloc _, hBr.alloc hBr.size _⟩
        case measure => simp [intOf]
      · have HZ : Hid (bits .or .i64 ((accN (flag true 1) (flag wa 1) (flag ag 1) co nx 0 : Nat) : Int) 8192 = ((accN (flag true 1) (flag wa 1) (flag ag 1) co nx 1 : Nat) : Int)) := by
          have := or_new 13 (x := accN (flag true 1) (flag wa 1) (flag ag 1) co nx 0) (by omega) (by show (_ : Nat) / 8192 % 2 = 0; simp only [accN]; omega) (by simp only [accN]; omega)
          refine this.trans ?_
          simp only [accN]
          rw [show flag true 1 = 1 from rfl]
        generalize accN (flag true 1) (flag wa 1) (flag ag 1) co nx 0 = z at *
        go_wp2
        go_roundw
        case rel => exact ⟨1, by omega, rfl, by rw [HZ.out], hSr.alloc _, hBr.alloc hBr.size _⟩
        case measure => simp [intOf]
    · cases wa
      · have HZ : Hid (accN (flag sh 1) (flag false 1) (flag ag 1) co nx 1 = accN (flag sh 1) (flag false 1) (flag ag 1) co nx 2) := by show _ = _; simp [accN, flag]
        generalize accN (flag sh 1) (flag false 1) (flag ag 1) co nx 1 = z at *
        go_wp2
        go_roundw
        case rel => exact ⟨2, by omega, rfl, by rw [HZ.out], hSr.alloc _, hBr.alloc hBr.size _⟩
        case measure => simp [intOf]
      · have HZ : Hid (bits .or .i64 ((accN (flag sh 1) (flag true 1) (flag ag 1) co nx 1 : Nat) : Int) 4096 = ((accN (flag sh 1) (flag true 1) (flag ag 1) co nx 2 : Nat) : Int)) := by
          have := or_new 12 (x := accN (flag sh 1) (flag true 1) (flag ag 1) co nx 1) (by omega) (by show (_ : Nat) / 4096 % 2 = 0; simp only [accN]; omega) (by simp only [accN]; omega)
          refine this.trans ?_
          simp only [accN]
          rw [show flag true 1 = 1 from rfl]
        generalize accN (flag sh 1) (flag true 1) (flag ag 1) co nx 1 = z at *
        go_wp2
        go_roundw
        case rel => exact ⟨2, by omega, rfl, by rw [HZ.out], hSr.alloc _, hBr.alloc hBr.size _⟩
        case measure => simp [intOf]
    · cases ag
      · have HZ : Hid (accN (flag sh 1) (flag wa 1) (flag false 1) co nx 2 = accN (flag sh 1) (flag wa 1) (flag false 1) co nx 3) := by show _ = _; simp [accN, flag]
        generalize accN (flag sh 1) (flag wa 1) (flag false 1) co nx 2 = z at *
        go_wp2
        go_roundw
        case rel => exact ⟨3, by omega, rfl, by rw [HZ.out], hSr.alloc _, hBr.alloc hBr.size _⟩
        case measure => simp [intOf]
      · have HZ : Hid (bits .or .i64 ((accN (flag sh 1) (flag wa 1) (flag true 1) co nx 2 : Nat) : Int) 2048 = ((accN (flag sh 1) (flag wa 1) (flag true 1) co nx 3 : Nat) : Int)) := by
          have := or_new 11 (x := accN (flag sh 1) (flag wa 1) (flag true 1) co nx 2) (by omega) (by show (_ : Nat) / 2048 % 2 = 0; simp only [accN]; omega) (by simp only [accN]; omega)
          refine this.trans ?_
          simp only [accN]
          rw [show flag true 1 = 1 from rfl]
        generalize accN (flag sh 1) (flag wa 1) (flag true 1) co nx 2 = z at *
        go_wp2
        go_roundw
        case rel => exact ⟨3, by omega, rfl, by rw [HZ.out], hSr.alloc _, hBr.alloc hBr.size _⟩
        case measure => simp [intOf]
    · have HE := HS
      generalize accN (flag sh 1) (flag wa 1) (flag ag 1) co nx 3 = z at *
      go_wp2_with fail
      go_ret2
      refine ⟨?_, hBr⟩
      rw [← HE.out]
      rfl
end Go.Proofs.Ytgfkpolklianeaa
