import Derived.Test.YtgfkpolklianeaaFieldLog
import Derived.BigGuardPart
namespace Go.Proofs.Ytgfkpolklianeaa
set_option linter.unusedSimpArgs false
set_option linter.unusedVariables false
open Go.RowKit
set_option maxHeartbeats 1600000 in
set_option maxRecDepth 100000 in
theorem fieldNumbers_walk (a b : Nat) (n : Int) (w : World) (ha : a < 256) (hb : b < 256) :
    Calls Try.prog 10 #[.int .u8 a, .int .u8 b, .int .i64 n] w fun e w' => e = .returned (.bool true) ∧ Below w.heap.size w w' := by
  have D1 := Lib.hid (fun w => div_any a b w ha hb)
  have D2 := Lib.hid (fun w => rdiv_any a b w ha hb)
  have L1 := Lib.hid (fun w => log_any a w ha)
  have L2 := Lib.hid (fun w => rlog_any a w ha)
  have P1 := Lib.hid (fun w => power_any n w)
  have P2 := Lib.hid (fun w => rpower_any n w)
  have M1 := Lib.hid (fun w => mul_any a b w ha hb)
  have M2 := Lib.hid (fun w => rmul_any a b w ha hb)
  unfold logv at L1 L2
  generalize (divF a b).1 = q at *
  generalize (divF a b).2 = k at *
  generalize ((logF a).getD 0) = l at *
  generalize (logF a).isSome = s at *
  generalize pow 2 (powIx n) = p at *
  generalize mul a b = m at *
  go_enter Try.func10, Try.ntmps10
  go_wp2_with fail
  refine (D1.out _).mono ?_
  rintro e w' ⟨rfl, rfl⟩
  go_wp2_with fail
  refine (D2.out _).mono ?_
  rintro e w' ⟨rfl, rfl⟩
  go_wp2_with fail
  refine (L1.out _).mono ?_
  rintro e w' ⟨rfl, rfl⟩
  go_wp2_with fail
  refine (L2.out _).mono ?_
  rintro e w' ⟨rfl, rfl⟩
  go_wp2_with fail
  refine (M1.out _).mono ?_
  rintro e w' ⟨rfl, rfl⟩
  go_wp2_with fail
  refine (M2.out _).mono ?_
  rintro e w' ⟨rfl, rfl⟩
  go_wp2_with fail
  refine (P1.out _).mono ?_
  rintro e w' ⟨rfl, rfl⟩
  go_wp2_with fail
  refine (P2.out _).mono ?_
  rintro e w' ⟨rfl, rfl⟩
  go_wp2_with fail
  go_ret
  exact ⟨rfl, Below.refl _ _⟩
end Go.Proofs.Ytgfkpolklianeaa
