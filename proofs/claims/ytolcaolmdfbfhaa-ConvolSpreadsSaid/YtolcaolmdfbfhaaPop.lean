/-
  How many ones a number has (math/bits), and both symbols: the program's and the document's.
-/
import Derived.Test.YtolcaolmdfbfhaaSprP
import Derived.Test.YtolcaolmdfbfhaaMore
import Derived.Test.YtolcaolmdfbfhaaSame
import Derived.Deep.DeepCutAuto
namespace Go.Proofs.Ytolcaolmdfbfhaa
set_option linter.unusedSimpArgs false
set_option linter.unusedVariables false
open Go.RowKit

theorem pop_s1 : ∀ b : Fin 128, IntKind.u64.wrap (bits .and .u64 (((b.val : Nat) : Int) / 2) 6148914691236517205 + bits .and .u64 ((b.val : Nat) : Int) 6148914691236517205) = ((pop1 b.val : Nat) : Int) := by decide +kernel
theorem pop_s2 : ∀ b : Fin 128, IntKind.u64.wrap (bits .and .u64 (((b.val : Nat) : Int) / 4) 3689348814741910323 + bits .and .u64 ((b.val : Nat) : Int) 3689348814741910323) = ((pop2 b.val : Nat) : Int) := by decide +kernel
theorem pop_s3 : ∀ b : Fin 128, bits .and .u64 (((b.val : Nat) : Int) / 16 + ((b.val : Nat) : Int)) 1085102592571150095 = ((pop3 b.val : Nat) : Int) := by decide +kernel
theorem pop_s7 : ∀ b : Fin 8, bits .and .i64 ((b.val : Nat) : Int) 127 = ((b.val : Nat) : Int) := by decide +kernel
theorem pop_and : ∀ b : Fin 128, bits .and .u64 ((b.val : Nat) : Int) 79 = (((b.val &&& 79 : Nat) : Nat) : Int) ∧ bits .and .u64 ((b.val : Nat) : Int) 109 = (((b.val &&& 109 : Nat) : Nat) : Int) := by decide +kernel
theorem pop_bit : ∀ b : Fin 8, bits .and .i64 ((b.val : Nat) : Int) 1 = ((b.val % 2 : Nat) : Int) := by decide +kernel

set_option maxHeartbeats 1600000 in
set_option maxRecDepth 100000 in
theorem pop64_any (x : Nat) (w : World) (hx : x < 128) :
    Calls Try.prog 142 #[.int .u64 (x : Int)] w fun e w' => e = .returned (.int .i64 (popN x : Nat)) ∧ w = w' := by
  have hA := pop_all ⟨x, hx⟩
  simp only at hA
  obtain ⟨p1, p2, p3, _, _⟩ := hA
  have P1 := Lib.hid (pop_s1 ⟨x, hx⟩)
  have P2 := Lib.hid (pop_s2 ⟨pop1 x, p1⟩)
  have P3 := Lib.hid (pop_s3 ⟨pop2 (pop1 x), p2⟩)
  have P7 := Lib.hid (pop_s7 ⟨popN x, p3⟩)
  obtain ⟨n, HN⟩ : ∃ n, Hid (popN x = n) := ⟨_, rfl⟩
  have P0 : Hid (pop3 (pop2 (pop1 x)) = n) := HN
  simp only at P1 P2 P3 P7
  rw [HN.out] at P7 p3 ⊢
  go_enter Try.func142, Try.ntmps142
  go_upto_region 2 with fail
  rw [P1.out]
  generalize pop1 x = y at *
  go_upto_region 3 with fail
  rw [P2.out]
  generalize pop2 y = z at *
  go_upto_region 4 with fail
  rw [P3.out, P0.out]
  have h1 : (n : Int) / 256 = 0 := by omega
  have h2 : (n : Int) / 65536 = 0 := by omega
  have h3 : (n : Int) / 4294967296 = 0 := by omega
  go_upto_region 7 with fail
  go_wp2
  go_ret
  exact ⟨ret_int (by first | exact P7.out | simp [Act.put, P7.out]), rfl⟩
set_option maxRecDepth 100000 in
theorem ones_any (x : Nat) (w : World) (hx : x < 128) :
    Calls Try.prog 119 #[.int .u64 (x : Int)] w fun e w' => e = .returned (.int .i64 (popN x : Nat)) ∧ w = w' := by
  go_enter Try.func119, Try.ntmps119
  go_wp2_with (go_at_call 142; refine (pop64_any x _ hx).mono ?_; rintro e w1 ⟨rfl, rfl⟩)
  go_ret
  exact ⟨rfl, rfl⟩

set_option maxHeartbeats 1600000 in
set_option maxRecDepth 100000 in
/-- The program's two symbols. -/
theorem pair_any (b s : Nat) (w : World) (hb : b ≤ 1) (hs : s < 64) :
    Calls Try.prog 81 #[.int .i64 (b : Int), .int .i64 (s : Int)] w fun e w' => e = .returned (.tuple #[.int .i64 (symA (s * 2 + b) : Nat), .int .i64 (symB (s * 2 + b) : Nat)]) ∧ w = w' := by
  have HJ := Lib.hid (join_bit (s := s) hb hs)
  obtain ⟨F, HF⟩ : ∃ F, Hid (s * 2 + b = F) := ⟨_, rfl⟩
  have lF : F < 128 := by rw [← HF.out]; omega
  have hA := pop_all ⟨F, lF⟩
  simp only at hA
  obtain ⟨_, _, _, q4, q5⟩ := hA
  have n1 : F &&& 79 < 128 := Nat.lt_of_le_of_lt Nat.and_le_left lF
  have n2 : F &&& 109 < 128 := Nat.lt_of_le_of_lt Nat.and_le_left lF
  have r1 := (pop_all ⟨F &&& 79, n1⟩).2.2.1
  have r2 := (pop_all ⟨F &&& 109, n2⟩).2.2.1
  have B1 := Lib.hid (pop_bit ⟨popN (F &&& 79), r1⟩)
  have B2 := Lib.hid (pop_bit ⟨popN (F &&& 109), r2⟩)
  have M := Lib.hid (pop_and ⟨F, lF⟩)
  have lB := symB_lt F
  simp only at B1 B2 M
  rw [q4] at B1
  rw [q5] at B2
  rw [HF.out]
  go_enter Try.func81, Try.ntmps81
  go_upto_region 2 with fail
  rw [HJ.out, HF.out]
  go_wp2_with fail
  rw [M.out.1]
  refine (ones_any (F &&& 79) _ n1).mono ?_
  rintro e w1 ⟨rfl, rfl⟩
  go_wp2_with fail
  rw [M.out.2]
  refine (ones_any (F &&& 109) _ n2).mono ?_
  rintro e w1 ⟨rfl, rfl⟩
  go_wp2_with fail
  have e2 : wrap64 (1 - ((1 - symB F : Nat) : Int)) = ((symB F : Nat) : Int) := by rw [IntWalk.wrap64_in _ (by omega)]; omega
  rw [B1.out, B2.out, e2]
  go_ret2
  exact ⟨rfl, rfl⟩

set_option maxHeartbeats 1600000 in
set_option maxRecDepth 100000 in
/-- The document's two symbols. -/
theorem symbols_any (b s : Nat) (w : World) (hb : b ≤ 1) (hs : s < 64) :
    Calls Try.prog 76 #[.int .i64 (b : Int), .int .i64 (s : Int)] w fun e w' => e = .returned (.tuple #[.int .i64 (symA (s * 2 + b) : Nat), .int .i64 (symB (s * 2 + b) : Nat)]) ∧ w = w' := by
  have HJ := Lib.hid (join_bit (s := s) hb hs)
  obtain ⟨F, HF⟩ : ∃ F, Hid (s * 2 + b = F) := ⟨_, rfl⟩
  have lF : F < 128 := by rw [← HF.out]; omega
  have S1 := Lib.hid (sym_one_all ⟨F, lF⟩)
  have S2 := Lib.hid (sym_two_all ⟨F, lF⟩)
  simp only at S1 S2
  rw [HF.out]
  go_enter Try.func76, Try.ntmps76
  go_upto_region 2 with fail
  rw [HJ.out, HF.out]
  go_wp2_with fail
  rw [S1.out, S2.out]
  go_ret2
  exact ⟨rfl, rfl⟩
end Go.Proofs.Ytolcaolmdfbfhaa
