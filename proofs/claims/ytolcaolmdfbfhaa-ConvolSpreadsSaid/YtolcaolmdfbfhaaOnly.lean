/-
  slices.ContainsFunc over the program's test of a bit.
-/
import Derived.Test.YtolcaolmdfbfhaaSprP
import Derived.Test.YtolcaolmdfbfhaaByteAt
import Derived.Test.YtolcaolmdfbfhaaStep
namespace Go.Proofs.Ytolcaolmdfbfhaa
set_option linter.unusedSimpArgs false
set_option linter.unusedVariables false
open Go.RowKit

theorem over_any (x : UInt8) (w : World) : Calls Try.prog 80 #[.int .u8 (x.toNat : Int)] w fun e w' => e = .returned (.bool (decide (1 < (x.toNat : Int)))) ∧ w = w' := by
  have hx := byte_lt x
  go_enter Try.func80, Try.ntmps80
  go_wp2
  go_ret
  exact ⟨ret_bool (by simp [Act.put]), rfl⟩
theorem bits_all {l : List UInt8} (h : ∀ j, j < l.length → (l.getD j 0).toNat ≤ 1) : bitsOnly l := by
  intro x hx
  obtain ⟨i, hi, rfl⟩ := List.getElem_of_mem hx
  have := h i hi
  rwa [List.getD_eq_getElem?_getD, List.getElem?_eq_getElem hi] at this
theorem bits_get {l : List UInt8} (h : bitsOnly l) (j : Nat) : (l.getD j 0).toNat ≤ 1 := bitI_lt h j

set_option maxHeartbeats 1600000 in
set_option maxRecDepth 100000 in
theorem index_any (A : Option Addr) (l : List UInt8) (n c : Nat) (w : World) (hl : l.length = n) (ha : Rd w A (bvs l)) (hn : n ≤ 16384) :
    Calls Try.prog 118 #[.slice A n c, .func (.func 80) #[] #[]] w fun e w' => ∃ v : Int, e = .returned (.int .i64 v) ∧ decide (0 ≤ v) = !decide (bitsOnly l) ∧ w = w' := by
  have HL := Lib.hid hl
  clear hl
  go_enter Try.func118, Try.ntmps118
  go_wp2_with fail
  go_loop [8] (fun i => ∃ k : Nat, k ≤ n ∧ i = .int .i64 k ∧ ∀ j, j < k → (l.getD j 0).toNat ≤ 1) (fun i => n - (intOf i).toNat)
  case atStart => exact ⟨0, by omega, by simp, fun j hj => by omega⟩
  case round =>
    obtain ⟨k, hk, rfl, hA⟩ := hrel
    have HA := Lib.hid hA
    clear hA
    by_cases h5 : k < n
    · have h5i : (k : Int) < (n : Int) := by omega
      obtain ⟨b, off, rfl, hc⟩ := ha.byteD (k := k) (by rw [HL.out]; omega)
      obtain ⟨x, HX⟩ : ∃ x, Hid (l.getD k 0 = x) := ⟨_, rfl⟩
      rw [HX.out] at hc
      by_cases hx : 1 < (x.toNat : Int)
      · have hx2 : decide (1 < (x.toNat : Int)) = true := by simpa using hx
        go_wp2_with (go_at_call 80; refine (over_any x _).mono ?_; rintro e w1 ⟨rfl, rfl⟩)
        go_ret
        refine ⟨k, rfl, ?_, rfl⟩
        have : ¬ bitsOnly l := fun h => by
          have := bits_get h k
          rw [HX.out] at this
          omega
        simp [this]
      · have hx2 : decide (1 < (x.toNat : Int)) = false := by simpa using hx
        go_wp2_with (go_at_call 80; refine (over_any x _).mono ?_; rintro e w1 ⟨rfl, rfl⟩)
        go_round
        case rel =>
          refine ⟨k + 1, by omega, by go_num, fun j hj => ?_⟩
          by_cases hjk : j < k
          · exact HA.out j hjk
          · obtain rfl : j = k := by omega
            rw [HX.out]
            omega
        case measure => simp [intOf]; omega
    · obtain rfl : k = n := by omega
      go_wp2
      go_ret
      refine ⟨-1, rfl, ?_, rfl⟩
      have : bitsOnly l := bits_all (by rw [HL.out]; exact HA.out)
      simp [this]
theorem contains_any (A : Option Addr) (l : List UInt8) (n c : Nat) (w : World) (hl : l.length = n) (ha : Rd w A (bvs l)) (hn : n ≤ 16384) :
    Calls Try.prog 79 #[.slice A n c, .func (.func 80) #[] #[]] w fun e w' => e = .returned (.bool (!decide (bitsOnly l))) ∧ w = w' := by
  have hI := Lib.hid (fun w ha => index_any A l n c w hl ha hn)
  go_enter Try.func79, Try.ntmps79
  go_wp2_with fail
  refine (hI.out _ ha).mono ?_
  rintro e w1 ⟨v, rfl, hv, rfl⟩
  have HV := Lib.hid hv
  clear hv
  go_wp2
  go_ret
  exact ⟨ret_bool (by simpa [Act.put] using HV.out), rfl⟩
end Go.Proofs.Ytolcaolmdfbfhaa
