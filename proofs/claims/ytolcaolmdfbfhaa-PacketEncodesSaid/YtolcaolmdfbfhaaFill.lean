/-
  Packets that fill: the document's Filler and the program's Fill.
-/
import Derived.Test.YtolcaolmdfbfhaaPEncG
namespace Go.Proofs.Ytolcaolmdfbfhaa
set_option linter.unusedSimpArgs false
set_option linter.unusedVariables false
open Go.RowKit

def fillBytes (v : Int) : List UInt8 × Int :=
  if 7 ≤ v ∧ v ≤ 65542 then pktBytes ⟨false, false, 2047, 3, 0, List.replicate (v.toNat - 6) 0⟩ else ([], 1)
theorem fillBytes_len (v : Int) : (fillBytes v).1.length ≤ 65542 := by
  unfold fillBytes
  split
  · exact pktBytes_len _
  · simp

set_option maxHeartbeats 3200000 in
set_option maxRecDepth 100000 in
theorem rfill_any (v : Int) (w : World) :
    Calls Try.prog 21 #[.int .i64 v] w fun e w' => BytesRes w w' (fillBytes v) e := by
  obtain ⟨i0, hi0, hz0, hz1, hz2⟩ := info_parts u8info
  by_cases h : 7 ≤ v ∧ v ≤ 65542
  · have e : fillBytes v = pktBytes ⟨false, false, 2047, 3, 0, List.replicate (v.toNat - 6) 0⟩ := by unfold fillBytes; rw [if_pos h]
    rw [e]
    obtain ⟨j, hj⟩ : ∃ j : Nat, v = (j : Int) + 6 := ⟨v.toNat - 6, by omega⟩
    have ej : v.toNat - 6 = j := by omega
    rw [ej]
    have d1 : decide (v < 7) = false := by simp; omega
    have d2 : decide (65542 < v) = false := by simp; omega
    have h6 : v - 6 = (j : Int) := by omega
    have hj2 : j ≤ 65536 := by omega
    have hj1 : (1 : Int) ≤ (j : Int) := by omega
    have vlo : 7 ≤ v := h.1
    have vhi : v ≤ 65542 := h.2
    have hmk := run_make_rowN (P := Try.prog) 22 5 i0 (.int .u8 0) Try.underlying22 hi0 hz0 .i64 .i64 j j (Nat.le_refl _) (by rw [hz2]; omega) (by omega)
    rw [hz1, Nat.mul_one] at hmk
    have hmkW := hmk w
    have hP := Lib.hid (fun A c w ha => packetBytes_any ⟨false, false, 2047, 3, 0, List.replicate j 0⟩ A j c w (by simp) ha)
    unfold pvn at hP
    simp only at hP
    generalize pktBytes ⟨false, false, 2047, 3, 0, List.replicate j 0⟩ = R at *
    clear e ej hj h hmk
    go_enter Try.func21, Try.ntmps21
    go_wp2_with fail
    refine (hP.out _ _ _ (Own.made8 w j j (Nat.le_refl _) (by unfold maxLen; omega)).rd).mono ?_
    rintro e w1 ⟨A1, c1, rfl, hO, hB⟩
    go_wp2
    go_ret2
    exact ⟨A1, c1, rfl, hO.mono (by simp), ((Below.refl _ _).alloc (Nat.le_refl _) _).trans (hB.mono (by simp))⟩
  · have e : fillBytes v = ([], 1) := by unfold fillBytes; rw [if_neg h]
    rw [e]
    by_cases h1 : v < 7
    · have d1 : decide (v < 7) = true := by simp; omega
      clear e h
      go_enter Try.func21, Try.ntmps21
      go_wp2
      go_ret2
      exact BytesRes.none_ (Below.refl _ _)
    · have d1 : decide (v < 7) = false := by simp; omega
      have d2 : decide (65542 < v) = true := by simp; omega
      clear e h
      go_enter Try.func21, Try.ntmps21
      go_wp2
      go_ret2
      exact BytesRes.none_ (Below.refl _ _)
set_option maxHeartbeats 3200000 in
set_option maxRecDepth 100000 in
theorem pfill_any (v : Int) (w : World) :
    Calls Try.prog 22 #[.int .i64 v] w fun e w' => BytesRes w w' (fillBytes v) e := by
  obtain ⟨i0, hi0, hz0, hz1, hz2⟩ := info_parts u8info
  by_cases h : 7 ≤ v ∧ v ≤ 65542
  · have e : fillBytes v = pktBytes ⟨false, false, 2047, 3, 0, List.replicate (v.toNat - 6) 0⟩ := by unfold fillBytes; rw [if_pos h]
    rw [e]
    obtain ⟨j, hj⟩ : ∃ j : Nat, v = (j : Int) + 6 := ⟨v.toNat - 6, by omega⟩
    have ej : v.toNat - 6 = j := by omega
    rw [ej]
    have d1 : decide (v < 7) = false := by simp; omega
    have d2 : decide (65542 < v) = false := by simp; omega
    have h6 : v - 6 = (j : Int) := by omega
    have hj2 : j ≤ 65536 := by omega
    have hj1 : (1 : Int) ≤ (j : Int) := by omega
    have vlo : 7 ≤ v := h.1
    have vhi : v ≤ 65542 := h.2
    have hmk := run_make_rowN (P := Try.prog) 22 5 i0 (.int .u8 0) Try.underlying22 hi0 hz0 .i64 .i64 j j (Nat.le_refl _) (by rw [hz2]; omega) (by omega)
    rw [hz1, Nat.mul_one] at hmk
    have hmkW := hmk w
    have hP := Lib.hid (fun A c w ha => pencode_any ⟨false, false, 2047, 3, 0, List.replicate j 0⟩ A j c w (by simp) ha)
    unfold pvn at hP
    simp only at hP
    generalize pktBytes ⟨false, false, 2047, 3, 0, List.replicate j 0⟩ = R at *
    clear e ej hj h hmk
    go_enter Try.func22, Try.ntmps22
    go_wp2_with fail
    refine (hP.out _ _ _ (Own.made8 w j j (Nat.le_refl _) (by unfold maxLen; omega)).rd).mono ?_
    rintro e w1 ⟨A1, c1, rfl, hO, hB⟩
    go_wp2
    go_ret2
    exact ⟨A1, c1, rfl, hO.mono (by simp), ((Below.refl _ _).alloc (Nat.le_refl _) _).trans (hB.mono (by simp))⟩
  · have e : fillBytes v = ([], 1) := by unfold fillBytes; rw [if_neg h]
    rw [e]
    by_cases h1 : v < 7
    · have d1 : decide (v < 7) = true := by simp; omega
      clear e h
      go_enter Try.func22, Try.ntmps22
      go_wp2
      go_ret2
      exact BytesRes.none_ (Below.refl _ _)
    · have d1 : decide (v < 7) = false := by simp; omega
      have d2 : decide (65542 < v) = true := by simp; omega
      clear e h
      go_enter Try.func22, Try.ntmps22
      go_wp2
      go_ret2
      exact BytesRes.none_ (Below.refl _ _)
end Go.Proofs.Ytolcaolmdfbfhaa
