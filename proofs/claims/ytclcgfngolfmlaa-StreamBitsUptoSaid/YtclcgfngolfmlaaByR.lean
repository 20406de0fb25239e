/-
  The document's Bytes of bits.
-/
import Derived.Test.YtclcgfngolfmlaaByP
import Derived.Test.YtclcgfngolfmlaaBitsRef
import Derived.Test.YtclcgfngolfmlaaMade
import Derived.BigRegion
namespace Go.Proofs.Ytclcgfngolfmlaa
set_option linter.unusedSimpArgs false
set_option linter.unusedVariables false
open Go.RowKit

set_option maxHeartbeats 6400000 in
set_option maxRecDepth 100000 in
theorem rbytes_any (A : Option Addr) (l : List UInt8) (n c : Nat) (w : World) (hl : l.length = n) (ha : Rd w A (bvs l)) (hn : n ≤ 1048576) :
    Calls Try.prog 21 #[.slice A n c] w fun e w' => BytesRes w w' (bytesF l) e := by
  obtain ⟨i0, hi0, hz0, hz1, hz2⟩ := info_parts u8info
  by_cases h8 : n % 8 = 0
  · obtain ⟨N, rfl⟩ : ∃ N, n = 8 * N := ⟨n / 8, by omega⟩
    have HL := Lib.hid hl
    have d8 : ((8 * (N : Int)) % 8 != 0) = false := by rw [bne_eq_false_iff_eq]; omega
    have e8 : (8 * (N : Int)) / 8 = (N : Int) := by omega
    have HBad := fun (i : Nat) (h1 : i < 8 * N) (h2 : ¬ (l.getD i 0).toNat ≤ 1) => Lib.hid (bytesF_bad hl h8 h1 h2)
    have HGood := fun (hg : Good l (8 * N)) => Lib.hid (bytesF_good hl h8 hg)
    have hmk := run_make_rowN (P := Try.prog) 22 5 i0 (.int .u8 0) Try.underlying22 hi0 hz0 .i64 .i64 N N (Nat.le_refl _) (by rw [hz2]; omega) (by omega)
    generalize bytesF l = R at *
    clear hl h8
    go_enter Try.func21, Try.ntmps21
    go_wp2_with fail
    obtain ⟨W1, hW1⟩ : ∃ W : World, W = w.alloc (.cells (madeCells #[.int .u8 0] N) 5) := ⟨_, rfl⟩
    have hO1 : Own W1 w.heap.size 5 1 (some ⟨w.heap.size, 0, none⟩) N N (bvs (refB l N 0)) := by rw [hW1, refB_zero]; exact Own.made8 w N N (Nat.le_refl _) (by unfold maxLen; omega)
    have hB1 : Below w.heap.size w W1 := by rw [hW1]; exact (by repeat (first | with_reducible exact Below.refl _ _ | with_reducible assumption | with_reducible refine below_drewN ?_ _ | with_reducible refine Below.drew ?_ | with_reducible refine Below.alloc ?_ ?_ _ | with_reducible refine Below.setCell ?_ ?_ _ | with_reducible exact Nat.le_refl _ | (simp; omega) | (simp; done)))
    rw [← hW1]
    clear hW1 hmk d8 e8
    go_loopw [5] (fun iv wr => ∃ i : Nat, i ≤ 8 * N ∧ iv = .int .i64 (i : Int) ∧ Hid (Good l i) ∧ Own wr w.heap.size 5 1 (some ⟨w.heap.size, 0, none⟩) N N (bvs (refB l N i)) ∧ Below w.heap.size w wr) (fun iv _ => 8 * N - (intOf iv).toNat)
    case atStart => exact ⟨0, Nat.zero_le _, rfl, Lib.hid (fun t ht => by omega), hO1, hB1⟩
    case round =>
      obtain ⟨m, hm, rfl, HG, hO, hB⟩ := hrel
      clear hO1 hB1
      by_cases h5 : m < 8 * N
      · have h5i : (m : Int) < 8 * (N : Int) := by omega
        obtain ⟨b, off, rfl, e1⟩ := (ha.below hB).byteD (k := m) (by rw [HL.out]; exact h5)
        have hbw : b < w.heap.size := by
          obtain ⟨_, _, e, hc⟩ := ha.byte (k := m) (by rw [HL.out]; exact h5)
          injection e with e
          injection e with e1 e2
          subst e1
          exact World.block_lt_of_cell? _ _ hc
        by_cases hbit : (l.getD m 0).toNat ≤ 1
        · have HG2 : Hid (Good l (m + 1)) := Lib.hid (HG.out.next hbit)
          have HN := Lib.hid (refB_next HG2.out h5)
          have e2 := hO.rd.byteE (k := m / 8) (by rw [refB_len]; omega)
          have hf := hO.frozen (0 + m / 8)
          rw [Nat.zero_add] at e2 hf
          have hne : ¬ b = w.heap.size := by omega
          have hgt : decide ((1 : Int) < ((l.getD m 0).toNat : Int)) = false := decide_eq_false (by omega)
          have HX : Hid (bits .or .u8 (((refB l N m).getD (m / 8) 0).toNat : Int) (((l.getD m 0).toNat : Int) * 2 ^ (7 - m % 8) % 256) = (((refB l N m).getD (m / 8) 0 ||| UInt8.ofNat ((l.getD m 0).toNat * 2 ^ (7 - m % 8))).toNat : Int)) := by
            show _ = _
            have hz : ((l.getD m 0).toNat : Int) * 2 ^ (7 - m % 8) % 256 = ((UInt8.ofNat ((l.getD m 0).toNat * 2 ^ (7 - m % 8))).toNat : Int) := by
              rw [UInt8.toNat_ofNat']
              simp
            rw [hz]
            exact or_u8 _ _
          generalize UInt8.ofNat ((l.getD m 0).toNat * 2 ^ (7 - m % 8)) = v at *
          generalize (refB l N m).getD (m / 8) 0 = x at *
          generalize l.getD m 0 = z at *
          have gx := byte_lt x
          have gz := byte_lt z
          have t3 : ((m : Int) / 8).toNat = m / 8 := by omega
          have t4 : (0 : Int) ≤ (m : Int) / 8 := by omega
          have t5 : (m : Int) / 8 < (N : Int) := by omega
          have t6 : ((7 : Int) - (m : Int) % 8).toNat = 7 - m % 8 := by omega
          have t7 : (0 : Int) ≤ (7 : Int) - (m : Int) % 8 := by omega
          have t8 : (7 : Int) - (m : Int) % 8 < 8 := by omega
          have in0 : (0 : Int) ≤ (m : Int) := by omega
          clear HBad HGood
          go_wp2_with fail
          go_region
          all_goals go_wp2
          all_goals go_roundw
          case rel =>
            refine ⟨m + 1, by omega, by go_num, HG2, ?_, (hB.setCell (p := ⟨w.heap.size, m / 8, none⟩) (Nat.le_refl _) _).drew⟩
            rw [HX.out, HN.out]
            have := (hO.setB (k := m / 8) (by omega) (x ||| v)).drew
            rw [Nat.zero_add] at this
            exact this
          case measure => simp [intOf]; omega
        · have hgt : decide ((1 : Int) < ((l.getD m 0).toNat : Int)) = true := decide_eq_true (by omega)
          have HR := HBad m h5 hbit
          have gz := byte_lt (l.getD m 0)
          generalize l.getD m 0 = z at *
          clear HBad HGood
          go_wp2
          go_ret2
          rw [HR.out]
          exact BytesRes.none_ hB
      · obtain rfl : m = 8 * N := by omega
        have HR := HGood HG.out
        rw [refB_all] at hO
        rw [show 8 * N / 8 = N from by omega] at HR
        have h5f : decide ((8 * (N : Int)) < 8 * (N : Int)) = false := by simp
        clear HBad HGood
        go_wp2
        go_ret2
        rw [HR.out]
        refine ⟨some ⟨w.heap.size, 0, none⟩, N, ?_, ?_, hB⟩
        · show _ = Ending.returned (.tuple #[.slice _ (packB l N).length _, _])
          rw [packB_len]
          rfl
        · show Own _ _ _ _ _ (packB l N).length _ _
          rw [packB_len]
          exact hO
  · rw [bytesF_size (by rw [hl]; exact h8)]
    have d8 : ((n : Int) % 8 != 0) = true := by rw [bne_iff_ne]; omega
    clear hl
    go_enter Try.func21, Try.ntmps21
    go_wp2
    go_ret2
    exact BytesRes.none_ (Below.refl _ _)
end Go.Proofs.Ytclcgfngolfmlaa
