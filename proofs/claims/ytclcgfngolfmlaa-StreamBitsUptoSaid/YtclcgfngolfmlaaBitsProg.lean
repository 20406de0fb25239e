/-
  The program's Bits.
-/
import Derived.Test.YtclcgfngolfmlaaBitsRef
import Derived.Test.YtclcgfngolfmlaaMade
namespace Go.Proofs.Ytclcgfngolfmlaa
set_option linter.unusedSimpArgs false
set_option linter.unusedVariables false
open Go.RowKit

theorem bits_step (l : List UInt8) (k j : Nat) (h : j < 8) : bitsN l (8 * k + (j + 1)) = bitsN l (8 * k + j) ++ [bitAt (l.getD k 0) j] := by
  rw [← Nat.add_assoc, bitsN_succ, show (8 * k + j) / 8 = k from by omega, show (8 * k + j) % 8 = j from by omega]

set_option maxHeartbeats 1600000 in
set_option maxRecDepth 100000 in
theorem bits_any (A : Option Addr) (l : List UInt8) (n c : Nat) (w : World) (hl : l.length = n) (ha : Rd w A (bvs l)) (hn : n ≤ 1048576) :
    Calls Try.prog 26 #[.slice A n c] w fun e w' => RowsOut w w' (bitsL l) e := by
  obtain ⟨i0, hi0, hz0, hz1, hz2⟩ := info_parts u8info
  have HL := Lib.hid hl
  have hmk := run_make_rowN (P := Try.prog) 22 5 i0 (.int .u8 0) Try.underlying22 hi0 hz0 .i64 .i64 0 (8 * n) (Nat.zero_le _) (by rw [hz2]; omega) (by omega)
  rw [show ((8 * n : Nat) : Int) = 8 * (n : Int) from by omega, show ((0 : Nat) : Int) = 0 from rfl] at hmk
  clear hl
  go_enter Try.func26, Try.ntmps26
  go_wp2_with fail
  obtain ⟨W1, hW1⟩ : ∃ W : World, W = w.alloc (.cells (madeCells #[.int .u8 0] (8 * n)) 5) := ⟨_, rfl⟩
  have hO1 : Own W1 w.heap.size 5 1 (some ⟨w.heap.size, 0, none⟩) 0 (8 * n) (bvs (List.replicate 0 0)) := by rw [hW1]; exact Own.made8 w 0 (8 * n) (Nat.zero_le _) (by unfold maxLen; omega)
  have hB1 : Below w.heap.size w W1 := by rw [hW1]; exact (Below.refl _ _).alloc (Nat.le_refl _) _
  rw [← hW1]
  clear hW1 hmk
  go_loopw [3, 13] (fun o i wr => ∃ (k : Nat) (A1 : Option Addr) (c1 : Nat), k ≤ n ∧ o = .slice A1 (8 * k) c1 ∧ i = .int .i64 k ∧ Own wr w.heap.size 5 1 A1 (8 * k) c1 (bvs (bitsN l (8 * k))) ∧ Below w.heap.size w wr) (fun _ i _ => n - (intOf i).toNat)
  case atStart => exact ⟨0, _, _, by omega, by simp, by simp, hO1, hB1⟩
  case round =>
    obtain ⟨k, A1, c1, hk, rfl, rfl, hO, hB⟩ := hrel
    clear hO1 hB1
    by_cases h5 : k < n
    · have h5i : (k : Int) < (n : Int) := by omega
      obtain ⟨b, off, rfl, hc⟩ := (ha.below hB).byteD (k := k) (by rw [HL.out]; omega)
      have HN := fun j h => Lib.hid (bits_step l k j h)
      have HV := fun j h => Lib.hid (bit_val (l.getD k 0) j h)
      generalize l.getD k 0 = x at *
      have gx := byte_lt x
      go_wp2_with fail
      go_loopw [3, 6] (fun o i wr => ∃ (j : Nat) (A1 : Option Addr) (c1 : Nat), j ≤ 8 ∧ o = .slice A1 (8 * k + j) c1 ∧ i = .int .i64 (7 - (j : Int)) ∧ Own wr w.heap.size 5 1 A1 (8 * k + j) c1 (bvs (bitsN l (8 * k + j))) ∧ Below w.heap.size w wr) (fun _ i _ => (intOf i + 1).toNat)
      case atStart => exact ⟨0, _, _, by omega, by simp, by simp, hO, hB⟩
      case round =>
        obtain ⟨j, A1, c1, hj, rfl, rfl, hO, hB⟩ := hrel
        by_cases h8 : j < 8
        · replace HN := HN j h8
          have hv := (HV j h8).out
          have q2 : 8 * k + j + 1 ≤ maxLen := by unfold maxLen; omega
          have q3 : (8 * k + j + 1) * 1 ≤ 140737488355328 := by omega
          have t6 : ((7 : Int) - (j : Int)).toNat = 7 - j := by omega
          have t7 : (0 : Int) ≤ (7 : Int) - (j : Int) := by omega
          have t8 : (7 : Int) - (j : Int) < 8 := by omega
          have q4 : w.heap.size ≤ (wr.alloc (.cells #[.int .u8 ((bitAt x j).toNat : Int)] 5)).heap.size := Nat.le_trans hB.size (le_alloc8 _ _)
          have hRd : Rd (wr.alloc (.cells #[.int .u8 ((bitAt x j).toNat : Int)] 5)) (some ⟨wr.heap.size, 0, none⟩) [.int .u8 ((bitAt x j).toNat : Int)] := Rd.of_block (heap_alloc_new wr _) (fun i u h => by simpa using h)
          go_wp2_with (at_builtin; refine wpList_append_Own _ rfl (.tmp 21) (.tmp 26) 22 rfl w.heap.size 5 i0 _ 1 1 Try.underlying22 hi0 hz0 hz1 hz2 rfl A1 (8 * k + j) c1 (bvs (bitsN l (8 * k + j))) (by simp [Act.eval, Act.put]) (hO.alloc _) (some ⟨wr.heap.size, 0, none⟩) 1 1 [.int .u8 ((bitAt x j).toNat : Int)] (by simp [Act.eval, Act.put]) rfl hRd (fun u hu => by simp at hu; subst hu; rfl) q2 q3 q4 ?_; intro A' c' w1 hO1 hg1 hor)
          go_roundw
          case rel =>
            refine ⟨j + 1, A', c', by omega, by simp [Nat.add_assoc], by simp; omega, ?_, (hB.alloc hB.size _).grown hg1 (Nat.le_trans hB.size (le_alloc8 _ _)) (fun q hq => (hO.lt q hq).1)⟩
            rw [HN.out]
            have e : bvs (bitsN l (8 * k + j) ++ [bitAt x j]) = bvs (bitsN l (8 * k + j)) ++ [.int .u8 ((bitAt x j).toNat : Int)] := by simp [bvs, bv]
            rw [e, ← Nat.add_assoc]
            exact hO1
          case measure => simp [intOf]; omega
        · obtain rfl : j = 8 := by omega
          go_wp2
          go_roundw
          case rel =>
            refine ⟨k + 1, A1, c1, by omega, by simp [Nat.mul_add], by go_num, ?_, hB⟩
            rw [Nat.mul_add]
            exact hO
          case measure => simp [intOf]; omega
    · obtain rfl : k = n := by omega
      go_wp2
      go_ret
      refine ⟨A1, c1, by rw [bitsL_length, HL.out]; simp, ?_, hB⟩
      rw [bitsL_length, HL.out, bitsL, HL.out]
      exact hO
end Go.Proofs.Ytclcgfngolfmlaa
