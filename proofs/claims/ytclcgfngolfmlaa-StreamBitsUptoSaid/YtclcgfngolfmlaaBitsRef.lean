/-
  The document's Bits.
-/
import Derived.Test.YtclcgfngolfmlaaScrP
import Derived.Test.YtclcgfngolfmlaaStep
import Derived.Test.YtclcgfngolfmlaaRes
import Derived.Test.YtclcgfngolfmlaaByteAt
import Derived.Deep.RegionHeld3
import Derived.Deep.DeepCutAuto
namespace Go.Proofs.Ytclcgfngolfmlaa
set_option linter.unusedSimpArgs false
set_option linter.unusedVariables false
open Go.RowKit

theorem le_alloc8 (w : World) (o : Obj) : w.heap.size ≤ (w.alloc o).heap.size := by
  rw [World.alloc, Array.size_push]; omega
theorem bit_val (x : UInt8) (j : Nat) (h : j < 8) : bits .and .u8 ((x.toNat : Int) / 2 ^ (7 - j)) 1 = ((bitAt x j).toNat : Int) := by
  rw [int_pow2, bitAt_nat]
  have hx := byte_lt x
  have e : ((x.toNat : Int) / ((2 ^ (7 - j) : Nat) : Int)) = ((x.toNat / 2 ^ (7 - j) : Nat) : Int) := rfl
  have hd : x.toNat / 2 ^ (7 - j) ≤ x.toNat := Nat.div_le_self _ _
  rw [e, show (1 : Int) = ((1 : Nat) : Int) from rfl, u8_and_nat _ _ (by omega) (by decide), Nat.and_one_is_mod]

set_option maxHeartbeats 1600000 in
set_option maxRecDepth 100000 in
theorem rbits_any (A : Option Addr) (l : List UInt8) (n c : Nat) (w : World) (hl : l.length = n) (ha : Rd w A (bvs l)) (hn : n ≤ 1048576) :
    Calls Try.prog 27 #[.slice A n c] w fun e w' => RowsOut w w' (bitsL l) e := by
  obtain ⟨i0, hi0, hz0, hz1, hz2⟩ := info_parts u8info
  have HL := Lib.hid hl
  clear hl
  go_enter Try.func27, Try.ntmps27
  go_wp2_with fail
  go_loopw [3, 4] (fun o i wr => ∃ (k : Nat) (A1 : Option Addr) (c1 : Nat), k ≤ 8 * n ∧ o = .slice A1 k c1 ∧ i = .int .i64 k ∧ Own wr w.heap.size 5 1 A1 k c1 (bvs (bitsN l k)) ∧ Below w.heap.size w wr) (fun _ i _ => 8 * n - (intOf i).toNat)
  case atStart => exact ⟨0, none, 0, by omega, by simp, by simp, Own.none_ _ _ _ _, Below.refl _ _⟩
  case round =>
    obtain ⟨k, A1, c1, hk, rfl, rfl, hO, hB⟩ := hrel
    by_cases h5 : k < 8 * n
    · have h5i : (k : Int) < 8 * (n : Int) := by omega
      obtain ⟨b, off, rfl, hc⟩ := (ha.below hB).byteD (k := k / 8) (by rw [HL.out]; omega)
      have HN := Lib.hid (bitsN_succ l k)
      have HV := bit_val (l.getD (k / 8) 0) (k % 8) (by omega)
      generalize l.getD (k / 8) 0 = x at *
      have gx := byte_lt x
      have q2 : k + 1 ≤ maxLen := by unfold maxLen; omega
      have q3 : (k + 1) * 1 ≤ 140737488355328 := by omega
      have t3 : ((k : Int) / 8).toNat = k / 8 := by omega
      have t4 : (0 : Int) ≤ (k : Int) / 8 := by omega
      have t5 : (k : Int) / 8 < (n : Int) := by omega
      have t6 : ((7 : Int) - (k : Int) % 8).toNat = 7 - k % 8 := by omega
      have t7 : (0 : Int) ≤ (7 : Int) - (k : Int) % 8 := by omega
      have t8 : (7 : Int) - (k : Int) % 8 < 8 := by omega
      have q4 : w.heap.size ≤ (wr.alloc (.cells #[.int .u8 ((bitAt x (k % 8)).toNat : Int)] 5)).heap.size := Nat.le_trans hB.size (by rw [World.alloc, Array.size_push]; omega)
      have hRd : Rd (wr.alloc (.cells #[.int .u8 ((bitAt x (k % 8)).toNat : Int)] 5)) (some ⟨wr.heap.size, 0, none⟩) [.int .u8 ((bitAt x (k % 8)).toNat : Int)] := Rd.of_block (heap_alloc_new wr _) (fun i u h => by simpa using h)
      go_wp2_with (at_builtin; refine wpList_append_Own _ rfl (.tmp 12) (.tmp 23) 22 rfl w.heap.size 5 i0 _ 1 1 Try.underlying22 hi0 hz0 hz1 hz2 rfl A1 k c1 (bvs (bitsN l k)) (by simp [Act.eval, Act.put]) (hO.alloc _) (some ⟨wr.heap.size, 0, none⟩) 1 1 [.int .u8 ((bitAt x (k % 8)).toNat : Int)] (by simp [Act.eval, Act.put]) rfl hRd (fun u hu => by simp at hu; subst hu; rfl) q2 q3 q4 ?_; intro A' c' w1 hO1 hg1 hor)
      go_roundw
      case rel =>
        refine ⟨k + 1, A', c', by omega, rfl, by go_num, ?_, (hB.alloc hB.size _).grown hg1 (Nat.le_trans hB.size (le_alloc8 _ _)) (fun q hq => (hO.lt q hq).1)⟩
        rw [HN.out]
        have e : bvs (bitsN l k ++ [bitAt x (k % 8)]) = bvs (bitsN l k) ++ [.int .u8 ((bitAt x (k % 8)).toNat : Int)] := by simp [bvs, bv]
        rw [e]
        exact hO1
      case measure => simp [intOf]; omega
    · obtain rfl : k = 8 * n := by omega
      go_wp2
      go_ret
      refine ⟨A1, c1, by rw [bitsL_length, HL.out]; simp, ?_, hB⟩
      rw [bitsL_length, HL.out, bitsL, HL.out]
      exact hO
end Go.Proofs.Ytclcgfngolfmlaa
