/-
  The program's Scramble.
-/
import Derived.Test.YtclcgfngolfmlaaBitsRef
import Derived.Test.YtclcgfngolfmlaaClone
import Derived.Test.YtclcgfngolfmlaaPolyP
namespace Go.Proofs.Ytclcgfngolfmlaa
set_option linter.unusedSimpArgs false
set_option linter.unusedVariables false
open Go.RowKit

theorem rowN_add (a : Nat) : ∀ j, rowN (a + (j + 1)) = rstep (rowN (a + j)) := fun _ => rfl
theorem step_prog (q : Nat) (h : q < 256) : bits .or .u8 ((q : Int) * 2 % 256) (bits .and .u8 (bits .xor .u8 (bits .xor .u8 (bits .xor .u8 (q : Int) ((q : Int) / 4)) ((q : Int) / 16)) ((q : Int) / 128)) 1) = (rstep q : Nat) := by
  have H : ∀ q : Fin 256, bits .or .u8 ((q.val : Int) * 2 % 256) (bits .and .u8 (bits .xor .u8 (bits .xor .u8 (bits .xor .u8 (q.val : Int) ((q.val : Int) / 4)) ((q.val : Int) / 16)) ((q.val : Int) / 128)) 1) = (rstep q.val : Nat) := by decide +kernel
  exact H ⟨q, h⟩
set_option maxHeartbeats 1600000 in
set_option maxRecDepth 100000 in
theorem scr_any (A : Option Addr) (l : List UInt8) (n c : Nat) (w : World) (hl : l.length = n) (ha : Rd w A (bvs l)) (hn : n ≤ 1048576) :
    Calls Try.prog 24 #[.slice A n c] w fun e w' => RowsOut w w' (scrL l) e := by
  have HL := Lib.hid hl
  go_enter Try.func24, Try.ntmps24
  go_wp2_with fail
  refine (clone_n A l n c w hl ha (by omega)).mono ?_
  rintro e w1 ⟨A1, c1, rfl, hO1, hB1⟩
  clear hl
  go_wp2_with fail
  go_loopw [4, 10] (fun r i wr => ∃ m : Nat, m ≤ n ∧ r = .int .u8 (rowN (8 * m) : Nat) ∧ i = .int .i64 m ∧ Own wr w.heap.size 5 1 A1 n c1 (bvs (scrM l m)) ∧ Below w.heap.size w wr) (fun _ i _ => n - (intOf i).toNat)
  case atStart => exact ⟨0, by omega, by simp [rowN], by simp, by rw [scrM_zero]; exact hO1, hB1⟩
  case round =>
    obtain ⟨m, hm, rfl, rfl, hO, hB⟩ := hrel
    clear hO1 hB1
    by_cases h5 : m < n
    · have h5i : (m : Int) < (n : Int) := by omega
      have HN := Lib.hid (scrM_succ (l := l) (m := m) (by rw [HL.out]; exact h5))
      have HA := Lib.hid (scrM_at (l := l) (m := m) (by rw [HL.out]; exact h5))
      have hr := rowN_lt (8 * m)
      have HJ := fun j => Lib.hid (rowN_add (8 * m) j)
      have HB := fun j => rowN_lt (8 * m + j)
      obtain ⟨b, off, rfl, hc⟩ := hO.rd.byteD (k := m) (by rw [scrM_length, HL.out]; exact h5)
      rw [HA.out] at hc
      have hf := hO.frozen (off + m)
      generalize l.getD m 0 = x at *
      have gx := byte_lt x
      have hx : bits .xor .u8 (x.toNat : Int) (rowN (8 * m) : Nat) = ((x ^^^ UInt8.ofNat (rowN (8 * m))).toNat : Int) := by
        rw [← xor_u8, UInt8.toNat_ofNat', Nat.mod_eq_of_lt hr]
      generalize x ^^^ UInt8.ofNat (rowN (8 * m)) = y at *
      go_wp2_with fail
      go_loop [4, 20] (fun r i => ∃ j : Nat, j ≤ 8 ∧ i = .int .i64 j ∧ r = .int .u8 (rowN (8 * m + j) : Nat)) (fun _ i => 8 - (intOf i).toNat)
      case atStart => exact ⟨0, by omega, by simp, by simp⟩
      case round =>
        obtain ⟨j, hj, rfl, rfl⟩ := hrel
        by_cases h8 : j < 8
        · replace HJ := HJ j
          have hlt := HB j
          clear HB
          generalize rowN (8 * m + j) = q at *
          have hS := step_prog q hlt
          go_wp2
          go_round
          case rel => exact ⟨j + 1, by omega, by go_num, by rw [HJ.out]⟩
          case measure => simp [intOf]; omega
        · obtain rfl : j = 8 := by omega
          go_wp2
          go_roundw
          case rel =>
            refine ⟨m + 1, by omega, by rw [Nat.mul_add], by go_num, ?_, Below.setCell (p := ⟨b, off + m, none⟩) hB (hO.lt b rfl).1 _⟩
            rw [HN.out]
            exact hO.setB (k := m) h5 _
          case measure => simp [intOf]; omega
    · obtain rfl : m = n := by omega
      go_wp2
      go_ret
      refine ⟨A1, c1, by rw [scrL, scrM_length, HL.out]; simp, ?_, hB⟩
      rw [scrL, scrM_length, HL.out]
      exact hO
end Go.Proofs.Ytclcgfngolfmlaa
