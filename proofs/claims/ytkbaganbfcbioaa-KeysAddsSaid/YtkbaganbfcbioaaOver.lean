/-
  over: ints are written over by their owner, and grown: only the row that holds them turns.
-/
import Derived.Test.YtkbaganbfcbioaaRingP
import Derived.Test.YtkbaganbfcbioaaByteAt
namespace Go.Proofs.Ytkbaganbfcbioaa
set_option linter.unusedSimpArgs false
set_option linter.unusedVariables false
open Go.RowKit

set_option maxHeartbeats 3200000 in
set_option maxRecDepth 100000 in
theorem over_ints (base : Nat) (A : Option Addr) (n c : Nat) (zs : List Int) (v : Int) (w : World) (hO : Own w base 3 1 A n c (ivs zs)) (hn : n ≤ 17592186044000) (hbase : base ≤ w.heap.size) :
    Calls Try.prog 26 #[.slice A n c, .int .i64 v] w fun e w' => e = .returned (.tuple #[]) ∧ w.grownBy w' (blk A) := by
  obtain ⟨i0, hi0, hz0, hz1, hz2⟩ := info_parts i64info
  go_enter Try.func26, Try.ntmps26
  go_wp2_with fail
  go_loopw [4] (fun i wr => ∃ (k : Nat) (ys : List Int), k ≤ n ∧ i = .int .i64 k ∧ Own wr base 3 1 A n c (ivs ys) ∧ w.grownBy wr (blk A)) (fun i _ => n - (intOf i).toNat)
  case atStart => exact ⟨0, zs, by omega, by simp, hO, World.grownBy.refl _ _⟩
  case round =>
    obtain ⟨k, ys, hk, rfl, hO', hg⟩ := hrel
    clear hO
    by_cases h5 : k < n
    · have h5i : (k : Int) < (n : Int) := by omega
      have hle := hO'.le
      obtain ⟨g, off, rfl, _, _⟩ := hO'.form (by omega)
      obtain ⟨x, hx, hc⟩ := hO'.intAt h5
      have hf := hO'.frozen (off + k)
      have Hx := Lib.hid hx
      clear hx
      go_wp2_with fail
      go_roundw
      case rel => exact ⟨k + 1, ys.set k v, by omega, by go_num, hO'.setI h5 _, grown_setCell (p := ⟨g, off + k, none⟩) hg (.inl rfl) _⟩
      case measure => simp [intOf]; omega
    · have h5i : ¬ (k : Int) < (n : Int) := by omega
      go_wp2_with fail
      go_loopw [0, 5] (fun av jv wr => ∃ (j : Nat) (A2 : Option Addr) (c2 : Nat) (ys : List Int), j ≤ 20 ∧ av = .slice A2 (n + j) c2 ∧ jv = .int .i64 (j : Int) ∧ Own wr base 3 1 A2 (n + j) c2 (ivs ys) ∧ w.grownBy wr (blk A) ∧ (blk A2 = blk A ∨ ∀ g, blk A2 = some g → w.heap.size ≤ g)) (fun _ jv _ => 20 - (intOf jv).toNat)
      case atStart => exact ⟨0, A, c, ys, by omega, rfl, rfl, hO', hg, .inl rfl⟩
      case round =>
        clear hO' hg h5 h5i hk
        obtain ⟨j, A2, c2, zs2, hj, rfl, rfl, hO, hg, hA⟩ := hrel
        by_cases h6 : j < 20
        · have h6i : (j : Int) < 20 := by omega
          have q4 : n + j + 1 ≤ maxLen := by unfold maxLen; omega
          have q5 : (n + j + 1) * 8 ≤ 140737488355328 := by omega
          have hbs : base ≤ (wr.alloc (.cells #[.int .i64 v] 3)).heap.size := by have := hg.size; simp; omega
          have hR := Rd_lit wr [.int .i64 v] 3
          have hOn := hO.alloc (.cells #[.int .i64 v] 3)
          go_wp2_with (at_builtin; refine wpList_append_Own (wr.alloc (.cells #[.int .i64 v] 3)) rfl (.tmp 20) (.tmp 22) 35 rfl base 3 i0 _ 1 8 Try.underlying35 hi0 hz0 hz1 hz2 rfl A2 (n + j) c2 (ivs zs2) rfl hOn _ 1 1 [.int .i64 v] rfl rfl hR (one_int _) q4 q5 hbs ?_; intro A' c' w1 hO1 hg1 hor)
          have hg2 : w.grownBy w1 (blk A) := grown_trans (grown_alloc hg _) hg1 (by
            rcases hA with h | h
            · exact .inl h
            · exact .inr h)
          go_roundw
          case rel =>
            refine ⟨j + 1, A', c', zs2 ++ [v], by omega, by rw [show n + (j + 1) = n + j + 1 by omega], by go_num, ?_, hg2, ?_⟩
            · rw [show n + (j + 1) = n + j + 1 by omega]
              rw [show ivs (zs2 ++ [v]) = ivs zs2 ++ [.int .i64 v] from by simp [ivs, iv]]
              exact hO1
            · rcases hor with h | h
              · rw [h]; exact hA
              · refine .inr (fun g e => ?_)
                rw [h] at e
                injection e with e
                have := hg.size
                simp at e
                omega
          case measure => simp [intOf]; omega
        · have h6i : ¬ (j : Int) < 20 := by omega
          go_wp2_with fail
          go_end0
          exact ⟨rfl, hg⟩
end Go.Proofs.Ytkbaganbfcbioaa
