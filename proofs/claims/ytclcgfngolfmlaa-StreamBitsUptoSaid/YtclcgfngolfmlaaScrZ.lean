/-
  The document's Scramble: of no bytes at all.
-/
import Derived.Test.YtclcgfngolfmlaaScrRef
namespace Go.Proofs.Ytclcgfngolfmlaa
set_option linter.unusedSimpArgs false
set_option linter.unusedVariables false
open Go.RowKit

set_option maxHeartbeats 3200000 in
set_option maxRecDepth 100000 in
theorem rscr_zero (A : Option Addr) (l : List UInt8) (n c : Nat) (w : World) (hl : l.length = n) (ha : Rd w A (bvs l)) (h0 : n = 0) :
    Calls Try.prog 25 #[.slice A n c] w fun e w' => RowsOut w w' (scrL l) e := by
  obtain ⟨i0, hi0, hz0, hz1, hz2⟩ := info_parts u8info
  have HL := Lib.hid hl
  have g1 : ¬ ((8 : Int) < 8 * (n : Int)) := by omega
  have g2 : ¬ ((0 : Int) < 8 * (n : Int)) := by omega
  have HE : Hid (scrL l = l) := by
    obtain rfl : l = [] := List.length_eq_zero_iff.1 (by omega)
    exact rfl
  have HN0 := Lib.hid h0
  clear hl h0
  go_enter Try.func25, Try.ntmps25
  go_wp2_with fail
  obtain ⟨W1, hW1⟩ : ∃ W : World, W = w.alloc (.cells #[.int .u8 1, .int .u8 1, .int .u8 1, .int .u8 1, .int .u8 1, .int .u8 1, .int .u8 1, .int .u8 1] 5) := ⟨_, rfl⟩
  have hB1 : Below w.heap.size w W1 := by rw [hW1]; exact (Below.refl _ _).alloc (Nat.le_refl _) _
  rw [← hW1]
  clear hW1
  go_loopw [3, 4] (fun o i wr => o = .slice (some ⟨w.heap.size, 0, none⟩) 8 8 ∧ i = .int .i64 8 ∧ wr = W1) (fun _ i _ => 8 - (intOf i).toNat)
  case atStart => exact ⟨by simp, by simp, by first | rfl | trivial⟩
  case round =>
    obtain ⟨rfl, rfl, rfl⟩ := hrel
    have haw := ha.below hB1
    have hs1 := hB1.size
    have q1 : Hid ((bvs l).length = n * 1) := by show _ = _; rw [bvs_length, HL.out]; omega
    have q2 : 0 + n ≤ maxLen := by unfold maxLen; have := HN0.out; omega
    have q3 : (0 + n) * 1 ≤ 140737488355328 := by have := HN0.out; omega
    go_wp2_with (at_builtin; refine wpList_append_Own _ rfl (.const (.slice none 0 0)) (.tmp 41) 22 rfl wr.heap.size 5 i0 _ 1 1 Try.underlying22 hi0 hz0 hz1 hz2 rfl none 0 0 [] rfl (Own.none_ _ _ _ _) A n c (bvs l) rfl q1.out haw (bvs_one _) q2 q3 (Nat.le_refl _) ?_; intro A2 c2 w2 hO2 hg2 hor2)
    have hb2 : Below wr.heap.size wr w2 := below_of_grown hg2
    have hB2 : Below w.heap.size w w2 := hB1.trans (hb2.mono hs1)
    have hO2' : Own w2 w.heap.size 5 1 A2 n c2 (bvs l) := by simpa using hO2.mono hs1
    clear hO2 hg2 hor2 hb2 haw q1 q2 q3
    go_loopw [6] (fun i wq => i = .int .i64 0 ∧ wq = w2) (fun i _ => 0)
    case atStart => exact ⟨by simp, by first | rfl | trivial⟩
    case round =>
      obtain ⟨rfl, rfl⟩ := hrel
      go_wp2
      first | go_ret | skip
      refine ⟨A2, c2, ?_, ?_, hB2⟩
      · rw [HE.out, HL.out]
        simp
      · rw [HE.out, HL.out]
        exact hO2'
end Go.Proofs.Ytclcgfngolfmlaa
