import Derived.Test.YtgfkpolklianeaaReady
import Derived.Test.YtgfkpolklianeaaSameHand
import Derived.Deep.DeepCutAuto
namespace Go.Proofs.Ytgfkpolklianeaa
set_option linter.unusedSimpArgs false
set_option linter.unusedVariables false
open Go.RowKit

def handOf5 (cr ah pa pu li : Int) : Hnd := ⟨cr, 0, ah, [], [], 0, pa, 0, li, pu, pu, 0⟩
/-- The hand and the error that come of five numbers. -/
theorem readied_both (cr ah pa pu li : Int) : ∃ (h : Hnd) (k : Int), h.sent = [] ∧ h.asked = [] ∧
    (∀ w, Calls Try.prog 17 #[.int .i64 cr, .int .i64 ah, .int .i64 pa, .int .i64 pu, .int .i64 li] w fun e w' => e = .returned (.tuple #[hdv h none 0 none 0, .int .i64 k]) ∧ Below w.heap.size w w') ∧
    (∀ w, Calls Try.prog 18 #[.int .i64 cr, .int .i64 ah, .int .i64 pa, .int .i64 pu, .int .i64 li] w fun e w' => e = .returned (.tuple #[hdv h none 0 none 0, .int .i64 k]) ∧ Below w.heap.size w w') := by
  by_cases h : rdOk cr ah pa pu li
  · exact ⟨handOf5 cr ah pa pu li, 0, rfl, rfl, fun w => readied_yes cr ah pa pu li w h, fun w => ready_yes cr ah pa pu li w h⟩
  · exact ⟨.zero, 2, rfl, rfl, fun w => readied_no cr ah pa pu li w h, fun w => ready_no cr ah pa pu li w h⟩

set_option maxHeartbeats 1600000 in
set_option maxRecDepth 100000 in
theorem commandReadies_walk (cr ah pa pu li : Int) (w : World) (h0 : (Lit.int .i64 cr).wf = true) (h1 : (Lit.int .i64 ah).wf = true) (h2 : (Lit.int .i64 pa).wf = true) (h3 : (Lit.int .i64 pu).wf = true) (h4 : (Lit.int .i64 li).wf = true) :
    Calls Try.prog 3 #[.int .i64 cr, .int .i64 ah, .int .i64 pa, .int .i64 pu, .int .i64 li] w fun e w' => e = .returned (.bool true) ∧ Below w.heap.size w w' := by
  obtain ⟨⟨a0, a1, a2, s, q, a5, a6, a7, a8, a9, a10, a11⟩, k, rfl, rfl, c1, c2⟩ := readied_both cr ah pa pu li
  have C1 := Lib.hid c1
  have C2 := Lib.hid c2
  clear c1 c2
  clear h0 h1 h2 h3 h4
  go_enter Try.func3, Try.ntmps3
  go_wp2_with fail
  refine (C1.out _).mono ?_
  rintro e w1 ⟨rfl, hb1⟩
  unfold hdv
  go_wp2_with fail
  obtain ⟨W1, hW1⟩ : ∃ W : World, W = (w1.alloc (.cells #[.int .i64 a0, .int .i64 a1, .int .i64 a2, .slice none 0 0, .slice none 0 0, .int .i64 a5, .int .i64 a6, .int .i64 a7, .int .i64 a8, .int .i64 a9, .int .i64 a10, .int .i64 a11] 25)) := ⟨_, rfl⟩
  have hB1 : Below w.heap.size w W1 := by rw [hW1]; exact hb1.alloc hb1.size _
  have hK1 : Blk W1 w1.heap.size 25 #[.int .i64 a0, .int .i64 a1, .int .i64 a2, .slice none 0 0, .slice none 0 0, .int .i64 a5, .int .i64 a6, .int .i64 a7, .int .i64 a8, .int .i64 a9, .int .i64 a10, .int .i64 a11] := by rw [hW1]; exact Blk.new _ _ _
  rw [← hW1]
  clear hW1
  refine (C2.out _).mono ?_
  rintro e w2 ⟨rfl, hb2⟩
  have hK2 := hK1.below' hb2
  have hB2 : Below w.heap.size w w2 := hB1.trans (hb2.mono hB1.size)
  unfold hdv
  go_upto_region 3 with fail
  obtain ⟨W2, hW2⟩ : ∃ W : World, W = (w2.alloc (.cells #[.int .i64 a0, .int .i64 a1, .int .i64 a2, .slice none 0 0, .slice none 0 0, .int .i64 a5, .int .i64 a6, .int .i64 a7, .int .i64 a8, .int .i64 a9, .int .i64 a10, .int .i64 a11] 25)) := ⟨_, rfl⟩
  rw [← hW2]
  have hB3 : Below w.heap.size w W2 := by rw [hW2]; exact hB2.alloc hB2.size _
  have hK3 : Blk W2 w2.heap.size 25 #[.int .i64 a0, .int .i64 a1, .int .i64 a2, .slice none 0 0, .slice none 0 0, .int .i64 a5, .int .i64 a6, .int .i64 a7, .int .i64 a8, .int .i64 a9, .int .i64 a10, .int .i64 a11] := by rw [hW2]; exact Blk.new _ _ _
  have hK4 := hK2.alloc (.cells #[.int .i64 a0, .int .i64 a1, .int .i64 a2, .slice none 0 0, .slice none 0 0, .int .i64 a5, .int .i64 a6, .int .i64 a7, .int .i64 a8, .int .i64 a9, .int .i64 a10, .int .i64 a11] 25)
  rw [← hW2] at hK4
  clear hW2
  obtain ⟨x0, x1, x2, x3, x4, x5, x6, x7, x8, x9, x10, x11, fx⟩ := hK3.twelve
  obtain ⟨y0, y1, y2, y3, y4, y5, y6, y7, y8, y9, y10, y11, fy⟩ := hK4.twelve
  go_wp2_with fail
  refine (sameHand_yes ⟨a0, a1, a2, [], [], a5, a6, a7, a8, a9, a10, a11⟩ none 0 none 0 none 0 none 0 _ (RdRows.nil _ _) (RdRows.nil _ _) (RdRows.nil _ _) (RdRows.nil _ _) (by simp) (by simp)).mono ?_
  rintro e w3 ⟨rfl, hb3⟩
  go_wp2
  go_ret
  exact ⟨rfl, hB3.trans (hb3.mono hB3.size)⟩
end Go.Proofs.Ytgfkpolklianeaa
