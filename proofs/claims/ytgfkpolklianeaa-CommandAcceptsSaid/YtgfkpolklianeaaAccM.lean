/-
  What the methods of a gate at work do (calm, counted).
-/
import Derived.Test.YtgfkpolklianeaaGate5
import Derived.Test.YtgfkpolklianeaaStep
namespace Go.Proofs.Ytgfkpolklianeaa
set_option linter.unusedSimpArgs false
set_option linter.unusedVariables false
open Go.RowKit

theorem le_alloc (w : World) (o : Obj) : w.heap.size ≤ (w.alloc o).heap.size := by
  rw [World.alloc, Array.size_push]; omega
def gb (cr nx ha : Int) (sh wa ag : Bool) (co : Int) : Array Value := #[.int .i64 cr, .int .i64 nx, .int .i64 ha, .bool sh, .bool wa, .bool ag, .int .i64 co]

set_option maxHeartbeats 1600000 in
set_option maxRecDepth 100000 in
theorem calm_any (g : Nat) (cr nx ha : Int) (sh wa ag : Bool) (co : Int) (w : World) (hG : Blk w g 145 (gb cr nx ha sh wa ag co)) :
    Calls Try.prog 135 #[.pointer (some ⟨g, 0, none⟩)] w fun e w' => e = .returned (.tuple #[]) ∧ Blk w' g 145 (gb cr nx ha sh false false co) ∧ w.grownBy w' (some g) := by
  unfold gb at hG ⊢
  obtain ⟨x0, x1, x2, x3, x4, x5, x6, fx⟩ := hG.seven
  go_enter Try.func135, Try.ntmps135
  go_wp2
  go_end0
  refine ⟨rfl, ?_, ?_⟩
  · exact (hG.set_ 4 _).set_ 5 _
  · exact grown_setCell (p := ⟨g, 5, none⟩) (grown_setCell (p := ⟨g, 4, none⟩) (World.grownBy.refl _ _) (.inl rfl) _) (.inl rfl) _
theorem count_next {co : Int} (h : 0 ≤ co ∧ co ≤ 3) : bits .and .i64 (co + 1) 3 = (co + 1) % 4 := by
  obtain ⟨n, rfl⟩ := Int.eq_ofNat_of_zero_le h.1
  have e := and_two (x := n + 1) (by omega)
  rw [show ((n : Int) + 1) = ((n + 1 : Nat) : Int) from by omega, e]
  omega
set_option maxHeartbeats 1600000 in
set_option maxRecDepth 100000 in
theorem counted_any (g : Nat) (cr nx ha : Int) (sh wa ag : Bool) (co : Int) (w : World) (hG : Blk w g 145 (gb cr nx ha sh wa ag co)) (hc : 0 ≤ co ∧ co ≤ 3) :
    Calls Try.prog 119 #[.pointer (some ⟨g, 0, none⟩)] w fun e w' => e = .returned (.tuple #[]) ∧ Blk w' g 145 (gb cr nx ha sh wa ag ((co + 1) % 4)) ∧ w.grownBy w' (some g) := by
  unfold gb at hG ⊢
  obtain ⟨x0, x1, x2, x3, x4, x5, x6, fx⟩ := hG.seven
  have e := count_next hc
  obtain ⟨c0, c1⟩ := hc
  go_enter Try.func119, Try.ntmps119
  go_wp2
  go_end0
  refine ⟨rfl, ?_, ?_⟩
  · exact hG.set_ 6 _
  · exact grown_setCell (p := ⟨g, 6, none⟩) (World.grownBy.refl _ _) (.inl rfl) _
end Go.Proofs.Ytgfkpolklianeaa
