/-
  packet.Begin, packet.stands, and two joined that are the same.
-/
import Derived.Test.YtolcaolmdfbfhaaJoinP
import Derived.Test.YtolcaolmdfbfhaaSame
import Derived.Test.YtolcaolmdfbfhaaStep
import Derived.BigGuardPart
namespace Go.Proofs.Ytolcaolmdfbfhaa
set_option linter.unusedSimpArgs false
set_option linter.unusedVariables false
open Go.RowKit

set_option maxHeartbeats 1600000 in
set_option maxRecDepth 100000 in
theorem begin_any (a : Int) (w : World) :
    Calls Try.prog 46 #[.int .i64 a] w fun e w' => e = .returned (.tuple #[jnv (beginJ a).1 none 0, .int .i64 (beginJ a).2]) ∧ Below w.heap.size w w' := by
  by_cases h : 0 ≤ a ∧ a ≤ 2046
  · have e : beginJ a = (⟨a, -1, false, []⟩, 0) := by unfold beginJ; rw [if_pos h]
    rw [e]
    have d1 : decide (a < 0) = false := by simp; omega
    have d2 : decide (2047 ≤ a) = false := by simp; omega
    clear e
    obtain ⟨k0, k1, k2, k3, kf⟩ := (Blk.new w 70 #[.int .i64 a, .int .i64 (-1), .bool false, .slice none 0 0]).four
    go_enter Try.func46, Try.ntmps46
    go_wp2
    refine bodyPost_ret (v := .tuple #[.agg #[.int .i64 a, .int .i64 (-1), .bool false, .slice none 0 0], .int .i64 0]) (by simp [results, Try.results46, go_sem, k0, k1, k2, k3]) rfl ?_
    exact ⟨rfl, (by repeat (first | with_reducible exact Below.refl _ _ | with_reducible assumption | with_reducible refine below_drewN ?_ _ | with_reducible refine Below.drew ?_ | with_reducible refine Below.alloc ?_ ?_ _ | with_reducible refine Below.setCell ?_ ?_ _ | with_reducible exact Nat.le_refl _ | (simp; omega) | (simp; done)))⟩
  · have e : beginJ a = (.zero, 2) := by unfold beginJ; rw [if_neg h]
    rw [e]
    obtain ⟨k0, k1, k2, k3, kf⟩ := (Blk.new w 70 #[.int .i64 0, .int .i64 0, .bool false, .slice none 0 0]).four
    by_cases h1 : a < 0
    · have d1 : decide (a < 0) = true := by simp; omega
      clear e h
      go_enter Try.func46, Try.ntmps46
      go_wp2
      refine bodyPost_ret (v := .tuple #[.agg #[.int .i64 0, .int .i64 0, .bool false, .slice none 0 0], .int .i64 2]) (by simp [results, Try.results46, go_sem, k0, k1, k2, k3]) rfl ?_
      exact ⟨rfl, (by repeat (first | with_reducible exact Below.refl _ _ | with_reducible assumption | with_reducible refine below_drewN ?_ _ | with_reducible refine Below.drew ?_ | with_reducible refine Below.alloc ?_ ?_ _ | with_reducible refine Below.setCell ?_ ?_ _ | with_reducible exact Nat.le_refl _ | (simp; omega) | (simp; done)))⟩
    · have d1 : decide (a < 0) = false := by simp; omega
      have d2 : decide (2047 ≤ a) = true := by simp; omega
      clear e h
      go_enter Try.func46, Try.ntmps46
      go_wp2
      refine bodyPost_ret (v := .tuple #[.agg #[.int .i64 0, .int .i64 0, .bool false, .slice none 0 0], .int .i64 2]) (by simp [results, Try.results46, go_sem, k0, k1, k2, k3]) rfl ?_
      exact ⟨rfl, (by repeat (first | with_reducible exact Below.refl _ _ | with_reducible assumption | with_reducible refine below_drewN ?_ _ | with_reducible refine Below.drew ?_ | with_reducible refine Below.alloc ?_ ?_ _ | with_reducible refine Below.setCell ?_ ?_ _ | with_reducible exact Nat.le_refl _ | (simp; omega) | (simp; done)))⟩
end Go.Proofs.Ytolcaolmdfbfhaa
