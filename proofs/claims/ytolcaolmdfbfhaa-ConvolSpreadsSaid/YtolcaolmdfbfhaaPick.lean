/-
  The program's patterns: which symbols are kept.
-/
import Derived.Test.YtolcaolmdfbfhaaKept
import Derived.Deep.RegionHeld3
import Derived.Laws.StructEq
namespace Go.Proofs.Ytolcaolmdfbfhaa
set_option linter.unusedSimpArgs false
set_option linter.unusedVariables false
open Go.RowKit

/-- A rate's pattern as the model's value. -/
def patV : Nat → Value
  | 1 => .agg #[.string { data := #[49] }, .string { data := #[49] }]
  | 2 => .agg #[.string { data := #[49, 48] }, .string { data := #[49, 49] }]
  | 3 => .agg #[.string { data := #[49, 48, 49] }, .string { data := #[49, 49, 48] }]
  | 4 => .agg #[.string { data := #[49, 48, 49, 48, 49] }, .string { data := #[49, 49, 48, 49, 48] }]
  | 5 => .agg #[.string { data := #[49, 48, 48, 48, 49, 48, 49] }, .string { data := #[49, 49, 49, 49, 48, 49, 48] }]
  | _ => .agg #[.string { data := #[] }, .string { data := #[] }]
set_option maxHeartbeats 1600000 in
set_option maxRecDepth 100000 in
theorem at_1_0 (i : Nat) (w : World) (h : i % 1 = 0) (hi : i ≤ 4611686018427387904) :
    Calls Try.prog 82 #[patV 1, .int .i64 (i : Int)] w fun e w' => e = .returned (.tuple #[.bool (keptP 1 i false), .bool (keptP 1 i true)]) ∧ Below w.heap.size w w' := by
  have hN : (i : Int) % 1 = 0 := by omega
  have e1 := kept_at 1 i 0 false _ rfl h
  have e2 := kept_at 1 i 0 true _ rfl h
  rw [e1, e2]
  clear e1 e2
  unfold patV
  go_enter Try.func82, Try.ntmps82
  go_wp2_with fail
  go_quiet (fail)
  go_wp2
  go_ret2
  exact ⟨rfl, (by repeat (first | with_reducible exact Below.refl _ _ | with_reducible assumption | with_reducible refine below_drewN ?_ _ | with_reducible refine Below.drew ?_ | with_reducible refine Below.alloc ?_ ?_ _ | with_reducible refine Below.setCell ?_ ?_ _ | with_reducible exact Nat.le_refl _ | (simp; omega) | (simp; done)))⟩
set_option maxHeartbeats 1600000 in
set_option maxRecDepth 100000 in
theorem at_2_0 (i : Nat) (w : World) (h : i % 2 = 0) (hi : i ≤ 4611686018427387904) :
    Calls Try.prog 82 #[patV 2, .int .i64 (i : Int)] w fun e w' => e = .returned (.tuple #[.bool (keptP 2 i false), .bool (keptP 2 i true)]) ∧ Below w.heap.size w w' := by
  have hN : (i : Int) % 2 = 0 := by omega
  have e1 := kept_at 2 i 0 false _ rfl h
  have e2 := kept_at 2 i 0 true _ rfl h
  rw [e1, e2]
  clear e1 e2
  unfold patV
  go_enter Try.func82, Try.ntmps82
  go_wp2_with fail
  go_quiet (fail)
  go_wp2
  go_ret2
  exact ⟨rfl, (by repeat (first | with_reducible exact Below.refl _ _ | with_reducible assumption | with_reducible refine below_drewN ?_ _ | with_reducible refine Below.drew ?_ | with_reducible refine Below.alloc ?_ ?_ _ | with_reducible refine Below.setCell ?_ ?_ _ | with_reducible exact Nat.le_refl _ | (simp; omega) | (simp; done)))⟩
set_option maxHeartbeats 1600000 in
set_option maxRecDepth 100000 in
theorem at_2_1 (i : Nat) (w : World) (h : i % 2 = 1) (hi : i ≤ 4611686018427387904) :
    Calls Try.prog 82 #[patV 2, .int .i64 (i : Int)] w fun e w' => e = .returned (.tuple #[.bool (keptP 2 i false), .bool (keptP 2 i true)]) ∧ Below w.heap.size w w' := by
  have hN : (i : Int) % 2 = 1 := by omega
  have e1 := kept_at 2 i 1 false _ rfl h
  have e2 := kept_at 2 i 1 true _ rfl h
  rw [e1, e2]
  clear e1 e2
  unfold patV
  go_enter Try.func82, Try.ntmps82
  go_wp2_with fail
  go_quiet (fail)
  go_wp2
  go_ret2
  exact ⟨rfl, (by repeat (first | with_reducible exact Below.refl _ _ | with_reducible assumption | with_reducible refine below_drewN ?_ _ | with_reducible refine Below.drew ?_ | with_reducible refine Below.alloc ?_ ?_ _ | with_reducible refine Below.setCell ?_ ?_ _ | with_reducible exact Nat.le_refl _ | (simp; omega) | (simp; done)))⟩
set_option maxHeartbeats 1600000 in
set_option maxRecDepth 100000 in
theorem at_3_0 (i : Nat) (w : World) (h : i % 3 = 0) (hi : i ≤ 4611686018427387904) :
    Calls Try.prog 82 #[patV 3, .int .i64 (i : Int)] w fun e w' => e = .returned (.tuple #[.bool (keptP 3 i false), .bool (keptP 3 i true)]) ∧ Below w.heap.size w w' := by
  have hN : (i : Int) % 3 = 0 := by omega
  have e1 := kept_at 3 i 0 false _ rfl h
  have e2 := kept_at 3 i 0 true _ rfl h
  rw [e1, e2]
  clear e1 e2
  unfold patV
  go_enter Try.func82, Try.ntmps82
  go_wp2_with fail
  go_quiet (fail)
  go_wp2
  go_ret2
  exact ⟨rfl, (by repeat (first | with_reducible exact Below.refl _ _ | with_reducible assumption | with_reducible refine below_drewN ?_ _ | with_reducible refine Below.drew ?_ | with_reducible refine Below.alloc ?_ ?_ _ | with_reducible refine Below.setCell ?_ ?_ _ | with_reducible exact Nat.le_refl _ | (simp; omega) | (simp; done)))⟩
set_option maxHeartbeats 1600000 in
set_option maxRecDepth 100000 in
theorem at_3_1 (i : Nat) (w : World) (h : i % 3 = 1) (hi : i ≤ 4611686018427387904) :
    Calls Try.prog 82 #[patV 3, .int .i64 (i : Int)] w fun e w' => e = .returned (.tuple #[.bool (keptP 3 i false), .bool (keptP 3 i true)]) ∧ Below w.heap.size w w' := by
  have hN : (i : Int) % 3 = 1 := by omega
  have e1 := kept_at 3 i 1 false _ rfl h
  have e2 := kept_at 3 i 1 true _ rfl h
  rw [e1, e2]
  clear e1 e2
  unfold patV
  go_enter Try.func82, Try.ntmps82
  go_wp2_with fail
  go_quiet (fail)
  go_wp2
  go_ret2
  exact ⟨rfl, (by repeat (first | with_reducible exact Below.refl _ _ | with_reducible assumption | with_reducible refine below_drewN ?_ _ | with_reducible refine Below.drew ?_ | with_reducible refine Below.alloc ?_ ?_ _ | with_reducible refine Below.setCell ?_ ?_ _ | with_reducible exact Nat.le_refl _ | (simp; omega) | (simp; done)))⟩
set_option maxHeartbeats 1600000 in
set_option maxRecDepth 100000 in
theorem at_3_2 (i : Nat) (w : World) (h : i % 3 = 2) (hi : i ≤ 4611686018427387904) :
    Calls Try.prog 82 #[patV 3, .int .i64 (i : Int)] w fun e w' => e = .returned (.tuple #[.bool (keptP 3 i false), .bool (keptP 3 i true)]) ∧ Below w.heap.size w w' := by
  have hN : (i : Int) % 3 = 2 := by omega
  have e1 := kept_at 3 i 2 false _ rfl h
  have e2 := kept_at 3 i 2 true _ rfl h
  rw [e1, e2]
  clear e1 e2
  unfold patV
  go_enter Try.func82, Try.ntmps82
  go_wp2_with fail
  go_quiet (fail)
  go_wp2
  go_ret2
  exact ⟨rfl, (by repeat (first | with_reducible exact Below.refl _ _ | with_reducible assumption | with_reducible refine below_drewN ?_ _ | with_reducible refine Below.drew ?_ | with_reducible refine Below.alloc ?_ ?_ _ | with_reducible refine Below.setCell ?_ ?_ _ | with_reducible exact Nat.le_refl _ | (simp; omega) | (simp; done)))⟩
set_option maxHeartbeats 1600000 in
set_option maxRecDepth 100000 in
theorem at_4_0 (i : Nat) (w : World) (h : i % 5 = 0) (hi : i ≤ 4611686018427387904) :
    Calls Try.prog 82 #[patV 4, .int .i64 (i : Int)] w fun e w' => e = .returned (.tuple #[.bool (keptP 4 i false), .bool (keptP 4 i true)]) ∧ Below w.heap.size w w' := by
  have hN : (i : Int) % 5 = 0 := by omega
  have e1 := kept_at 4 i 0 false _ rfl h
  have e2 := kept_at 4 i 0 true _ rfl h
  rw [e1, e2]
  clear e1 e2
  unfold patV
  go_enter Try.func82, Try.ntmps82
  go_wp2_with fail
  go_quiet (fail)
  go_wp2
  go_ret2
  exact ⟨rfl, (by repeat (first | with_reducible exact Below.refl _ _ | with_reducible assumption | with_reducible refine below_drewN ?_ _ | with_reducible refine Below.drew ?_ | with_reducible refine Below.alloc ?_ ?_ _ | with_reducible refine Below.setCell ?_ ?_ _ | with_reducible exact Nat.le_refl _ | (simp; omega) | (simp; done)))⟩
set_option maxHeartbeats 1600000 in
set_option maxRecDepth 100000 in
theorem at_4_1 (i : Nat) (w : World) (h : i % 5 = 1) (hi : i ≤ 4611686018427387904) :
    Calls Try.prog 82 #[patV 4, .int .i64 (i : Int)] w fun e w' => e = .returned (.tuple #[.bool (keptP 4 i false), .bool (keptP 4 i true)]) ∧ Below w.heap.size w w' := by
  have hN : (i : Int) % 5 = 1 := by omega
  have e1 := kept_at 4 i 1 false _ rfl h
  have e2 := kept_at 4 i 1 true _ rfl h
  rw [e1, e2]
  clear e1 e2
  unfold patV
  go_enter Try.func82, Try.ntmps82
  go_wp2_with fail
  go_quiet (fail)
  go_wp2
  go_ret2
  exact ⟨rfl, (by repeat (first | with_reducible exact Below.refl _ _ | with_reducible assumption | with_reducible refine below_drewN ?_ _ | with_reducible refine Below.drew ?_ | with_reducible refine Below.alloc ?_ ?_ _ | with_reducible refine Below.setCell ?_ ?_ _ | with_reducible exact Nat.le_refl _ | (simp; omega) | (simp; done)))⟩
set_option maxHeartbeats 1600000 in
set_option maxRecDepth 100000 in
theorem at_4_2 (i : Nat) (w : World) (h : i % 5 = 2) (hi : i ≤ 4611686018427387904) :
    Calls Try.prog 82 #[patV 4, .int .i64 (i : Int)] w fun e w' => e = .returned (.tuple #[.bool (keptP 4 i false), .bool (keptP 4 i true)]) ∧ Below w.heap.size w w' := by
  have hN : (i : Int) % 5 = 2 := by omega
  have e1 := kept_at 4 i 2 false _ rfl h
  have e2 := kept_at 4 i 2 true _ rfl h
  rw [e1, e2]
  clear e1 e2
  unfold patV
  go_enter Try.func82, Try.ntmps82
  go_wp2_with fail
  go_quiet (fail)
  go_wp2
  go_ret2
  exact ⟨rfl, (by repeat (first | with_reducible exact Below.refl _ _ | with_reducible assumption | with_reducible refine below_drewN ?_ _ | with_reducible refine Below.drew ?_ | with_reducible refine Below.alloc ?_ ?_ _ | with_reducible refine Below.setCell ?_ ?_ _ | with_reducible exact Nat.le_refl _ | (simp; omega) | (simp; done)))⟩
set_option maxHeartbeats 1600000 in
set_option maxRecDepth 100000 in
theorem at_4_3 (i : Nat) (w : World) (h : i % 5 = 3) (hi : i ≤ 4611686018427387904) :
    Calls Try.prog 82 #[patV 4, .int .i64 (i : Int)] w fun e w' => e = .returned (.tuple #[.bool (keptP 4 i false), .bool (keptP 4 i true)]) ∧ Below w.heap.size w w' := by
  have hN : (i : Int) % 5 = 3 := by omega
  have e1 := kept_at 4 i 3 false _ rfl h
  have e2 := kept_at 4 i 3 true _ rfl h
  rw [e1, e2]
  clear e1 e2
  unfold patV
  go_enter Try.func82, Try.ntmps82
  go_wp2_with fail
  go_quiet (fail)
  go_wp2
  go_ret2
  exact ⟨rfl, (by repeat (first | with_reducible exact Below.refl _ _ | with_reducible assumption | with_reducible refine below_drewN ?_ _ | with_reducible refine Below.drew ?_ | with_reducible refine Below.alloc ?_ ?_ _ | with_reducible refine Below.setCell ?_ ?_ _ | with_reducible exact Nat.le_refl _ | (simp; omega) | (simp; done)))⟩
set_option maxHeartbeats 1600000 in
set_option maxRecDepth 100000 in
theorem at_4_4 (i : Nat) (w : World) (h : i % 5 = 4) (hi : i ≤ 4611686018427387904) :
    Calls Try.prog 82 #[patV 4, .int .i64 (i : Int)] w fun e w' => e = .returned (.tuple #[.bool (keptP 4 i false), .bool (keptP 4 i true)]) ∧ Below w.heap.size w w' := by
  have hN : (i : Int) % 5 = 4 := by omega
  have e1 := kept_at 4 i 4 false _ rfl h
  have e2 := kept_at 4 i 4 true _ rfl h
  rw [e1, e2]
  clear e1 e2
  unfold patV
  go_enter Try.func82, Try.ntmps82
  go_wp2_with fail
  go_quiet (fail)
  go_wp2
  go_ret2
  exact ⟨rfl, (by repeat (first | with_reducible exact Below.refl _ _ | with_reducible assumption | with_reducible refine below_drewN ?_ _ | with_reducible refine Below.drew ?_ | with_reducible refine Below.alloc ?_ ?_ _ | with_reducible refine Below.setCell ?_ ?_ _ | with_reducible exact Nat.le_refl _ | (simp; omega) | (simp; done)))⟩
set_option maxHeartbeats 1600000 in
set_option maxRecDepth 100000 in
theorem at_5_0 (i : Nat) (w : World) (h : i % 7 = 0) (hi : i ≤ 4611686018427387904) :
    Calls Try.prog 82 #[patV 5, .int .i64 (i : Int)] w fun e w' => e = .returned (.tuple #[.bool (keptP 5 i false), .bool (keptP 5 i true)]) ∧ Below w.heap.size w w' := by
  have hN : (i : Int) % 7 = 0 := by omega
  have e1 := kept_at 5 i 0 false _ rfl h
  have e2 := kept_at 5 i 0 true _ rfl h
  rw [e1, e2]
  clear e1 e2
  unfold patV
  go_enter Try.func82, Try.ntmps82
  go_wp2_with fail
  go_quiet (fail)
  go_wp2
  go_ret2
  exact ⟨rfl, (by repeat (first | with_reducible exact Below.refl _ _ | with_reducible assumption | with_reducible refine below_drewN ?_ _ | with_reducible refine Below.drew ?_ | with_reducible refine Below.alloc ?_ ?_ _ | with_reducible refine Below.setCell ?_ ?_ _ | with_reducible exact Nat.le_refl _ | (simp; omega) | (simp; done)))⟩
set_option maxHeartbeats 1600000 in
set_option maxRecDepth 100000 in
theorem at_5_1 (i : Nat) (w : World) (h : i % 7 = 1) (hi : i ≤ 4611686018427387904) :
    Calls Try.prog 82 #[patV 5, .int .i64 (i : Int)] w fun e w' => e = .returned (.tuple #[.bool (keptP 5 i false), .bool (keptP 5 i true)]) ∧ Below w.heap.size w w' := by
  have hN : (i : Int) % 7 = 1 := by omega
  have e1 := kept_at 5 i 1 false _ rfl h
  have e2 := kept_at 5 i 1 true _ rfl h
  rw [e1, e2]
  clear e1 e2
  unfold patV
  go_enter Try.func82, Try.ntmps82
  go_wp2_with fail
  go_quiet (fail)
  go_wp2
  go_ret2
  exact ⟨rfl, (by repeat (first | with_reducible exact Below.refl _ _ | with_reducible assumption | with_reducible refine below_drewN ?_ _ | with_reducible refine Below.drew ?_ | with_reducible refine Below.alloc ?_ ?_ _ | with_reducible refine Below.setCell ?_ ?_ _ | with_reducible exact Nat.le_refl _ | (simp; omega) | (simp; done)))⟩
set_option maxHeartbeats 1600000 in
set_option maxRecDepth 100000 in
theorem at_5_2 (i : Nat) (w : World) (h : i % 7 = 2) (hi : i ≤ 4611686018427387904) :
    Calls Try.prog 82 #[patV 5, .int .i64 (i : Int)] w fun e w' => e = .returned (.tuple #[.bool (keptP 5 i false), .bool (keptP 5 i true)]) ∧ Below w.heap.size w w' := by
  have hN : (i : Int) % 7 = 2 := by omega
  have e1 := kept_at 5 i 2 false _ rfl h
  have e2 := kept_at 5 i 2 true _ rfl h
  rw [e1, e2]
  clear e1 e2
  unfold patV
  go_enter Try.func82, Try.ntmps82
  go_wp2_with fail
  go_quiet (fail)
  go_wp2
  go_ret2
  exact ⟨rfl, (by repeat (first | with_reducible exact Below.refl _ _ | with_reducible assumption | with_reducible refine below_drewN ?_ _ | with_reducible refine Below.drew ?_ | with_reducible refine Below.alloc ?_ ?_ _ | with_reducible refine Below.setCell ?_ ?_ _ | with_reducible exact Nat.le_refl _ | (simp; omega) | (simp; done)))⟩
set_option maxHeartbeats 1600000 in
set_option maxRecDepth 100000 in
theorem at_5_3 (i : Nat) (w : World) (h : i % 7 = 3) (hi : i ≤ 4611686018427387904) :
    Calls Try.prog 82 #[patV 5, .int .i64 (i : Int)] w fun e w' => e = .returned (.tuple #[.bool (keptP 5 i false), .bool (keptP 5 i true)]) ∧ Below w.heap.size w w' := by
  have hN : (i : Int) % 7 = 3 := by omega
  have e1 := kept_at 5 i 3 false _ rfl h
  have e2 := kept_at 5 i 3 true _ rfl h
  rw [e1, e2]
  clear e1 e2
  unfold patV
  go_enter Try.func82, Try.ntmps82
  go_wp2_with fail
  go_quiet (fail)
  go_wp2
  go_ret2
  exact ⟨rfl, (by repeat (first | with_reducible exact Below.refl _ _ | with_reducible assumption | with_reducible refine below_drewN ?_ _ | with_reducible refine Below.drew ?_ | with_reducible refine Below.alloc ?_ ?_ _ | with_reducible refine Below.setCell ?_ ?_ _ | with_reducible exact Nat.le_refl _ | (simp; omega) | (simp; done)))⟩
set_option maxHeartbeats 1600000 in
set_option maxRecDepth 100000 in
theorem at_5_4 (i : Nat) (w : World) (h : i % 7 = 4) (hi : i ≤ 4611686018427387904) :
    Calls Try.prog 82 #[patV 5, .int .i64 (i : Int)] w fun e w' => e = .returned (.tuple #[.bool (keptP 5 i false), .bool (keptP 5 i true)]) ∧ Below w.heap.size w w' := by
  have hN : (i : Int) % 7 = 4 := by omega
  have e1 := kept_at 5 i 4 false _ rfl h
  have e2 := kept_at 5 i 4 true _ rfl h
  rw [e1, e2]
  clear e1 e2
  unfold patV
  go_enter Try.func82, Try.ntmps82
  go_wp2_with fail
  go_quiet (fail)
  go_wp2
  go_ret2
  exact ⟨rfl, (by repeat (first | with_reducible exact Below.refl _ _ | with_reducible assumption | with_reducible refine below_drewN ?_ _ | with_reducible refine Below.drew ?_ | with_reducible refine Below.alloc ?_ ?_ _ | with_reducible refine Below.setCell ?_ ?_ _ | with_reducible exact Nat.le_refl _ | (simp; omega) | (simp; done)))⟩
set_option maxHeartbeats 1600000 in
set_option maxRecDepth 100000 in
theorem at_5_5 (i : Nat) (w : World) (h : i % 7 = 5) (hi : i ≤ 4611686018427387904) :
    Calls Try.prog 82 #[patV 5, .int .i64 (i : Int)] w fun e w' => e = .returned (.tuple #[.bool (keptP 5 i false), .bool (keptP 5 i true)]) ∧ Below w.heap.size w w' := by
  have hN : (i : Int) % 7 = 5 := by omega
  have e1 := kept_at 5 i 5 false _ rfl h
  have e2 := kept_at 5 i 5 true _ rfl h
  rw [e1, e2]
  clear e1 e2
  unfold patV
  go_enter Try.func82, Try.ntmps82
  go_wp2_with fail
  go_quiet (fail)
  go_wp2
  go_ret2
  exact ⟨rfl, (by repeat (first | with_reducible exact Below.refl _ _ | with_reducible assumption | with_reducible refine below_drewN ?_ _ | with_reducible refine Below.drew ?_ | with_reducible refine Below.alloc ?_ ?_ _ | with_reducible refine Below.setCell ?_ ?_ _ | with_reducible exact Nat.le_refl _ | (simp; omega) | (simp; done)))⟩
set_option maxHeartbeats 1600000 in
set_option maxRecDepth 100000 in
theorem at_5_6 (i : Nat) (w : World) (h : i % 7 = 6) (hi : i ≤ 4611686018427387904) :
    Calls Try.prog 82 #[patV 5, .int .i64 (i : Int)] w fun e w' => e = .returned (.tuple #[.bool (keptP 5 i false), .bool (keptP 5 i true)]) ∧ Below w.heap.size w w' := by
  have hN : (i : Int) % 7 = 6 := by omega
  have e1 := kept_at 5 i 6 false _ rfl h
  have e2 := kept_at 5 i 6 true _ rfl h
  rw [e1, e2]
  clear e1 e2
  unfold patV
  go_enter Try.func82, Try.ntmps82
  go_wp2_with fail
  go_quiet (fail)
  go_wp2
  go_ret2
  exact ⟨rfl, (by repeat (first | with_reducible exact Below.refl _ _ | with_reducible assumption | with_reducible refine below_drewN ?_ _ | with_reducible refine Below.drew ?_ | with_reducible refine Below.alloc ?_ ?_ _ | with_reducible refine Below.setCell ?_ ?_ _ | with_reducible exact Nat.le_refl _ | (simp; omega) | (simp; done)))⟩
theorem at_any (r : Nat) (i : Nat) (w : World) (h1 : 1 ≤ r) (h5 : r ≤ 5) (hi : i ≤ 4611686018427387904) :
    Calls Try.prog 82 #[patV r, .int .i64 (i : Int)] w fun e w' => e = .returned (.tuple #[.bool (keptP r i false), .bool (keptP r i true)]) ∧ Below w.heap.size w w' := by
  rcases (by omega : r = 1 ∨ r = 2 ∨ r = 3 ∨ r = 4 ∨ r = 5) with rfl | rfl | rfl | rfl | rfl
  · exact at_1_0 i w (by omega) hi
  · rcases (by omega : i % 2 = 0 ∨ i % 2 = 1) with h | h
    · exact at_2_0 i w h hi
    · exact at_2_1 i w h hi
  · rcases (by omega : i % 3 = 0 ∨ i % 3 = 1 ∨ i % 3 = 2) with h | h | h
    · exact at_3_0 i w h hi
    · exact at_3_1 i w h hi
    · exact at_3_2 i w h hi
  · rcases (by omega : i % 5 = 0 ∨ i % 5 = 1 ∨ i % 5 = 2 ∨ i % 5 = 3 ∨ i % 5 = 4) with h | h | h | h | h
    · exact at_4_0 i w h hi
    · exact at_4_1 i w h hi
    · exact at_4_2 i w h hi
    · exact at_4_3 i w h hi
    · exact at_4_4 i w h hi
  · rcases (by omega : i % 7 = 0 ∨ i % 7 = 1 ∨ i % 7 = 2 ∨ i % 7 = 3 ∨ i % 7 = 4 ∨ i % 7 = 5 ∨ i % 7 = 6) with h | h | h | h | h | h | h
    · exact at_5_0 i w h hi
    · exact at_5_1 i w h hi
    · exact at_5_2 i w h hi
    · exact at_5_3 i w h hi
    · exact at_5_4 i w h hi
    · exact at_5_5 i w h hi
    · exact at_5_6 i w h hi
end Go.Proofs.Ytolcaolmdfbfhaa
