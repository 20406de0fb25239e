/-
  convol.pick.
-/
import Derived.Test.YtolcaolmdfbfhaaPick
import Derived.Test.YtolcaolmdfbfhaaSame
import Derived.Deep.DeepCutAuto
import Derived.Laws.StructEq
namespace Go.Proofs.Ytolcaolmdfbfhaa
set_option linter.unusedSimpArgs false
set_option linter.unusedVariables false
open Go.RowKit

theorem guard_pat : Try.prog.eqGuardType Try.prog.depth 112 = false := by kernel_rfl
theorem neq_pat_1 (w : World) : (binOp .neq 112 (patV 1) (.agg #[.string { data := #[] }, .string { data := #[] }])).run Try.prog w = .ok (.bool true) w := by
  have u3 := Try.underlying9
  have hS : Try.prog.underlying 112 = some (.struct (Try.prog.fieldsOf 112)) := by kernel_rfl
  have hp : Try.prog.stoodInHeld 112 = false := by kernel_rfl
  simp only [patV]
  rw [run_neq_struct, show (10000 : Nat) = 9999 + 1 from rfl, run_equalIn_agg w 9999 112 _ _ hS hp]
  simp only [Program.fieldsOf, Try.underlying112]
  go_simp
theorem neq_pat_2 (w : World) : (binOp .neq 112 (patV 2) (.agg #[.string { data := #[] }, .string { data := #[] }])).run Try.prog w = .ok (.bool true) w := by
  have u3 := Try.underlying9
  have hS : Try.prog.underlying 112 = some (.struct (Try.prog.fieldsOf 112)) := by kernel_rfl
  have hp : Try.prog.stoodInHeld 112 = false := by kernel_rfl
  simp only [patV]
  rw [run_neq_struct, show (10000 : Nat) = 9999 + 1 from rfl, run_equalIn_agg w 9999 112 _ _ hS hp]
  simp only [Program.fieldsOf, Try.underlying112]
  go_simp
theorem neq_pat_3 (w : World) : (binOp .neq 112 (patV 3) (.agg #[.string { data := #[] }, .string { data := #[] }])).run Try.prog w = .ok (.bool true) w := by
  have u3 := Try.underlying9
  have hS : Try.prog.underlying 112 = some (.struct (Try.prog.fieldsOf 112)) := by kernel_rfl
  have hp : Try.prog.stoodInHeld 112 = false := by kernel_rfl
  simp only [patV]
  rw [run_neq_struct, show (10000 : Nat) = 9999 + 1 from rfl, run_equalIn_agg w 9999 112 _ _ hS hp]
  simp only [Program.fieldsOf, Try.underlying112]
  go_simp
theorem neq_pat_4 (w : World) : (binOp .neq 112 (patV 4) (.agg #[.string { data := #[] }, .string { data := #[] }])).run Try.prog w = .ok (.bool true) w := by
  have u3 := Try.underlying9
  have hS : Try.prog.underlying 112 = some (.struct (Try.prog.fieldsOf 112)) := by kernel_rfl
  have hp : Try.prog.stoodInHeld 112 = false := by kernel_rfl
  simp only [patV]
  rw [run_neq_struct, show (10000 : Nat) = 9999 + 1 from rfl, run_equalIn_agg w 9999 112 _ _ hS hp]
  simp only [Program.fieldsOf, Try.underlying112]
  go_simp
theorem neq_pat_5 (w : World) : (binOp .neq 112 (patV 5) (.agg #[.string { data := #[] }, .string { data := #[] }])).run Try.prog w = .ok (.bool true) w := by
  have u3 := Try.underlying9
  have hS : Try.prog.underlying 112 = some (.struct (Try.prog.fieldsOf 112)) := by kernel_rfl
  have hp : Try.prog.stoodInHeld 112 = false := by kernel_rfl
  simp only [patV]
  rw [run_neq_struct, show (10000 : Nat) = 9999 + 1 from rfl, run_equalIn_agg w 9999 112 _ _ hS hp]
  simp only [Program.fieldsOf, Try.underlying112]
  go_simp
theorem neq_pat_0 (w : World) : (binOp .neq 112 (patV 0) (.agg #[.string { data := #[] }, .string { data := #[] }])).run Try.prog w = .ok (.bool false) w := by
  have u3 := Try.underlying9
  have hS : Try.prog.underlying 112 = some (.struct (Try.prog.fieldsOf 112)) := by kernel_rfl
  have hp : Try.prog.stoodInHeld 112 = false := by kernel_rfl
  simp only [patV]
  rw [run_neq_struct, show (10000 : Nat) = 9999 + 1 from rfl, run_equalIn_agg w 9999 112 _ _ hS hp]
  simp only [Program.fieldsOf, Try.underlying112]
  go_simp
set_option maxHeartbeats 1600000 in
set_option maxRecDepth 100000 in
theorem pick_1 (w : World) :
    Calls Try.prog 78 #[.int .i64 1] w fun e w' => e = .returned (.tuple #[patV 1, .bool true]) ∧ Below w.heap.size w w' := by
  have q1 := neq_pat_1
  have q3 := guard_pat
  simp only [patV] at q1 ⊢
  go_enter Try.func78, Try.ntmps78
  go_wp2_with fail
  go_region
  all_goals (
    obtain ⟨k0, k1, kf⟩ := ((Blk.new w 112 #[.string { data := #[49] }, .string { data := #[49] }]).drew).two
    go_wp2
    refine bodyPost_ret (v := .tuple #[.agg #[.string { data := #[49] }, .string { data := #[49] }], .bool true]) (by simp [results, Try.results78, go_sem, k0, k1]) rfl ?_
    exact ⟨rfl, (by repeat (first | with_reducible exact Below.refl _ _ | with_reducible assumption | with_reducible refine below_drewN ?_ _ | with_reducible refine Below.drew ?_ | with_reducible refine Below.alloc ?_ ?_ _ | with_reducible refine Below.setCell ?_ ?_ _ | with_reducible exact Nat.le_refl _ | (simp; omega) | (simp; done)))⟩)
set_option maxHeartbeats 1600000 in
set_option maxRecDepth 100000 in
theorem pick_2 (w : World) :
    Calls Try.prog 78 #[.int .i64 2] w fun e w' => e = .returned (.tuple #[patV 2, .bool true]) ∧ Below w.heap.size w w' := by
  have q1 := neq_pat_2
  have q3 := guard_pat
  simp only [patV] at q1 ⊢
  go_enter Try.func78, Try.ntmps78
  go_wp2_with fail
  go_region
  all_goals (
    obtain ⟨k0, k1, kf⟩ := ((Blk.new w 112 #[.string { data := #[49, 48] }, .string { data := #[49, 49] }]).drew).two
    go_wp2
    refine bodyPost_ret (v := .tuple #[.agg #[.string { data := #[49, 48] }, .string { data := #[49, 49] }], .bool true]) (by simp [results, Try.results78, go_sem, k0, k1]) rfl ?_
    exact ⟨rfl, (by repeat (first | with_reducible exact Below.refl _ _ | with_reducible assumption | with_reducible refine below_drewN ?_ _ | with_reducible refine Below.drew ?_ | with_reducible refine Below.alloc ?_ ?_ _ | with_reducible refine Below.setCell ?_ ?_ _ | with_reducible exact Nat.le_refl _ | (simp; omega) | (simp; done)))⟩)
set_option maxHeartbeats 1600000 in
set_option maxRecDepth 100000 in
theorem pick_3 (w : World) :
    Calls Try.prog 78 #[.int .i64 3] w fun e w' => e = .returned (.tuple #[patV 3, .bool true]) ∧ Below w.heap.size w w' := by
  have q1 := neq_pat_3
  have q3 := guard_pat
  simp only [patV] at q1 ⊢
  go_enter Try.func78, Try.ntmps78
  go_wp2_with fail
  go_region
  all_goals (
    obtain ⟨k0, k1, kf⟩ := ((Blk.new w 112 #[.string { data := #[49, 48, 49] }, .string { data := #[49, 49, 48] }]).drew).two
    go_wp2
    refine bodyPost_ret (v := .tuple #[.agg #[.string { data := #[49, 48, 49] }, .string { data := #[49, 49, 48] }], .bool true]) (by simp [results, Try.results78, go_sem, k0, k1]) rfl ?_
    exact ⟨rfl, (by repeat (first | with_reducible exact Below.refl _ _ | with_reducible assumption | with_reducible refine below_drewN ?_ _ | with_reducible refine Below.drew ?_ | with_reducible refine Below.alloc ?_ ?_ _ | with_reducible refine Below.setCell ?_ ?_ _ | with_reducible exact Nat.le_refl _ | (simp; omega) | (simp; done)))⟩)
set_option maxHeartbeats 1600000 in
set_option maxRecDepth 100000 in
theorem pick_4 (w : World) :
    Calls Try.prog 78 #[.int .i64 4] w fun e w' => e = .returned (.tuple #[patV 4, .bool true]) ∧ Below w.heap.size w w' := by
  have q1 := neq_pat_4
  have q3 := guard_pat
  simp only [patV] at q1 ⊢
  go_enter Try.func78, Try.ntmps78
  go_wp2_with fail
  go_region
  all_goals (
    obtain ⟨k0, k1, kf⟩ := ((Blk.new w 112 #[.string { data := #[49, 48, 49, 48, 49] }, .string { data := #[49, 49, 48, 49, 48] }]).drew).two
    go_wp2
    refine bodyPost_ret (v := .tuple #[.agg #[.string { data := #[49, 48, 49, 48, 49] }, .string { data := #[49, 49, 48, 49, 48] }], .bool true]) (by simp [results, Try.results78, go_sem, k0, k1]) rfl ?_
    exact ⟨rfl, (by repeat (first | with_reducible exact Below.refl _ _ | with_reducible assumption | with_reducible refine below_drewN ?_ _ | with_reducible refine Below.drew ?_ | with_reducible refine Below.alloc ?_ ?_ _ | with_reducible refine Below.setCell ?_ ?_ _ | with_reducible exact Nat.le_refl _ | (simp; omega) | (simp; done)))⟩)
set_option maxHeartbeats 1600000 in
set_option maxRecDepth 100000 in
theorem pick_5 (w : World) :
    Calls Try.prog 78 #[.int .i64 5] w fun e w' => e = .returned (.tuple #[patV 5, .bool true]) ∧ Below w.heap.size w w' := by
  have q1 := neq_pat_5
  have q3 := guard_pat
  simp only [patV] at q1 ⊢
  go_enter Try.func78, Try.ntmps78
  go_wp2_with fail
  go_region
  all_goals (
    obtain ⟨k0, k1, kf⟩ := ((Blk.new w 112 #[.string { data := #[49, 48, 48, 48, 49, 48, 49] }, .string { data := #[49, 49, 49, 49, 48, 49, 48] }]).drew).two
    go_wp2
    refine bodyPost_ret (v := .tuple #[.agg #[.string { data := #[49, 48, 48, 48, 49, 48, 49] }, .string { data := #[49, 49, 49, 49, 48, 49, 48] }], .bool true]) (by simp [results, Try.results78, go_sem, k0, k1]) rfl ?_
    exact ⟨rfl, (by repeat (first | with_reducible exact Below.refl _ _ | with_reducible assumption | with_reducible refine below_drewN ?_ _ | with_reducible refine Below.drew ?_ | with_reducible refine Below.alloc ?_ ?_ _ | with_reducible refine Below.setCell ?_ ?_ _ | with_reducible exact Nat.le_refl _ | (simp; omega) | (simp; done)))⟩)
set_option maxHeartbeats 1600000 in
set_option maxRecDepth 100000 in
theorem pick_0 (r : Int) (hr : ¬ (1 ≤ r ∧ r ≤ 5)) (w : World) :
    Calls Try.prog 78 #[.int .i64 r] w fun e w' => e = .returned (.tuple #[patV 0, .bool false]) ∧ Below w.heap.size w w' := by
  have q1 := neq_pat_0
  have q3 := guard_pat
  have d1 : (r == 1) = false := by simp; omega
  have d2 : (r == 2) = false := by simp; omega
  have d3 : (r == 3) = false := by simp; omega
  have d4 : (r == 4) = false := by simp; omega
  have d5 : (r == 5) = false := by simp; omega
  clear hr
  simp only [patV] at q1 ⊢
  go_enter Try.func78, Try.ntmps78
  go_wp2_with fail
  go_region
  all_goals (
    obtain ⟨k0, k1, kf⟩ := ((Blk.new w 112 #[.string { data := #[] }, .string { data := #[] }]).drew).two
    go_wp2
    refine bodyPost_ret (v := .tuple #[.agg #[.string { data := #[] }, .string { data := #[] }], .bool false]) (by simp [results, Try.results78, go_sem, k0, k1]) rfl ?_
    exact ⟨rfl, (by repeat (first | with_reducible exact Below.refl _ _ | with_reducible assumption | with_reducible refine below_drewN ?_ _ | with_reducible refine Below.drew ?_ | with_reducible refine Below.alloc ?_ ?_ _ | with_reducible refine Below.setCell ?_ ?_ _ | with_reducible exact Nat.le_refl _ | (simp; omega) | (simp; done)))⟩)
theorem pick_yes (r : Nat) (w : World) (h1 : 1 ≤ r) (h5 : r ≤ 5) :
    Calls Try.prog 78 #[.int .i64 (r : Int)] w fun e w' => e = .returned (.tuple #[patV r, .bool true]) ∧ Below w.heap.size w w' := by
  rcases (by omega : r = 1 ∨ r = 2 ∨ r = 3 ∨ r = 4 ∨ r = 5) with rfl | rfl | rfl | rfl | rfl
  · exact pick_1 w
  · exact pick_2 w
  · exact pick_3 w
  · exact pick_4 w
  · exact pick_5 w
end Go.Proofs.Ytolcaolmdfbfhaa
