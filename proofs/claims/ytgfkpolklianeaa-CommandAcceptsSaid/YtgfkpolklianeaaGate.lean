import Derived.Test.YtgfkpolklianeaaSame
import Derived.Test.YtgfkpolklianeaaMore
import Derived.Test.YtgfkpolklianeaaGateP
import Derived.Test.YtgfkpolklianeaaReady
import Derived.BigGuardPart
namespace Go.Proofs.Ytgfkpolklianeaa
set_option linter.unusedSimpArgs false
set_option linter.unusedVariables false
open Go.RowKit

def gv7 (a b c : Int) (s w g : Bool) (n : Int) : Value := .agg #[.int .i64 a, .int .i64 b, .int .i64 c, .bool s, .bool w, .bool g, .int .i64 n]

set_option maxHeartbeats 1600000 in
set_option maxRecDepth 100000 in
theorem guarded_yes (cr ha : Int) (w : World) (h : guardOk cr ha) :
    Calls Try.prog 33 #[.int .i64 cr, .int .i64 ha] w fun e w' => e = .returned (.tuple #[gv7 cr 0 ha false false false 0, .int .i64 0]) ∧ Below w.heap.size w w' := by
  obtain ⟨⟨a0, a1⟩, ⟨b0, b1⟩⟩ := h
  go_enter Try.func33, Try.ntmps33
  go_wp2
  refine bodyPost_ret (v := .tuple #[gv7 cr 0 ha false false false 0, .int .i64 0]) (by simp [results, Try.results33, go_sem, gv7]) rfl ⟨rfl, (by repeat (first | with_reducible exact Below.refl _ _ | with_reducible assumption | with_reducible refine below_drewN ?_ _ | with_reducible refine Below.drew ?_ | with_reducible refine Below.alloc ?_ ?_ _ | with_reducible refine Below.setCell ?_ ?_ _ | with_reducible exact Nat.le_refl _ | (simp; omega) | (simp; done)))⟩
set_option maxHeartbeats 1600000 in
set_option maxRecDepth 100000 in
theorem guarded_no (cr ha : Int) (w : World) (h : ¬ guardOk cr ha) :
    Calls Try.prog 33 #[.int .i64 cr, .int .i64 ha] w fun e w' => e = .returned (.tuple #[gv7 0 0 0 false false false 0, .int .i64 2]) ∧ Below w.heap.size w w' := by
  unfold guardOk at h
  go_enter Try.func33, Try.ntmps33
  go_wp2
  all_goals first
    | (exfalso; omega)
    | (refine bodyPost_ret (v := .tuple #[gv7 0 0 0 false false false 0, .int .i64 2]) (by simp [results, Try.results33, go_sem, gv7]) rfl ⟨rfl, (by repeat (first | with_reducible exact Below.refl _ _ | with_reducible assumption | with_reducible refine below_drewN ?_ _ | with_reducible refine Below.drew ?_ | with_reducible refine Below.alloc ?_ ?_ _ | with_reducible refine Below.setCell ?_ ?_ _ | with_reducible exact Nat.le_refl _ | (simp; omega) | (simp; done)))⟩)
set_option maxHeartbeats 1600000 in
set_option maxRecDepth 100000 in
theorem guard_yes (cr ha : Int) (w : World) (h : guardOk cr ha) :
    Calls Try.prog 34 #[.int .i64 cr, .int .i64 ha] w fun e w' => e = .returned (.tuple #[gv7 cr 0 ha false false false 0, .int .i64 0]) ∧ Below w.heap.size w w' := by
  obtain ⟨⟨a0, a1⟩, ⟨b0, b1⟩⟩ := h
  go_enter Try.func34, Try.ntmps34
  go_wp2_with fail
  refine (cin_yes cr 0 1023 _ a0 a1).mono ?_
  rintro e w' ⟨rfl, rfl⟩
  go_wp2_with fail
  refine (cin_yes ha 1 127 _ b0 b1).mono ?_
  rintro e w' ⟨rfl, rfl⟩
  go_wp2
  refine bodyPost_ret (v := .tuple #[gv7 cr 0 ha false false false 0, .int .i64 0]) (by simp [results, Try.results34, go_sem, gv7]) rfl ⟨rfl, (by repeat (first | with_reducible exact Below.refl _ _ | with_reducible assumption | with_reducible refine below_drewN ?_ _ | with_reducible refine Below.drew ?_ | with_reducible refine Below.alloc ?_ ?_ _ | with_reducible refine Below.setCell ?_ ?_ _ | with_reducible exact Nat.le_refl _ | (simp; omega) | (simp; done)))⟩
set_option maxHeartbeats 1600000 in
set_option maxRecDepth 100000 in
theorem guard_no (cr ha : Int) (w : World) (h : ¬ guardOk cr ha) :
    Calls Try.prog 34 #[.int .i64 cr, .int .i64 ha] w fun e w' => e = .returned (.tuple #[gv7 0 0 0 false false false 0, .int .i64 2]) ∧ Below w.heap.size w w' := by
  have H := Lib.hid h
  clear h
  go_enter Try.func34, Try.ntmps34
  go_wp2_with fail
  by_cases gcr : 0 ≤ cr ∧ cr ≤ 1023
  rotate_left
  · refine (cin_no cr 0 1023 _ gcr).mono ?_
    rintro e w' ⟨rfl, rfl⟩
    go_wp2
    refine bodyPost_ret (v := .tuple #[gv7 0 0 0 false false false 0, .int .i64 2]) (by simp [results, Try.results34, go_sem, gv7]) rfl ⟨rfl, (by repeat (first | with_reducible exact Below.refl _ _ | with_reducible assumption | with_reducible refine below_drewN ?_ _ | with_reducible refine Below.drew ?_ | with_reducible refine Below.alloc ?_ ?_ _ | with_reducible refine Below.setCell ?_ ?_ _ | with_reducible exact Nat.le_refl _ | (simp; omega) | (simp; done)))⟩
  refine (cin_yes cr 0 1023 _ gcr.1 gcr.2).mono ?_
  rintro e w' ⟨rfl, rfl⟩
  go_wp2_with fail
  refine (cin_no ha 1 127 _ (fun h => H.out ⟨gcr, h⟩)).mono ?_
  rintro e w' ⟨rfl, rfl⟩
  go_wp2
  refine bodyPost_ret (v := .tuple #[gv7 0 0 0 false false false 0, .int .i64 2]) (by simp [results, Try.results34, go_sem, gv7]) rfl ⟨rfl, (by repeat (first | with_reducible exact Below.refl _ _ | with_reducible assumption | with_reducible refine below_drewN ?_ _ | with_reducible refine Below.drew ?_ | with_reducible refine Below.alloc ?_ ?_ _ | with_reducible refine Below.setCell ?_ ?_ _ | with_reducible exact Nat.le_refl _ | (simp; omega) | (simp; done)))⟩

set_option maxHeartbeats 1600000 in
set_option maxRecDepth 100000 in
theorem gateMay_yes (cr nx ha : Int) (sh wa ag : Bool) (co : Int) (w : World) (hg : guardOk cr ha) (h : (0 ≤ nx ∧ nx ≤ 255) ∧ (0 ≤ co ∧ co ≤ 3)) :
    Calls Try.prog 89 #[gv7 cr nx ha sh wa ag co] w fun e w' => e = .returned (.bool true) ∧ Below w.heap.size w w' := by
  obtain ⟨⟨a0, a1⟩, ⟨b0, b1⟩⟩ := h
  unfold gv7
  go_enter Try.func89, Try.ntmps89
  go_wp2_with fail
  refine (guarded_yes cr ha _ hg).mono ?_
  rintro e w1 ⟨rfl, hb⟩
  unfold gv7
  have hB : Below w.heap.size w w1 := ((Below.refl _ _).alloc (Nat.le_refl _) _).trans (hb.mono (by simp))
  have hK := (Blk.new w 53 #[.int .i64 cr, .int .i64 nx, .int .i64 ha, .bool sh, .bool wa, .bool ag, .int .i64 co]).below' hb
  have hsz := hB.size
  obtain ⟨x0, x1, x2, x3, x4, x5, x6, fx⟩ := (hK.alloc (.cells #[.int .i64 cr, .int .i64 0, .int .i64 ha, .bool false, .bool false, .bool false, .int .i64 0] 53)).seven
  go_wp2
  go_ret
  exact ⟨ret_bool (by simp; try omega), (by repeat (first | with_reducible exact Below.refl _ _ | with_reducible assumption | with_reducible refine below_drewN ?_ _ | with_reducible refine Below.drew ?_ | with_reducible refine Below.alloc ?_ ?_ _ | with_reducible refine Below.setCell ?_ ?_ _ | with_reducible exact Nat.le_refl _ | (simp; omega) | (simp; done)))⟩
end Go.Proofs.Ytgfkpolklianeaa
