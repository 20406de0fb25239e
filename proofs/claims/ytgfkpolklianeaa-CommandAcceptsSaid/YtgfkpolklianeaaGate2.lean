import Derived.Test.YtgfkpolklianeaaGate
namespace Go.Proofs.Ytgfkpolklianeaa
set_option linter.unusedSimpArgs false
set_option linter.unusedVariables false
open Go.RowKit

set_option maxHeartbeats 1600000 in
set_option maxRecDepth 100000 in
theorem gateMay_bad (cr nx ha : Int) (sh wa ag : Bool) (co : Int) (w : World) (hg : ¬ guardOk cr ha) :
    Calls Try.prog 89 #[gv7 cr nx ha sh wa ag co] w fun e w' => e = .returned (.bool false) ∧ Below w.heap.size w w' := by
  unfold gv7
  have H := Lib.hid hg
  clear hg
  go_enter Try.func89, Try.ntmps89
  go_wp2_with fail
  refine (guarded_no cr ha _ H.out).mono ?_
  rintro e w1 ⟨rfl, hb⟩
  unfold gv7
  have hB : Below w.heap.size w w1 := ((Below.refl _ _).alloc (Nat.le_refl _) _).trans (hb.mono (by simp))
  have hsz := hB.size
  go_wp2
  go_ret
  exact ⟨rfl, (by repeat (first | with_reducible exact Below.refl _ _ | with_reducible assumption | with_reducible refine below_drewN ?_ _ | with_reducible refine Below.drew ?_ | with_reducible refine Below.alloc ?_ ?_ _ | with_reducible refine Below.setCell ?_ ?_ _ | with_reducible exact Nat.le_refl _ | (simp; omega) | (simp; done)))⟩
set_option maxHeartbeats 1600000 in
set_option maxRecDepth 100000 in
theorem gateMay_out (cr nx ha : Int) (sh wa ag : Bool) (co : Int) (w : World) (hg : guardOk cr ha) (h : ¬ ((0 ≤ nx ∧ nx ≤ 255) ∧ (0 ≤ co ∧ co ≤ 3))) :
    Calls Try.prog 89 #[gv7 cr nx ha sh wa ag co] w fun e w' => e = .returned (.bool false) ∧ Below w.heap.size w w' := by
  unfold gv7
  go_enter Try.func89, Try.ntmps89
  go_wp2_with fail
  refine (guarded_yes cr ha _ hg).mono ?_
  rintro e w1 ⟨rfl, hb⟩
  unfold gv7
  have hB : Below w.heap.size w w1 := ((Below.refl _ _).alloc (Nat.le_refl _) _).trans (hb.mono (by simp))
  have hK := (Blk.new w 53 #[.int .i64 cr, .int .i64 nx, .int .i64 ha, .bool sh, .bool wa, .bool ag, .int .i64 co]).below' hb
  have hsz := hB.size
  obtain ⟨x0, x1, x2, x3, x4, x5, x6, fx⟩ := (hK.alloc (.cells #[.int .i64 cr, .int .i64 0, .int .i64 ha, .bool false, .bool false, .bool false, .int .i64 0] 53)).seven
  clear hg hK hb
  by_cases g1 : 0 ≤ nx
  · by_cases g2 : nx ≤ 255
    · by_cases g3 : 0 ≤ co
      · have g4 : ¬ co ≤ 3 := fun g => h ⟨⟨g1, g2⟩, ⟨g3, g⟩⟩
        clear h
        go_wp2
        go_ret
        exact ⟨ret_bool (by simp; omega), (by repeat (first | with_reducible exact Below.refl _ _ | with_reducible assumption | with_reducible refine below_drewN ?_ _ | with_reducible refine Below.drew ?_ | with_reducible refine Below.alloc ?_ ?_ _ | with_reducible refine Below.setCell ?_ ?_ _ | with_reducible exact Nat.le_refl _ | (simp; omega) | (simp; done)))⟩
      · clear h
        go_wp2
        go_ret
        exact ⟨ret_bool (by simp <;> omega), (by repeat (first | with_reducible exact Below.refl _ _ | with_reducible assumption | with_reducible refine below_drewN ?_ _ | with_reducible refine Below.drew ?_ | with_reducible refine Below.alloc ?_ ?_ _ | with_reducible refine Below.setCell ?_ ?_ _ | with_reducible exact Nat.le_refl _ | (simp; omega) | (simp; done)))⟩
    · clear h
      go_wp2
      go_ret
      exact ⟨ret_bool (by simp <;> omega), (by repeat (first | with_reducible exact Below.refl _ _ | with_reducible assumption | with_reducible refine below_drewN ?_ _ | with_reducible refine Below.drew ?_ | with_reducible refine Below.alloc ?_ ?_ _ | with_reducible refine Below.setCell ?_ ?_ _ | with_reducible exact Nat.le_refl _ | (simp; omega) | (simp; done)))⟩
  · clear h
    go_wp2
    go_ret
    exact ⟨ret_bool (by simp <;> omega), (by repeat (first | with_reducible exact Below.refl _ _ | with_reducible assumption | with_reducible refine below_drewN ?_ _ | with_reducible refine Below.drew ?_ | with_reducible refine Below.alloc ?_ ?_ _ | with_reducible refine Below.setCell ?_ ?_ _ | with_reducible exact Nat.le_refl _ | (simp; omega) | (simp; done)))⟩

set_option maxHeartbeats 1600000 in
set_option maxRecDepth 100000 in
theorem stands_yes (cr nx ha : Int) (sh wa ag : Bool) (co : Int) (w : World) (hg : guardOk cr ha) (h : (0 ≤ nx ∧ nx ≤ 255) ∧ (0 ≤ co ∧ co ≤ 3)) :
    Calls Try.prog 91 #[gv7 cr nx ha sh wa ag co] w fun e w' => e = .returned (.bool true) ∧ Below w.heap.size w w' := by
  obtain ⟨⟨a0, a1⟩, ⟨b0, b1⟩⟩ := h
  unfold gv7
  go_enter Try.func91, Try.ntmps91
  go_wp2_with fail
  refine (guard_yes cr ha _ hg).mono ?_
  rintro e w1 ⟨rfl, hb⟩
  unfold gv7
  have hB : Below w.heap.size w w1 := ((Below.refl _ _).alloc (Nat.le_refl _) _).trans (hb.mono (by simp))
  have hK := (Blk.new w 53 #[.int .i64 cr, .int .i64 nx, .int .i64 ha, .bool sh, .bool wa, .bool ag, .int .i64 co]).below' hb
  have hsz := hB.size
  obtain ⟨x0, x1, x2, x3, x4, x5, x6, fx⟩ := (hK.alloc (.cells #[.int .i64 cr, .int .i64 0, .int .i64 ha, .bool false, .bool false, .bool false, .int .i64 0] 53)).seven
  go_wp2_with fail
  refine (cin_yes nx 0 255 _ a0 a1).mono ?_
  rintro e w' ⟨rfl, rfl⟩
  go_wp2_with fail
  refine (cin_yes co 0 3 _ b0 b1).mono ?_
  rintro e w' ⟨rfl, rfl⟩
  go_wp2
  go_ret
  exact ⟨rfl, (by repeat (first | with_reducible exact Below.refl _ _ | with_reducible assumption | with_reducible refine below_drewN ?_ _ | with_reducible refine Below.drew ?_ | with_reducible refine Below.alloc ?_ ?_ _ | with_reducible refine Below.setCell ?_ ?_ _ | with_reducible exact Nat.le_refl _ | (simp; omega) | (simp; done)))⟩
set_option maxHeartbeats 1600000 in
set_option maxRecDepth 100000 in
theorem stands_bad (cr nx ha : Int) (sh wa ag : Bool) (co : Int) (w : World) (hg : ¬ guardOk cr ha) :
    Calls Try.prog 91 #[gv7 cr nx ha sh wa ag co] w fun e w' => e = .returned (.bool false) ∧ Below w.heap.size w w' := by
  unfold gv7
  have H := Lib.hid hg
  clear hg
  go_enter Try.func91, Try.ntmps91
  go_wp2_with fail
  refine (guard_no cr ha _ H.out).mono ?_
  rintro e w1 ⟨rfl, hb⟩
  unfold gv7
  have hB : Below w.heap.size w w1 := ((Below.refl _ _).alloc (Nat.le_refl _) _).trans (hb.mono (by simp))
  have hsz := hB.size
  go_wp2
  go_ret
  exact ⟨rfl, (by repeat (first | with_reducible exact Below.refl _ _ | with_reducible assumption | with_reducible refine below_drewN ?_ _ | with_reducible refine Below.drew ?_ | with_reducible refine Below.alloc ?_ ?_ _ | with_reducible refine Below.setCell ?_ ?_ _ | with_reducible exact Nat.le_refl _ | (simp; omega) | (simp; done)))⟩
set_option maxHeartbeats 1600000 in
set_option maxRecDepth 100000 in
theorem stands_out (cr nx ha : Int) (sh wa ag : Bool) (co : Int) (w : World) (hg : guardOk cr ha) (h : ¬ ((0 ≤ nx ∧ nx ≤ 255) ∧ (0 ≤ co ∧ co ≤ 3))) :
    Calls Try.prog 91 #[gv7 cr nx ha sh wa ag co] w fun e w' => e = .returned (.bool false) ∧ Below w.heap.size w w' := by
  have H := Lib.hid h
  clear h
  unfold gv7
  go_enter Try.func91, Try.ntmps91
  go_wp2_with fail
  refine (guard_yes cr ha _ hg).mono ?_
  rintro e w1 ⟨rfl, hb⟩
  unfold gv7
  have hB : Below w.heap.size w w1 := ((Below.refl _ _).alloc (Nat.le_refl _) _).trans (hb.mono (by simp))
  have hK := (Blk.new w 53 #[.int .i64 cr, .int .i64 nx, .int .i64 ha, .bool sh, .bool wa, .bool ag, .int .i64 co]).below' hb
  have hsz := hB.size
  obtain ⟨x0, x1, x2, x3, x4, x5, x6, fx⟩ := (hK.alloc (.cells #[.int .i64 cr, .int .i64 0, .int .i64 ha, .bool false, .bool false, .bool false, .int .i64 0] 53)).seven
  clear hg hK hb
  go_wp2_with fail
  by_cases g1 : 0 ≤ nx ∧ nx ≤ 255
  rotate_left
  · refine (cin_no nx 0 255 _ g1).mono ?_
    rintro e w' ⟨rfl, rfl⟩
    clear g1
    go_wp2
    go_ret
    exact ⟨rfl, (by repeat (first | with_reducible exact Below.refl _ _ | with_reducible assumption | with_reducible refine below_drewN ?_ _ | with_reducible refine Below.drew ?_ | with_reducible refine Below.alloc ?_ ?_ _ | with_reducible refine Below.setCell ?_ ?_ _ | with_reducible exact Nat.le_refl _ | (simp; omega) | (simp; done)))⟩
  refine (cin_yes nx 0 255 _ g1.1 g1.2).mono ?_
  rintro e w' ⟨rfl, rfl⟩
  go_wp2_with fail
  refine (cin_no co 0 3 _ (fun h => H.out ⟨g1, h⟩)).mono ?_
  rintro e w' ⟨rfl, rfl⟩
  go_wp2
  go_ret
  exact ⟨rfl, (by repeat (first | with_reducible exact Below.refl _ _ | with_reducible assumption | with_reducible refine below_drewN ?_ _ | with_reducible refine Below.drew ?_ | with_reducible refine Below.alloc ?_ ?_ _ | with_reducible refine Below.setCell ?_ ?_ _ | with_reducible exact Nat.le_refl _ | (simp; omega) | (simp; done)))⟩

set_option maxHeartbeats 1600000 in
set_option maxRecDepth 100000 in
theorem bit_any (b : Bool) (w : World) :
    Calls Try.prog 90 #[.bool b] w fun e w' => e = .returned (.int .i64 (flag b 1 : Nat)) ∧ w = w' := by
  cases b
  all_goals
    go_enter Try.func90, Try.ntmps90
    go_wp2
    go_ret
    exact ⟨rfl, rfl⟩
end Go.Proofs.Ytgfkpolklianeaa
