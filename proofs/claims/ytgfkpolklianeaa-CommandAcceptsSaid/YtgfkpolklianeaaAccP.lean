/-
  An order comes to a gate: by the program.
-/
import Derived.Test.YtgfkpolklianeaaAccO
import Derived.Deep.DeepCutAuto
namespace Go.Proofs.Ytgfkpolklianeaa
set_option linter.unusedSimpArgs false
set_option linter.unusedVariables false
open Go.RowKit

theorem stands_no (cr nx ha : Int) (sh wa ag : Bool) (co : Int) (w : World) (h : ¬ (guardOk cr ha ∧ (0 ≤ nx ∧ nx ≤ 255) ∧ (0 ≤ co ∧ co ≤ 3))) :
    Calls Try.prog 91 #[gv7 cr nx ha sh wa ag co] w fun e w' => e = .returned (.bool false) ∧ Below w.heap.size w w' := by
  by_cases hg : guardOk cr ha
  · exact stands_out cr nx ha sh wa ag co w hg (fun h2 => h ⟨hg, h2⟩)
  · exact stands_bad cr nx ha sh wa ag co w hg
set_option maxHeartbeats 3200000 in
set_option maxRecDepth 100000 in
theorem acc_gate (cr nx ha : Int) (sh wa ag : Bool) (co ocr sq : Int) (A : Option Addr) (d : Nat) (room : Bool) (w : World) (byp ctl : Bool) (n : Nat) (h : ¬ (guardOk cr ha ∧ (0 ≤ nx ∧ nx ≤ 255) ∧ (0 ≤ co ∧ co ≤ 3))) :
    Calls Try.prog 81 #[.agg #[.int .i64 cr, .int .i64 nx, .int .i64 ha, .bool sh, .bool wa, .bool ag, .int .i64 co], .agg #[.int .i64 ocr, .bool byp, .bool ctl, .int .i64 sq, .slice A n d], .bool room] w fun e w' => e = .returned (.tuple #[.agg #[.int .i64 0, .int .i64 0, .int .i64 0, .bool false, .bool false, .bool false, .int .i64 0], .bool false, .int .i64 11]) ∧ Below w.heap.size w w' := by
  have hm := Lib.hid (fun w => stands_no cr nx ha sh wa ag co w h)
  unfold gv7 at hm
  clear h
  go_enter Try.func81, Try.ntmps81
  go_upto_region 1 with fail
  obtain ⟨W0, hW0⟩ : ∃ W : World, W = ((w.alloc (.cells #[.int .i64 cr, .int .i64 nx, .int .i64 ha, .bool sh, .bool wa, .bool ag, .int .i64 co] 53)).alloc (.cells #[.int .i64 ocr, .bool byp, .bool ctl, .int .i64 sq, .slice A n d] 64)).alloc (.cells #[.int .i64 0, .int .i64 0, .int .i64 0, .bool false, .bool false, .bool false, .int .i64 0] 53) := ⟨_, rfl⟩
  rw [← hW0]
  have hB : Below w.heap.size w W0 := by rw [hW0]; exact (((Below.refl _ _).alloc (Nat.le_refl _) _).alloc (le_alloc _ _) _).alloc (Nat.le_trans (le_alloc _ _) (le_alloc _ _)) _
  have hG : Blk W0 w.heap.size 53 #[.int .i64 cr, .int .i64 nx, .int .i64 ha, .bool sh, .bool wa, .bool ag, .int .i64 co] := by rw [hW0]; exact ((Blk.new _ _ _).alloc _).alloc _
  have hO : Blk W0 (w.heap.size + 1) 64 #[.int .i64 ocr, .bool byp, .bool ctl, .int .i64 sq, .slice A n d] := by
    rw [hW0]
    have := (Blk.new (w.alloc (.cells #[.int .i64 cr, .int .i64 nx, .int .i64 ha, .bool sh, .bool wa, .bool ag, .int .i64 co] 53)) 64 #[.int .i64 ocr, .bool byp, .bool ctl, .int .i64 sq, .slice A n d]).alloc (.cells #[.int .i64 0, .int .i64 0, .int .i64 0, .bool false, .bool false, .bool false, .int .i64 0] 53)
    simpa using this
  have hZ : Blk W0 (w.heap.size + 2) 53 #[.int .i64 0, .int .i64 0, .int .i64 0, .bool false, .bool false, .bool false, .int .i64 0] := by
    rw [hW0]
    have := Blk.new ((w.alloc (.cells #[.int .i64 cr, .int .i64 nx, .int .i64 ha, .bool sh, .bool wa, .bool ag, .int .i64 co] 53)).alloc (.cells #[.int .i64 ocr, .bool byp, .bool ctl, .int .i64 sq, .slice A n d] 64)) 53 #[.int .i64 0, .int .i64 0, .int .i64 0, .bool false, .bool false, .bool false, .int .i64 0]
    simpa using this
  clear hW0
  obtain ⟨x0, x1, x2, x3, x4, x5, x6, fx⟩ := hG.seven
  obtain ⟨y0, y1, y2, y3, y4, fy⟩ := hO.five
  obtain ⟨k0, k1, k2, k3, k4, k5, k6, fk⟩ := hZ.seven
  go_wp2_with fail
  refine (hm.out _).mono ?_
  rintro e w1 ⟨rfl, hb⟩
  clear x0 x1 x2 x3 x4 x5 x6 fx y0 y1 y2 y3 y4 fy k0 k1 k2 k3 k4 k5 k6 fk
  replace hG := hG.step hb
  replace hO := hO.step hb
  replace hZ := hZ.step hb
  replace hB := nextB hB hB.size hb
  obtain ⟨x0, x1, x2, x3, x4, x5, x6, fx⟩ := hG.seven
  obtain ⟨y0, y1, y2, y3, y4, fy⟩ := hO.five
  obtain ⟨k0, k1, k2, k3, k4, k5, k6, fk⟩ := hZ.seven
  go_wp2
  refine bodyPost_ret (v := .tuple #[.agg #[.int .i64 0, .int .i64 0, .int .i64 0, .bool false, .bool false, .bool false, .int .i64 0], .bool false, .int .i64 11]) (by simp [results, Try.results81, go_sem, k0, k1, k2, k3, k4, k5, k6]) rfl ?_
  exact ⟨rfl, (by repeat (first | with_reducible exact Below.refl _ _ | with_reducible assumption | with_reducible refine below_drewN ?_ _ | with_reducible refine Below.drew ?_ | with_reducible refine Below.alloc ?_ ?_ _ | with_reducible refine Below.setCell ?_ ?_ _ | with_reducible exact Nat.le_refl _ | (simp; omega) | (simp; done)))⟩

set_option maxHeartbeats 3200000 in
set_option maxRecDepth 100000 in
theorem acc_may (cr nx ha : Int) (sh wa ag : Bool) (co ocr sq : Int) (A : Option Addr) (d : Nat) (room : Bool) (w : World) (byp ctl : Bool) (k : Int) (l : List UInt8) (hg : guardOk cr ha) (hr : (0 ≤ nx ∧ nx ≤ 255) ∧ (0 ≤ co ∧ co ≤ 3)) (HK : ordMay ⟨ocr, byp, ctl, sq, l⟩ = k) (hk : k ≠ 0) :
    Calls Try.prog 81 #[.agg #[.int .i64 cr, .int .i64 nx, .int .i64 ha, .bool sh, .bool wa, .bool ag, .int .i64 co], .agg #[.int .i64 ocr, .bool byp, .bool ctl, .int .i64 sq, .slice A l.length d], .bool room] w fun e w' => e = .returned (.tuple #[.agg #[.int .i64 cr, .int .i64 nx, .int .i64 ha, .bool sh, .bool wa, .bool ag, .int .i64 co], .bool false, .int .i64 k]) ∧ Below w.heap.size w w' := by
  have hm := Lib.hid (fun w => stands_yes cr nx ha sh wa ag co w hg hr)
  unfold gv7 at hm
  have ho := Lib.hid (fun w => may_any ⟨ocr, byp, ctl, sq, l⟩ A l.length d w rfl)
  rw [HK] at ho
  simp only at ho
  obtain ⟨⟨a0, a1⟩, ⟨b0, b1⟩⟩ := hr
  obtain ⟨⟨p0, p1⟩, ⟨q0, q1⟩⟩ := hg
  clear HK
  go_enter Try.func81, Try.ntmps81
  go_upto_region 1 with fail
  obtain ⟨W0, hW0⟩ : ∃ W : World, W = ((w.alloc (.cells #[.int .i64 cr, .int .i64 nx, .int .i64 ha, .bool sh, .bool wa, .bool ag, .int .i64 co] 53)).alloc (.cells #[.int .i64 ocr, .bool byp, .bool ctl, .int .i64 sq, .slice A l.length d] 64)).alloc (.cells #[.int .i64 0, .int .i64 0, .int .i64 0, .bool false, .bool false, .bool false, .int .i64 0] 53) := ⟨_, rfl⟩
  rw [← hW0]
  have hB : Below w.heap.size w W0 := by rw [hW0]; exact (((Below.refl _ _).alloc (Nat.le_refl _) _).alloc (le_alloc _ _) _).alloc (Nat.le_trans (le_alloc _ _) (le_alloc _ _)) _
  have hG : Blk W0 w.heap.size 53 #[.int .i64 cr, .int .i64 nx, .int .i64 ha, .bool sh, .bool wa, .bool ag, .int .i64 co] := by rw [hW0]; exact ((Blk.new _ _ _).alloc _).alloc _
  have hO : Blk W0 (w.heap.size + 1) 64 #[.int .i64 ocr, .bool byp, .bool ctl, .int .i64 sq, .slice A l.length d] := by
    rw [hW0]
    have := (Blk.new (w.alloc (.cells #[.int .i64 cr, .int .i64 nx, .int .i64 ha, .bool sh, .bool wa, .bool ag, .int .i64 co] 53)) 64 #[.int .i64 ocr, .bool byp, .bool ctl, .int .i64 sq, .slice A l.length d]).alloc (.cells #[.int .i64 0, .int .i64 0, .int .i64 0, .bool false, .bool false, .bool false, .int .i64 0] 53)
    simpa using this
  have hZ : Blk W0 (w.heap.size + 2) 53 #[.int .i64 0, .int .i64 0, .int .i64 0, .bool false, .bool false, .bool false, .int .i64 0] := by
    rw [hW0]
    have := Blk.new ((w.alloc (.cells #[.int .i64 cr, .int .i64 nx, .int .i64 ha, .bool sh, .bool wa, .bool ag, .int .i64 co] 53)).alloc (.cells #[.int .i64 ocr, .bool byp, .bool ctl, .int .i64 sq, .slice A l.length d] 64)) 53 #[.int .i64 0, .int .i64 0, .int .i64 0, .bool false, .bool false, .bool false, .int .i64 0]
    simpa using this
  clear hW0
  obtain ⟨x0, x1, x2, x3, x4, x5, x6, fx⟩ := hG.seven
  obtain ⟨y0, y1, y2, y3, y4, fy⟩ := hO.five
  obtain ⟨k0, k1, k2, k3, k4, k5, k6, fk⟩ := hZ.seven
  go_wp2_with fail
  refine (hm.out _).mono ?_
  rintro e w1 ⟨rfl, hb⟩
  clear x0 x1 x2 x3 x4 x5 x6 fx y0 y1 y2 y3 y4 fy k0 k1 k2 k3 k4 k5 k6 fk
  replace hG := hG.step hb
  replace hO := hO.step hb
  replace hZ := hZ.step hb
  replace hB := nextB hB hB.size hb
  obtain ⟨x0, x1, x2, x3, x4, x5, x6, fx⟩ := hG.seven
  obtain ⟨y0, y1, y2, y3, y4, fy⟩ := hO.five
  obtain ⟨k0, k1, k2, k3, k4, k5, k6, fk⟩ := hZ.seven
  go_wp2_with fail
  refine (ho.out _).mono ?_
  rintro e w2 ⟨rfl, hb⟩
  clear x0 x1 x2 x3 x4 x5 x6 fx y0 y1 y2 y3 y4 fy k0 k1 k2 k3 k4 k5 k6 fk
  replace hG := hG.step hb
  replace hO := hO.step hb
  replace hZ := hZ.step hb
  replace hB := nextB hB hB.size hb
  have hz : ((k : Int) != 0) = true := by simp [hk]
  clear hk
  obtain ⟨x0, x1, x2, x3, x4, x5, x6, fx⟩ := hG.seven
  obtain ⟨y0, y1, y2, y3, y4, fy⟩ := hO.five
  obtain ⟨k0, k1, k2, k3, k4, k5, k6, fk⟩ := hZ.seven
  go_wp2
  refine bodyPost_ret (v := .tuple #[.agg #[.int .i64 cr, .int .i64 nx, .int .i64 ha, .bool sh, .bool wa, .bool ag, .int .i64 co], .bool false, .int .i64 k]) (by simp [results, Try.results81, go_sem, k0, k1, k2, k3, k4, k5, k6]) rfl ?_
  exact ⟨rfl, (by repeat (first | with_reducible exact Below.refl _ _ | with_reducible assumption | with_reducible refine below_drewN ?_ _ | with_reducible refine Below.drew ?_ | with_reducible refine Below.alloc ?_ ?_ _ | with_reducible refine Below.setCell ?_ ?_ _ | with_reducible exact Nat.le_refl _ | (simp; omega) | (simp; done)))⟩

set_option maxHeartbeats 3200000 in
set_option maxRecDepth 100000 in
theorem acc_name (cr nx ha : Int) (sh wa ag : Bool) (co ocr sq : Int) (A : Option Addr) (d : Nat) (room : Bool) (w : World) (byp ctl : Bool) (l : List UInt8) (hg : guardOk cr ha) (hr : (0 ≤ nx ∧ nx ≤ 255) ∧ (0 ≤ co ∧ co ≤ 3)) (HK : ordMay ⟨ocr, byp, ctl, sq, l⟩ = 0) (hc : ocr ≠ cr) :
    Calls Try.prog 81 #[.agg #[.int .i64 cr, .int .i64 nx, .int .i64 ha, .bool sh, .bool wa, .bool ag, .int .i64 co], .agg #[.int .i64 ocr, .bool byp, .bool ctl, .int .i64 sq, .slice A l.length d], .bool room] w fun e w' => e = .returned (.tuple #[.agg #[.int .i64 cr, .int .i64 nx, .int .i64 ha, .bool sh, .bool wa, .bool ag, .int .i64 co], .bool false, .int .i64 10]) ∧ Below w.heap.size w w' := by
  replace hc := Lib.hid hc
  have hm := Lib.hid (fun w => stands_yes cr nx ha sh wa ag co w hg hr)
  unfold gv7 at hm
  have ho := Lib.hid (fun w => may_any ⟨ocr, byp, ctl, sq, l⟩ A l.length d w rfl)
  rw [HK] at ho
  simp only at ho
  obtain ⟨⟨a0, a1⟩, ⟨b0, b1⟩⟩ := hr
  obtain ⟨⟨p0, p1⟩, ⟨q0, q1⟩⟩ := hg
  clear HK
  go_enter Try.func81, Try.ntmps81
  go_upto_region 1 with fail
  obtain ⟨W0, hW0⟩ : ∃ W : World, W = ((w.alloc (.cells #[.int .i64 cr, .int .i64 nx, .int .i64 ha, .bool sh, .bool wa, .bool ag, .int .i64 co] 53)).alloc (.cells #[.int .i64 ocr, .bool byp, .bool ctl, .int .i64 sq, .slice A l.length d] 64)).alloc (.cells #[.int .i64 0, .int .i64 0, .int .i64 0, .bool false, .bool false, .bool false, .int .i64 0] 53) := ⟨_, rfl⟩
  rw [← hW0]
  have hB : Below w.heap.size w W0 := by rw [hW0]; exact (((Below.refl _ _).alloc (Nat.le_refl _) _).alloc (le_alloc _ _) _).alloc (Nat.le_trans (le_alloc _ _) (le_alloc _ _)) _
  have hG : Blk W0 w.heap.size 53 #[.int .i64 cr, .int .i64 nx, .int .i64 ha, .bool sh, .bool wa, .bool ag, .int .i64 co] := by rw [hW0]; exact ((Blk.new _ _ _).alloc _).alloc _
  have hO : Blk W0 (w.heap.size + 1) 64 #[.int .i64 ocr, .bool byp, .bool ctl, .int .i64 sq, .slice A l.length d] := by
    rw [hW0]
    have := (Blk.new (w.alloc (.cells #[.int .i64 cr, .int .i64 nx, .int .i64 ha, .bool sh, .bool wa, .bool ag, .int .i64 co] 53)) 64 #[.int .i64 ocr, .bool byp, .bool ctl, .int .i64 sq, .slice A l.length d]).alloc (.cells #[.int .i64 0, .int .i64 0, .int .i64 0, .bool false, .bool false, .bool false, .int .i64 0] 53)
    simpa using this
  have hZ : Blk W0 (w.heap.size + 2) 53 #[.int .i64 0, .int .i64 0, .int .i64 0, .bool false, .bool false, .bool false, .int .i64 0] := by
    rw [hW0]
    have := Blk.new ((w.alloc (.cells #[.int .i64 cr, .int .i64 nx, .int .i64 ha, .bool sh, .bool wa, .bool ag, .int .i64 co] 53)).alloc (.cells #[.int .i64 ocr, .bool byp, .bool ctl, .int .i64 sq, .slice A l.length d] 64)) 53 #[.int .i64 0, .int .i64 0, .int .i64 0, .bool false, .bool false, .bool false, .int .i64 0]
    simpa using this
  clear hW0
  obtain ⟨x0, x1, x2, x3, x4, x5, x6, fx⟩ := hG.seven
  obtain ⟨y0, y1, y2, y3, y4, fy⟩ := hO.five
  obtain ⟨k0, k1, k2, k3, k4, k5, k6, fk⟩ := hZ.seven
  go_wp2_with fail
  refine (hm.out _).mono ?_
  rintro e w1 ⟨rfl, hb⟩
  clear x0 x1 x2 x3 x4 x5 x6 fx y0 y1 y2 y3 y4 fy k0 k1 k2 k3 k4 k5 k6 fk
  replace hG := hG.step hb
  replace hO := hO.step hb
  replace hZ := hZ.step hb
  replace hB := nextB hB hB.size hb
  obtain ⟨x0, x1, x2, x3, x4, x5, x6, fx⟩ := hG.seven
  obtain ⟨y0, y1, y2, y3, y4, fy⟩ := hO.five
  obtain ⟨k0, k1, k2, k3, k4, k5, k6, fk⟩ := hZ.seven
  go_wp2_with fail
  refine (ho.out _).mono ?_
  rintro e w2 ⟨rfl, hb⟩
  clear x0 x1 x2 x3 x4 x5 x6 fx y0 y1 y2 y3 y4 fy k0 k1 k2 k3 k4 k5 k6 fk
  replace hG := hG.step hb
  replace hO := hO.step hb
  replace hZ := hZ.step hb
  replace hB := nextB hB hB.size hb
  replace hc := hc.out
  have hz : (ocr != cr) = true := by simp [hc]
  clear hc
  obtain ⟨x0, x1, x2, x3, x4, x5, x6, fx⟩ := hG.seven
  obtain ⟨y0, y1, y2, y3, y4, fy⟩ := hO.five
  obtain ⟨k0, k1, k2, k3, k4, k5, k6, fk⟩ := hZ.seven
  go_wp2
  refine bodyPost_ret (v := .tuple #[.agg #[.int .i64 cr, .int .i64 nx, .int .i64 ha, .bool sh, .bool wa, .bool ag, .int .i64 co], .bool false, .int .i64 10]) (by simp [results, Try.results81, go_sem, k0, k1, k2, k3, k4, k5, k6]) rfl ?_
  exact ⟨rfl, (by repeat (first | with_reducible exact Below.refl _ _ | with_reducible assumption | with_reducible refine below_drewN ?_ _ | with_reducible refine Below.drew ?_ | with_reducible refine Below.alloc ?_ ?_ _ | with_reducible refine Below.setCell ?_ ?_ _ | with_reducible exact Nat.le_refl _ | (simp; omega) | (simp; done)))⟩

set_option maxHeartbeats 3200000 in
set_option maxRecDepth 100000 in
theorem acc_ctl (cr nx ha : Int) (sh wa ag : Bool) (co cr2 nx2 ha2 : Int) (sh2 wa2 ag2 : Bool) (co2 ocr sq : Int) (A : Option Addr) (d : Nat) (room : Bool) (w : World) (l : List UInt8) (hg : guardOk cr ha) (hr : (0 ≤ nx ∧ nx ≤ 255) ∧ (0 ≤ co ∧ co ≤ 3)) (err : Int) (ha0 : Rd w A (bvs l)) (HK : ordMay ⟨ocr, true, true, sq, l⟩ = 0) (hc : ocr = cr)
    (hM : ∀ (g : Nat) (w : World), Blk w g 145 (gb cr nx ha sh wa ag co) → Rd w A (bvs l) → Calls Try.prog 118 #[.pointer (some ⟨g, 0, none⟩), .slice A l.length d] w fun e w' => e = .returned (.int .i64 err) ∧ Blk w' g 145 (gb cr2 nx2 ha2 sh2 wa2 ag2 co2) ∧ Below g w w') :
    Calls Try.prog 81 #[.agg #[.int .i64 cr, .int .i64 nx, .int .i64 ha, .bool sh, .bool wa, .bool ag, .int .i64 co], .agg #[.int .i64 ocr, .bool true, .bool true, .int .i64 sq, .slice A l.length d], .bool room] w fun e w' => e = .returned (.tuple #[.agg #[.int .i64 cr2, .int .i64 nx2, .int .i64 ha2, .bool sh2, .bool wa2, .bool ag2, .int .i64 co2], .bool false, .int .i64 err]) ∧ Below w.heap.size w w' := by
  replace hM := Lib.hid hM
  have hz : (ocr != cr) = false := by simp [hc]
  clear hc
  have hm := Lib.hid (fun w => stands_yes cr nx ha sh wa ag co w hg hr)
  unfold gv7 at hm
  have ho := Lib.hid (fun w => may_any ⟨ocr, true, true, sq, l⟩ A l.length d w rfl)
  rw [HK] at ho
  simp only at ho
  obtain ⟨⟨a0, a1⟩, ⟨b0, b1⟩⟩ := hr
  obtain ⟨⟨p0, p1⟩, ⟨q0, q1⟩⟩ := hg
  clear HK
  go_enter Try.func81, Try.ntmps81
  go_upto_region 1 with fail
  obtain ⟨W0, hW0⟩ : ∃ W : World, W = ((w.alloc (.cells #[.int .i64 cr, .int .i64 nx, .int .i64 ha, .bool sh, .bool wa, .bool ag, .int .i64 co] 53)).alloc (.cells #[.int .i64 ocr, .bool true, .bool true, .int .i64 sq, .slice A l.length d] 64)).alloc (.cells #[.int .i64 0, .int .i64 0, .int .i64 0, .bool false, .bool false, .bool false, .int .i64 0] 53) := ⟨_, rfl⟩
  rw [← hW0]
  have hB : Below w.heap.size w W0 := by rw [hW0]; exact (((Below.refl _ _).alloc (Nat.le_refl _) _).alloc (le_alloc _ _) _).alloc (Nat.le_trans (le_alloc _ _) (le_alloc _ _)) _
  have hG : Blk W0 w.heap.size 53 #[.int .i64 cr, .int .i64 nx, .int .i64 ha, .bool sh, .bool wa, .bool ag, .int .i64 co] := by rw [hW0]; exact ((Blk.new _ _ _).alloc _).alloc _
  have hO : Blk W0 (w.heap.size + 1) 64 #[.int .i64 ocr, .bool true, .bool true, .int .i64 sq, .slice A l.length d] := by
    rw [hW0]
    have := (Blk.new (w.alloc (.cells #[.int .i64 cr, .int .i64 nx, .int .i64 ha, .bool sh, .bool wa, .bool ag, .int .i64 co] 53)) 64 #[.int .i64 ocr, .bool true, .bool true, .int .i64 sq, .slice A l.length d]).alloc (.cells #[.int .i64 0, .int .i64 0, .int .i64 0, .bool false, .bool false, .bool false, .int .i64 0] 53)
    simpa using this
  have hZ : Blk W0 (w.heap.size + 2) 53 #[.int .i64 0, .int .i64 0, .int .i64 0, .bool false, .bool false, .bool false, .int .i64 0] := by
    rw [hW0]
    have := Blk.new ((w.alloc (.cells #[.int .i64 cr, .int .i64 nx, .int .i64 ha, .bool sh, .bool wa, .bool ag, .int .i64 co] 53)).alloc (.cells #[.int .i64 ocr, .bool true, .bool true, .int .i64 sq, .slice A l.length d] 64)) 53 #[.int .i64 0, .int .i64 0, .int .i64 0, .bool false, .bool false, .bool false, .int .i64 0]
    simpa using this
  have hA : Rd W0 A (bvs l) := by rw [hW0]; exact ((ha0.alloc _).alloc _).alloc _
  clear hW0 ha0
  obtain ⟨x0, x1, x2, x3, x4, x5, x6, fx⟩ := hG.seven
  obtain ⟨y0, y1, y2, y3, y4, fy⟩ := hO.five
  obtain ⟨k0, k1, k2, k3, k4, k5, k6, fk⟩ := hZ.seven
  go_wp2_with fail
  refine (hm.out _).mono ?_
  rintro e w1 ⟨rfl, hb⟩
  clear x0 x1 x2 x3 x4 x5 x6 fx y0 y1 y2 y3 y4 fy k0 k1 k2 k3 k4 k5 k6 fk
  replace hG := hG.step hb
  replace hO := hO.step hb
  replace hZ := hZ.step hb
  replace hB := nextB hB hB.size hb
  replace hA := hA.step hb
  obtain ⟨x0, x1, x2, x3, x4, x5, x6, fx⟩ := hG.seven
  obtain ⟨y0, y1, y2, y3, y4, fy⟩ := hO.five
  obtain ⟨k0, k1, k2, k3, k4, k5, k6, fk⟩ := hZ.seven
  go_wp2_with fail
  refine (ho.out _).mono ?_
  rintro e w2 ⟨rfl, hb⟩
  clear x0 x1 x2 x3 x4 x5 x6 fx y0 y1 y2 y3 y4 fy k0 k1 k2 k3 k4 k5 k6 fk
  replace hG := hG.step hb
  replace hO := hO.step hb
  replace hZ := hZ.step hb
  replace hB := nextB hB hB.size hb
  replace hA := hA.step hb
  obtain ⟨x0, x1, x2, x3, x4, x5, x6, fx⟩ := hG.seven
  obtain ⟨y0, y1, y2, y3, y4, fy⟩ := hO.five
  obtain ⟨k0, k1, k2, k3, k4, k5, k6, fk⟩ := hZ.seven
  obtain ⟨yy0, yy1, yy2, yy3, yy4, fyy⟩ := (hO.alloc (.cells #[.int .i64 cr, .int .i64 nx, .int .i64 ha, .bool sh, .bool wa, .bool ag, .int .i64 co] 145)).five
  go_wp2_with fail
  refine (hM.out _ _ (Blk.new _ _ _) (hA.alloc _)).mono ?_
  rintro e w3 ⟨rfl, hG3, hb⟩
  clear x0 x1 x2 x3 x4 x5 x6 fx y0 y1 y2 y3 y4 fy k0 k1 k2 k3 k4 k5 k6 fk
  clear yy0 yy1 yy2 yy3 yy4 fyy
  replace hG := (hG.alloc _).below hb hG.lt
  replace hO := (hO.alloc _).below hb hO.lt
  replace hZ := (hZ.alloc _).below hb hZ.lt
  replace hB := (hB.alloc hB.size _).trans (hb.mono hB.size)
  clear hb
  obtain ⟨v0, v1, v2, v3, v4, v5, v6, fv⟩ := Blk.seven (v0 := .int .i64 cr2) (v1 := .int .i64 nx2) (v2 := .int .i64 ha2) (v3 := .bool sh2) (v4 := .bool wa2) (v5 := .bool ag2) (v6 := .int .i64 co2) hG3
  obtain ⟨x0, x1, x2, x3, x4, x5, x6, fx⟩ := hG.seven
  obtain ⟨y0, y1, y2, y3, y4, fy⟩ := hO.five
  obtain ⟨k0, k1, k2, k3, k4, k5, k6, fk⟩ := hZ.seven
  go_wp2
  refine bodyPost_ret (v := .tuple #[.agg #[.int .i64 cr2, .int .i64 nx2, .int .i64 ha2, .bool sh2, .bool wa2, .bool ag2, .int .i64 co2], .bool false, .int .i64 err]) (by simp [results, Try.results81, go_sem, k0, k1, k2, k3, k4, k5, k6]) rfl ?_
  exact ⟨rfl, (by repeat (first | with_reducible exact Below.refl _ _ | with_reducible assumption | with_reducible refine below_drewN ?_ _ | with_reducible refine Below.drew ?_ | with_reducible refine Below.alloc ?_ ?_ _ | with_reducible refine Below.setCell ?_ ?_ _ | with_reducible exact Nat.le_refl _ | (simp; omega) | (simp; done)))⟩

set_option maxHeartbeats 3200000 in
set_option maxRecDepth 100000 in
theorem acc_byp (cr nx ha : Int) (sh wa ag : Bool) (co cr2 nx2 ha2 : Int) (sh2 wa2 ag2 : Bool) (co2 ocr sq : Int) (A : Option Addr) (d : Nat) (room : Bool) (w : World) (l : List UInt8) (hg : guardOk cr ha) (hr : (0 ≤ nx ∧ nx ≤ 255) ∧ (0 ≤ co ∧ co ≤ 3)) (HK : ordMay ⟨ocr, true, false, sq, l⟩ = 0) (hc : ocr = cr)
    (hM : ∀ (g : Nat) (w : World), Blk w g 145 (gb cr nx ha sh wa ag co) → Calls Try.prog 119 #[.pointer (some ⟨g, 0, none⟩)] w fun e w' => e = .returned (.tuple #[]) ∧ Blk w' g 145 (gb cr2 nx2 ha2 sh2 wa2 ag2 co2) ∧ Below g w w') :
    Calls Try.prog 81 #[.agg #[.int .i64 cr, .int .i64 nx, .int .i64 ha, .bool sh, .bool wa, .bool ag, .int .i64 co], .agg #[.int .i64 ocr, .bool true, .bool false, .int .i64 sq, .slice A l.length d], .bool room] w fun e w' => e = .returned (.tuple #[.agg #[.int .i64 cr2, .int .i64 nx2, .int .i64 ha2, .bool sh2, .bool wa2, .bool ag2, .int .i64 co2], .bool true, .int .i64 0]) ∧ Below w.heap.size w w' := by
  replace hM := Lib.hid hM
  have hz : (ocr != cr) = false := by simp [hc]
  clear hc
  have hm := Lib.hid (fun w => stands_yes cr nx ha sh wa ag co w hg hr)
  unfold gv7 at hm
  have ho := Lib.hid (fun w => may_any ⟨ocr, true, false, sq, l⟩ A l.length d w rfl)
  rw [HK] at ho
  simp only at ho
  obtain ⟨⟨a0, a1⟩, ⟨b0, b1⟩⟩ := hr
  obtain ⟨⟨p0, p1⟩, ⟨q0, q1⟩⟩ := hg
  clear HK
  go_enter Try.func81, Try.ntmps81
  go_upto_region 1 with fail
  obtain ⟨W0, hW0⟩ : ∃ W : World, W = ((w.alloc (.cells #[.int .i64 cr, .int .i64 nx, .int .i64 ha, .bool sh, .bool wa, .bool ag, .int .i64 co] 53)).alloc (.cells #[.int .i64 ocr, .bool true, .bool false, .int .i64 sq, .slice A l.length d] 64)).alloc (.cells #[.int .i64 0, .int .i64 0, .int .i64 0, .bool false, .bool false, .bool false, .int .i64 0] 53) := ⟨_, rfl⟩
  rw [← hW0]
  have hB : Below w.heap.size w W0 := by rw [hW0]; exact (((Below.refl _ _).alloc (Nat.le_refl _) _).alloc (le_alloc _ _) _).alloc (Nat.le_trans (le_alloc _ _) (le_alloc _ _)) _
  have hG : Blk W0 w.heap.size 53 #[.int .i64 cr, .int .i64 nx, .int .i64 ha, .bool sh, .bool wa, .bool ag, .int .i64 co] := by rw [hW0]; exact ((Blk.new _ _ _).alloc _).alloc _
  have hO : Blk W0 (w.heap.size + 1) 64 #[.int .i64 ocr, .bool true, .bool false, .int .i64 sq, .slice A l.length d] := by
    rw [hW0]
    have := (Blk.new (w.alloc (.cells #[.int .i64 cr, .int .i64 nx, .int .i64 ha, .bool sh, .bool wa, .bool ag, .int .i64 co] 53)) 64 #[.int .i64 ocr, .bool true, .bool false, .int .i64 sq, .slice A l.length d]).alloc (.cells #[.int .i64 0, .int .i64 0, .int .i64 0, .bool false, .bool false, .bool false, .int .i64 0] 53)
    simpa using this
  have hZ : Blk W0 (w.heap.size + 2) 53 #[.int .i64 0, .int .i64 0, .int .i64 0, .bool false, .bool false, .bool false, .int .i64 0] := by
    rw [hW0]
    have := Blk.new ((w.alloc (.cells #[.int .i64 cr, .int .i64 nx, .int .i64 ha, .bool sh, .bool wa, .bool ag, .int .i64 co] 53)).alloc (.cells #[.int .i64 ocr, .bool true, .bool false, .int .i64 sq, .slice A l.length d] 64)) 53 #[.int .i64 0, .int .i64 0, .int .i64 0, .bool false, .bool false, .bool false, .int .i64 0]
    simpa using this
  clear hW0
  obtain ⟨x0, x1, x2, x3, x4, x5, x6, fx⟩ := hG.seven
  obtain ⟨y0, y1, y2, y3, y4, fy⟩ := hO.five
  obtain ⟨k0, k1, k2, k3, k4, k5, k6, fk⟩ := hZ.seven
  go_wp2_with fail
  refine (hm.out _).mono ?_
  rintro e w1 ⟨rfl, hb⟩
  clear x0 x1 x2 x3 x4 x5 x6 fx y0 y1 y2 y3 y4 fy k0 k1 k2 k3 k4 k5 k6 fk
  replace hG := hG.step hb
  replace hO := hO.step hb
  replace hZ := hZ.step hb
  replace hB := nextB hB hB.size hb
  obtain ⟨x0, x1, x2, x3, x4, x5, x6, fx⟩ := hG.seven
  obtain ⟨y0, y1, y2, y3, y4, fy⟩ := hO.five
  obtain ⟨k0, k1, k2, k3, k4, k5, k6, fk⟩ := hZ.seven
  go_wp2_with fail
  refine (ho.out _).mono ?_
  rintro e w2 ⟨rfl, hb⟩
  clear x0 x1 x2 x3 x4 x5 x6 fx y0 y1 y2 y3 y4 fy k0 k1 k2 k3 k4 k5 k6 fk
  replace hG := hG.step hb
  replace hO := hO.step hb
  replace hZ := hZ.step hb
  replace hB := nextB hB hB.size hb
  obtain ⟨x0, x1, x2, x3, x4, x5, x6, fx⟩ := hG.seven
  obtain ⟨y0, y1, y2, y3, y4, fy⟩ := hO.five
  obtain ⟨k0, k1, k2, k3, k4, k5, k6, fk⟩ := hZ.seven
  obtain ⟨yy0, yy1, yy2, yy3, yy4, fyy⟩ := (hO.alloc (.cells #[.int .i64 cr, .int .i64 nx, .int .i64 ha, .bool sh, .bool wa, .bool ag, .int .i64 co] 145)).five
  go_wp2_with fail
  refine (hM.out _ _ (Blk.new _ _ _)).mono ?_
  rintro e w3 ⟨rfl, hG3, hb⟩
  clear x0 x1 x2 x3 x4 x5 x6 fx y0 y1 y2 y3 y4 fy k0 k1 k2 k3 k4 k5 k6 fk
  clear yy0 yy1 yy2 yy3 yy4 fyy
  replace hG := (hG.alloc _).below hb hG.lt
  replace hO := (hO.alloc _).below hb hO.lt
  replace hZ := (hZ.alloc _).below hb hZ.lt
  replace hB := (hB.alloc hB.size _).trans (hb.mono hB.size)
  clear hb
  obtain ⟨v0, v1, v2, v3, v4, v5, v6, fv⟩ := Blk.seven (v0 := .int .i64 cr2) (v1 := .int .i64 nx2) (v2 := .int .i64 ha2) (v3 := .bool sh2) (v4 := .bool wa2) (v5 := .bool ag2) (v6 := .int .i64 co2) hG3
  obtain ⟨x0, x1, x2, x3, x4, x5, x6, fx⟩ := hG.seven
  obtain ⟨y0, y1, y2, y3, y4, fy⟩ := hO.five
  obtain ⟨k0, k1, k2, k3, k4, k5, k6, fk⟩ := hZ.seven
  go_wp2
  refine bodyPost_ret (v := .tuple #[.agg #[.int .i64 cr2, .int .i64 nx2, .int .i64 ha2, .bool sh2, .bool wa2, .bool ag2, .int .i64 co2], .bool true, .int .i64 0]) (by simp [results, Try.results81, go_sem, k0, k1, k2, k3, k4, k5, k6]) rfl ?_
  exact ⟨rfl, (by repeat (first | with_reducible exact Below.refl _ _ | with_reducible assumption | with_reducible refine below_drewN ?_ _ | with_reducible refine Below.drew ?_ | with_reducible refine Below.alloc ?_ ?_ _ | with_reducible refine Below.setCell ?_ ?_ _ | with_reducible exact Nat.le_refl _ | (simp; omega) | (simp; done)))⟩

set_option maxHeartbeats 3200000 in
set_option maxRecDepth 100000 in
theorem acc_num (cr nx ha : Int) (sh wa ag : Bool) (co cr2 nx2 ha2 : Int) (sh2 wa2 ag2 : Bool) (co2 ocr sq : Int) (A : Option Addr) (d : Nat) (room : Bool) (w : World) (l : List UInt8) (hg : guardOk cr ha) (hr : (0 ≤ nx ∧ nx ≤ 255) ∧ (0 ≤ co ∧ co ≤ 3)) (let_ : Bool) (err : Int) (HK : ordMay ⟨ocr, false, false, sq, l⟩ = 0) (hc : ocr = cr)
    (hM : ∀ (g : Nat) (w : World), Blk w g 145 (gb cr nx ha sh wa ag co) → Calls Try.prog 120 #[.pointer (some ⟨g, 0, none⟩), .int .i64 sq, .bool room] w fun e w' => e = .returned (.tuple #[.bool let_, .int .i64 err]) ∧ Blk w' g 145 (gb cr2 nx2 ha2 sh2 wa2 ag2 co2) ∧ Below g w w') :
    Calls Try.prog 81 #[.agg #[.int .i64 cr, .int .i64 nx, .int .i64 ha, .bool sh, .bool wa, .bool ag, .int .i64 co], .agg #[.int .i64 ocr, .bool false, .bool false, .int .i64 sq, .slice A l.length d], .bool room] w fun e w' => e = .returned (.tuple #[.agg #[.int .i64 cr2, .int .i64 nx2, .int .i64 ha2, .bool sh2, .bool wa2, .bool ag2, .int .i64 co2], .bool let_, .int .i64 err]) ∧ Below w.heap.size w w' := by
  replace hM := Lib.hid hM
  have hz : (ocr != cr) = false := by simp [hc]
  clear hc
  have hm := Lib.hid (fun w => stands_yes cr nx ha sh wa ag co w hg hr)
  unfold gv7 at hm
  have ho := Lib.hid (fun w => may_any ⟨ocr, false, false, sq, l⟩ A l.length d w rfl)
  rw [HK] at ho
  simp only at ho
  obtain ⟨⟨a0, a1⟩, ⟨b0, b1⟩⟩ := hr
  obtain ⟨⟨p0, p1⟩, ⟨q0, q1⟩⟩ := hg
  clear HK
  go_enter Try.func81, Try.ntmps81
  go_upto_region 1 with fail
  obtain ⟨W0, hW0⟩ : ∃ W : World, W = ((w.alloc (.cells #[.int .i64 cr, .int .i64 nx, .int .i64 ha, .bool sh, .bool wa, .bool ag, .int .i64 co] 53)).alloc (.cells #[.int .i64 ocr, .bool false, .bool false, .int .i64 sq, .slice A l.length d] 64)).alloc (.cells #[.int .i64 0, .int .i64 0, .int .i64 0, .bool false, .bool false, .bool false, .int .i64 0] 53) := ⟨_, rfl⟩
  rw [← hW0]
  have hB : Below w.heap.size w W0 := by rw [hW0]; exact (((Below.refl _ _).alloc (Nat.le_refl _) _).alloc (le_alloc _ _) _).alloc (Nat.le_trans (le_alloc _ _) (le_alloc _ _)) _
  have hG : Blk W0 w.heap.size 53 #[.int .i64 cr, .int .i64 nx, .int .i64 ha, .bool sh, .bool wa, .bool ag, .int .i64 co] := by rw [hW0]; exact ((Blk.new _ _ _).alloc _).alloc _
  have hO : Blk W0 (w.heap.size + 1) 64 #[.int .i64 ocr, .bool false, .bool false, .int .i64 sq, .slice A l.length d] := by
    rw [hW0]
    have := (Blk.new (w.alloc (.cells #[.int .i64 cr, .int .i64 nx, .int .i64 ha, .bool sh, .bool wa, .bool ag, .int .i64 co] 53)) 64 #[.int .i64 ocr, .bool false, .bool false, .int .i64 sq, .slice A l.length d]).alloc (.cells #[.int .i64 0, .int .i64 0, .int .i64 0, .bool false, .bool false, .bool false, .int .i64 0] 53)
    simpa using this
  have hZ : Blk W0 (w.heap.size + 2) 53 #[.int .i64 0, .int .i64 0, .int .i64 0, .bool false, .bool false, .bool false, .int .i64 0] := by
    rw [hW0]
    have := Blk.new ((w.alloc (.cells #[.int .i64 cr, .int .i64 nx, .int .i64 ha, .bool sh, .bool wa, .bool ag, .int .i64 co] 53)).alloc (.cells #[.int .i64 ocr, .bool false, .bool false, .int .i64 sq, .slice A l.length d] 64)) 53 #[.int .i64 0, .int .i64 0, .int .i64 0, .bool false, .bool false, .bool false, .int .i64 0]
    simpa using this
  clear hW0
  obtain ⟨x0, x1, x2, x3, x4, x5, x6, fx⟩ := hG.seven
  obtain ⟨y0, y1, y2, y3, y4, fy⟩ := hO.five
  obtain ⟨k0, k1, k2, k3, k4, k5, k6, fk⟩ := hZ.seven
  go_wp2_with fail
  refine (hm.out _).mono ?_
  rintro e w1 ⟨rfl, hb⟩
  clear x0 x1 x2 x3 x4 x5 x6 fx y0 y1 y2 y3 y4 fy k0 k1 k2 k3 k4 k5 k6 fk
  replace hG := hG.step hb
  replace hO := hO.step hb
  replace hZ := hZ.step hb
  replace hB := nextB hB hB.size hb
  obtain ⟨x0, x1, x2, x3, x4, x5, x6, fx⟩ := hG.seven
  obtain ⟨y0, y1, y2, y3, y4, fy⟩ := hO.five
  obtain ⟨k0, k1, k2, k3, k4, k5, k6, fk⟩ := hZ.seven
  go_wp2_with fail
  refine (ho.out _).mono ?_
  rintro e w2 ⟨rfl, hb⟩
  clear x0 x1 x2 x3 x4 x5 x6 fx y0 y1 y2 y3 y4 fy k0 k1 k2 k3 k4 k5 k6 fk
  replace hG := hG.step hb
  replace hO := hO.step hb
  replace hZ := hZ.step hb
  replace hB := nextB hB hB.size hb
  obtain ⟨x0, x1, x2, x3, x4, x5, x6, fx⟩ := hG.seven
  obtain ⟨y0, y1, y2, y3, y4, fy⟩ := hO.five
  obtain ⟨k0, k1, k2, k3, k4, k5, k6, fk⟩ := hZ.seven
  obtain ⟨yy0, yy1, yy2, yy3, yy4, fyy⟩ := (hO.alloc (.cells #[.int .i64 cr, .int .i64 nx, .int .i64 ha, .bool sh, .bool wa, .bool ag, .int .i64 co] 145)).five
  go_wp2_with fail
  refine (hM.out _ _ (Blk.new _ _ _)).mono ?_
  rintro e w3 ⟨rfl, hG3, hb⟩
  clear x0 x1 x2 x3 x4 x5 x6 fx y0 y1 y2 y3 y4 fy k0 k1 k2 k3 k4 k5 k6 fk
  clear yy0 yy1 yy2 yy3 yy4 fyy
  replace hG := (hG.alloc _).below hb hG.lt
  replace hO := (hO.alloc _).below hb hO.lt
  replace hZ := (hZ.alloc _).below hb hZ.lt
  replace hB := (hB.alloc hB.size _).trans (hb.mono hB.size)
  clear hb
  obtain ⟨v0, v1, v2, v3, v4, v5, v6, fv⟩ := Blk.seven (v0 := .int .i64 cr2) (v1 := .int .i64 nx2) (v2 := .int .i64 ha2) (v3 := .bool sh2) (v4 := .bool wa2) (v5 := .bool ag2) (v6 := .int .i64 co2) hG3
  obtain ⟨x0, x1, x2, x3, x4, x5, x6, fx⟩ := hG.seven
  obtain ⟨y0, y1, y2, y3, y4, fy⟩ := hO.five
  obtain ⟨k0, k1, k2, k3, k4, k5, k6, fk⟩ := hZ.seven
  go_wp2
  refine bodyPost_ret (v := .tuple #[.agg #[.int .i64 cr2, .int .i64 nx2, .int .i64 ha2, .bool sh2, .bool wa2, .bool ag2, .int .i64 co2], .bool let_, .int .i64 err]) (by simp [results, Try.results81, go_sem, k0, k1, k2, k3, k4, k5, k6]) rfl ?_
  exact ⟨rfl, (by repeat (first | with_reducible exact Below.refl _ _ | with_reducible assumption | with_reducible refine below_drewN ?_ _ | with_reducible refine Below.drew ?_ | with_reducible refine Below.alloc ?_ ?_ _ | with_reducible refine Below.setCell ?_ ?_ _ | with_reducible exact Nat.le_refl _ | (simp; omega) | (simp; done)))⟩

end Go.Proofs.Ytgfkpolklianeaa
