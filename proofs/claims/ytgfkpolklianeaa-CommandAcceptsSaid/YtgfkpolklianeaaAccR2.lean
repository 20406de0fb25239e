/-
  An order comes to a gate, for the gate itself: by the document.
-/
import Derived.Test.YtgfkpolklianeaaAccR
import Derived.Test.YtgfkpolklianeaaOrdDec
namespace Go.Proofs.Ytgfkpolklianeaa
set_option linter.unusedSimpArgs false
set_option linter.unusedVariables false
open Go.RowKit

theorem str_list (l : List UInt8) : (⟨l.toArray⟩ : ByteArray).toList = l := by simp
theorem str_yes : ((⟨[(0 : UInt8)].toArray⟩ : ByteArray).toList == [0]) = true := by rw [str_list]; rfl
theorem str_no {l : List UInt8} (h : l ≠ [0]) : ((⟨l.toArray⟩ : ByteArray).toList == [0]) = false := by
  rw [str_list, beq_eq_false_iff_ne]
  exact h
set_option maxHeartbeats 3200000 in
set_option maxRecDepth 100000 in
theorem racc_free (cr nx hf : Int) (sh wa ag : Bool) (co ocr sq : Int) (b off : Nat) (d : Nat) (room : Bool) (w : World)  (hg : guardOk cr hf) (hr : (0 ≤ nx ∧ nx ≤ 255) ∧ (0 ≤ co ∧ co ≤ 3)) (HK : ordMay ⟨ocr, true, true, sq, [(0 : UInt8)]⟩ = 0) (hc : ocr = cr) (ha : Rd w (some ⟨b, off, none⟩) (bvs [(0 : UInt8)])) :
    Calls Try.prog 80 #[.agg #[.int .i64 cr, .int .i64 nx, .int .i64 hf, .bool sh, .bool wa, .bool ag, .int .i64 co], .agg #[.int .i64 ocr, .bool true, .bool true, .int .i64 sq, .slice (some ⟨b, off, none⟩) 1 d], .bool room] w fun e w' => e = .returned (.tuple #[.agg #[.int .i64 cr, .int .i64 nx, .int .i64 hf, .bool false, .bool false, .bool false, .int .i64 ((co + 1) % 4)], .bool false, .int .i64 0]) ∧ Below w.heap.size w w' := by
  have hm := Lib.hid (fun w => gateMay_yes cr nx hf sh wa ag co w hg hr)
  unfold gv7 at hm
  have ho := Lib.hid (fun w => rmay_any ⟨ocr, true, true, sq, [(0 : UInt8)]⟩ (some ⟨b, off, none⟩) 1 d w rfl)
  rw [HK] at ho
  simp only at ho
  obtain ⟨⟨a0, a1⟩, ⟨b0, b1⟩⟩ := hr
  obtain ⟨⟨p0, p1⟩, ⟨q0, q1⟩⟩ := hg
  clear HK
  have hz : (ocr != cr) = false := by simp [hc]
  clear hc
  go_enter Try.func80, Try.ntmps80
  go_upto_region 1 with fail
  obtain ⟨W0, hW0⟩ : ∃ W : World, W = ((w.alloc (.cells #[.int .i64 cr, .int .i64 nx, .int .i64 hf, .bool sh, .bool wa, .bool ag, .int .i64 co] 53)).alloc (.cells #[.int .i64 ocr, .bool true, .bool true, .int .i64 sq, .slice (some ⟨b, off, none⟩) 1 d] 64)).alloc (.cells #[.int .i64 0, .int .i64 0, .int .i64 0, .bool false, .bool false, .bool false, .int .i64 0] 53) := ⟨_, rfl⟩
  rw [← hW0]
  have hB : Below w.heap.size w W0 := by rw [hW0]; exact (((Below.refl _ _).alloc (Nat.le_refl _) _).alloc (le_alloc _ _) _).alloc (Nat.le_trans (le_alloc _ _) (le_alloc _ _)) _
  have hG : Blk W0 w.heap.size 53 #[.int .i64 cr, .int .i64 nx, .int .i64 hf, .bool sh, .bool wa, .bool ag, .int .i64 co] := by rw [hW0]; exact ((Blk.new _ _ _).alloc _).alloc _
  have hO : Blk W0 (w.heap.size + 1) 64 #[.int .i64 ocr, .bool true, .bool true, .int .i64 sq, .slice (some ⟨b, off, none⟩) 1 d] := by
    rw [hW0]
    have := (Blk.new (w.alloc (.cells #[.int .i64 cr, .int .i64 nx, .int .i64 hf, .bool sh, .bool wa, .bool ag, .int .i64 co] 53)) 64 #[.int .i64 ocr, .bool true, .bool true, .int .i64 sq, .slice (some ⟨b, off, none⟩) 1 d]).alloc (.cells #[.int .i64 0, .int .i64 0, .int .i64 0, .bool false, .bool false, .bool false, .int .i64 0] 53)
    simpa using this
  have hZ : Blk W0 (w.heap.size + 2) 53 #[.int .i64 0, .int .i64 0, .int .i64 0, .bool false, .bool false, .bool false, .int .i64 0] := by
    rw [hW0]
    have := Blk.new ((w.alloc (.cells #[.int .i64 cr, .int .i64 nx, .int .i64 hf, .bool sh, .bool wa, .bool ag, .int .i64 co] 53)).alloc (.cells #[.int .i64 ocr, .bool true, .bool true, .int .i64 sq, .slice (some ⟨b, off, none⟩) 1 d] 64)) 53 #[.int .i64 0, .int .i64 0, .int .i64 0, .bool false, .bool false, .bool false, .int .i64 0]
    simpa using this
  have hA : Rd W0 (some ⟨b, off, none⟩) (bvs [(0 : UInt8)]) := by rw [hW0]; exact ((ha.alloc _).alloc _).alloc _
  clear hW0 ha
  obtain ⟨x0, x1, x2, x3, x4, x5, x6, fx⟩ := hG.seven
  obtain ⟨y0, y1, y2, y3, y4, fy⟩ := hO.five
  obtain ⟨k0, k1, k2, k3, k4, k5, k6, fk⟩ := hZ.seven
  go_wp2_with fail
  refine (hm.out _).mono ?_
  rintro e w1 ⟨rfl, hb⟩
  clear x0 x1 x2 x3 x4 x5 x6 fx y0 y1 y2 y3 y4 fy k0 k1 k2 k3 k4 k5 k6 fk
  replace hG := hG.step hb
  replace hO := hO.step hb
  replace hZ := hZ.step hb
  replace hB := nextB hB hB.size hb
  replace hA := hA.step hb
  obtain ⟨x0, x1, x2, x3, x4, x5, x6, fx⟩ := hG.seven
  obtain ⟨y0, y1, y2, y3, y4, fy⟩ := hO.five
  obtain ⟨k0, k1, k2, k3, k4, k5, k6, fk⟩ := hZ.seven
  go_wp2_with fail
  refine (ho.out _).mono ?_
  rintro e w2 ⟨rfl, hb⟩
  clear x0 x1 x2 x3 x4 x5 x6 fx y0 y1 y2 y3 y4 fy k0 k1 k2 k3 k4 k5 k6 fk
  replace hG := hG.step hb
  replace hO := hO.step hb
  replace hZ := hZ.step hb
  replace hB := nextB hB hB.size hb
  replace hA := hA.step hb
  have h1 := run_convert_Rd (P := Try.prog) w2 30 5 Try.underlying30 Try.underlying5 (some ⟨b, off, none⟩) [(0 : UInt8)] d hA 9 Try.underlying9
  rw [show [(0 : UInt8)].length = 1 from rfl] at h1
  have hE := str_yes
  generalize (⟨[(0 : UInt8)].toArray⟩ : ByteArray) = S at h1 hE
  obtain ⟨x0, x1, x2, x3, x4, x5, x6, fx⟩ := hG.seven
  obtain ⟨y0, y1, y2, y3, y4, fy⟩ := hO.five
  obtain ⟨k0, k1, k2, k3, k4, k5, k6, fk⟩ := hZ.seven
  go_wp2
  refine bodyPost_ret (v := .tuple #[.agg #[.int .i64 cr, .int .i64 nx, .int .i64 hf, .bool false, .bool false, .bool false, .int .i64 ((co + 1) % 4)], .bool false, .int .i64 0]) (by simp [results, Try.results80, go_sem, k0, k1, k2, k3, k4, k5, k6]) rfl ?_
  exact ⟨rfl, (by repeat (first | with_reducible exact Below.refl _ _ | with_reducible assumption | with_reducible refine below_drewN ?_ _ | with_reducible refine Below.drew ?_ | with_reducible refine Below.alloc ?_ ?_ _ | with_reducible refine Below.setCell ?_ ?_ _ | with_reducible exact Nat.le_refl _ | (simp; omega) | (simp; done)))⟩

set_option maxHeartbeats 3200000 in
set_option maxRecDepth 100000 in
theorem racc_ctl_n (cr nx hf : Int) (sh wa ag : Bool) (co ocr sq : Int) (b off : Nat) (d : Nat) (room : Bool) (w : World) (l : List UInt8) (n : Nat) (hl : l.length = n) (h3 : n ≠ 3) (h1 : l ≠ [0]) (hg : guardOk cr hf) (hr : (0 ≤ nx ∧ nx ≤ 255) ∧ (0 ≤ co ∧ co ≤ 3)) (HK : ordMay ⟨ocr, true, true, sq, l⟩ = 0) (hc : ocr = cr) (ha : Rd w (some ⟨b, off, none⟩) (bvs l)) :
    Calls Try.prog 80 #[.agg #[.int .i64 cr, .int .i64 nx, .int .i64 hf, .bool sh, .bool wa, .bool ag, .int .i64 co], .agg #[.int .i64 ocr, .bool true, .bool true, .int .i64 sq, .slice (some ⟨b, off, none⟩) n d], .bool room] w fun e w' => e = .returned (.tuple #[.agg #[.int .i64 cr, .int .i64 nx, .int .i64 hf, .bool sh, .bool wa, .bool ag, .int .i64 co], .bool false, .int .i64 8]) ∧ Below w.heap.size w w' := by
  have hm := Lib.hid (fun w => gateMay_yes cr nx hf sh wa ag co w hg hr)
  unfold gv7 at hm
  have ho := Lib.hid (fun w => rmay_any ⟨ocr, true, true, sq, l⟩ (some ⟨b, off, none⟩) n d w hl)
  rw [HK] at ho
  simp only at ho
  obtain ⟨⟨a0, a1⟩, ⟨b0, b1⟩⟩ := hr
  obtain ⟨⟨p0, p1⟩, ⟨q0, q1⟩⟩ := hg
  clear HK
  have hz : (ocr != cr) = false := by simp [hc]
  clear hc
  have hE := str_no h1
  clear h1
  have hn : ((n : Int) == 3) = false := by rw [beq_eq_false_iff_ne]; omega
  clear h3
  go_enter Try.func80, Try.ntmps80
  go_upto_region 1 with fail
  obtain ⟨W0, hW0⟩ : ∃ W : World, W = ((w.alloc (.cells #[.int .i64 cr, .int .i64 nx, .int .i64 hf, .bool sh, .bool wa, .bool ag, .int .i64 co] 53)).alloc (.cells #[.int .i64 ocr, .bool true, .bool true, .int .i64 sq, .slice (some ⟨b, off, none⟩) n d] 64)).alloc (.cells #[.int .i64 0, .int .i64 0, .int .i64 0, .bool false, .bool false, .bool false, .int .i64 0] 53) := ⟨_, rfl⟩
  rw [← hW0]
  have hB : Below w.heap.size w W0 := by rw [hW0]; exact (((Below.refl _ _).alloc (Nat.le_refl _) _).alloc (le_alloc _ _) _).alloc (Nat.le_trans (le_alloc _ _) (le_alloc _ _)) _
  have hG : Blk W0 w.heap.size 53 #[.int .i64 cr, .int .i64 nx, .int .i64 hf, .bool sh, .bool wa, .bool ag, .int .i64 co] := by rw [hW0]; exact ((Blk.new _ _ _).alloc _).alloc _
  have hO : Blk W0 (w.heap.size + 1) 64 #[.int .i64 ocr, .bool true, .bool true, .int .i64 sq, .slice (some ⟨b, off, none⟩) n d] := by
    rw [hW0]
    have := (Blk.new (w.alloc (.cells #[.int .i64 cr, .int .i64 nx, .int .i64 hf, .bool sh, .bool wa, .bool ag, .int .i64 co] 53)) 64 #[.int .i64 ocr, .bool true, .bool true, .int .i64 sq, .slice (some ⟨b, off, none⟩) n d]).alloc (.cells #[.int .i64 0, .int .i64 0, .int .i64 0, .bool false, .bool false, .bool false, .int .i64 0] 53)
    simpa using this
  have hZ : Blk W0 (w.heap.size + 2) 53 #[.int .i64 0, .int .i64 0, .int .i64 0, .bool false, .bool false, .bool false, .int .i64 0] := by
    rw [hW0]
    have := Blk.new ((w.alloc (.cells #[.int .i64 cr, .int .i64 nx, .int .i64 hf, .bool sh, .bool wa, .bool ag, .int .i64 co] 53)).alloc (.cells #[.int .i64 ocr, .bool true, .bool true, .int .i64 sq, .slice (some ⟨b, off, none⟩) n d] 64)) 53 #[.int .i64 0, .int .i64 0, .int .i64 0, .bool false, .bool false, .bool false, .int .i64 0]
    simpa using this
  have hA : Rd W0 (some ⟨b, off, none⟩) (bvs l) := by rw [hW0]; exact ((ha.alloc _).alloc _).alloc _
  clear hW0 ha
  obtain ⟨x0, x1, x2, x3, x4, x5, x6, fx⟩ := hG.seven
  obtain ⟨y0, y1, y2, y3, y4, fy⟩ := hO.five
  obtain ⟨k0, k1, k2, k3, k4, k5, k6, fk⟩ := hZ.seven
  go_wp2_with fail
  refine (hm.out _).mono ?_
  rintro e w1 ⟨rfl, hb⟩
  clear x0 x1 x2 x3 x4 x5 x6 fx y0 y1 y2 y3 y4 fy k0 k1 k2 k3 k4 k5 k6 fk
  replace hG := hG.step hb
  replace hO := hO.step hb
  replace hZ := hZ.step hb
  replace hB := nextB hB hB.size hb
  replace hA := hA.step hb
  obtain ⟨x0, x1, x2, x3, x4, x5, x6, fx⟩ := hG.seven
  obtain ⟨y0, y1, y2, y3, y4, fy⟩ := hO.five
  obtain ⟨k0, k1, k2, k3, k4, k5, k6, fk⟩ := hZ.seven
  go_wp2_with fail
  refine (ho.out _).mono ?_
  rintro e w2 ⟨rfl, hb⟩
  clear x0 x1 x2 x3 x4 x5 x6 fx y0 y1 y2 y3 y4 fy k0 k1 k2 k3 k4 k5 k6 fk
  replace hG := hG.step hb
  replace hO := hO.step hb
  replace hZ := hZ.step hb
  replace hB := nextB hB hB.size hb
  replace hA := hA.step hb
  have h1 := run_convert_Rd (P := Try.prog) w2 30 5 Try.underlying30 Try.underlying5 (some ⟨b, off, none⟩) l d hA 9 Try.underlying9
  rw [hl] at h1
  clear hl
  generalize (⟨l.toArray⟩ : ByteArray) = S at h1 hE
  obtain ⟨x0, x1, x2, x3, x4, x5, x6, fx⟩ := hG.seven
  obtain ⟨y0, y1, y2, y3, y4, fy⟩ := hO.five
  obtain ⟨k0, k1, k2, k3, k4, k5, k6, fk⟩ := hZ.seven
  go_wp2
  refine bodyPost_ret (v := .tuple #[.agg #[.int .i64 cr, .int .i64 nx, .int .i64 hf, .bool sh, .bool wa, .bool ag, .int .i64 co], .bool false, .int .i64 8]) (by simp [results, Try.results80, go_sem, k0, k1, k2, k3, k4, k5, k6]) rfl ?_
  exact ⟨rfl, (by repeat (first | with_reducible exact Below.refl _ _ | with_reducible assumption | with_reducible refine below_drewN ?_ _ | with_reducible refine Below.drew ?_ | with_reducible refine Below.alloc ?_ ?_ _ | with_reducible refine Below.setCell ?_ ?_ _ | with_reducible exact Nat.le_refl _ | (simp; omega) | (simp; done)))⟩

set_option maxHeartbeats 3200000 in
set_option maxRecDepth 100000 in
theorem racc_ctl_x (cr nx hf : Int) (sh wa ag : Bool) (co ocr sq : Int) (b off : Nat) (d : Nat) (room : Bool) (w : World) (x y z : UInt8) (hx : x ≠ 130) (hg : guardOk cr hf) (hr : (0 ≤ nx ∧ nx ≤ 255) ∧ (0 ≤ co ∧ co ≤ 3)) (HK : ordMay ⟨ocr, true, true, sq, [x, y, z]⟩ = 0) (hc : ocr = cr) (ha : Rd w (some ⟨b, off, none⟩) (bvs [x, y, z])) :
    Calls Try.prog 80 #[.agg #[.int .i64 cr, .int .i64 nx, .int .i64 hf, .bool sh, .bool wa, .bool ag, .int .i64 co], .agg #[.int .i64 ocr, .bool true, .bool true, .int .i64 sq, .slice (some ⟨b, off, none⟩) 3 d], .bool room] w fun e w' => e = .returned (.tuple #[.agg #[.int .i64 cr, .int .i64 nx, .int .i64 hf, .bool sh, .bool wa, .bool ag, .int .i64 co], .bool false, .int .i64 8]) ∧ Below w.heap.size w w' := by
  have hm := Lib.hid (fun w => gateMay_yes cr nx hf sh wa ag co w hg hr)
  unfold gv7 at hm
  have ho := Lib.hid (fun w => rmay_any ⟨ocr, true, true, sq, [x, y, z]⟩ (some ⟨b, off, none⟩) 3 d w rfl)
  rw [HK] at ho
  simp only at ho
  obtain ⟨⟨a0, a1⟩, ⟨b0, b1⟩⟩ := hr
  obtain ⟨⟨p0, p1⟩, ⟨q0, q1⟩⟩ := hg
  clear HK
  have hz : (ocr != cr) = false := by simp [hc]
  clear hc
  have hE := str_no (l := [x, y, z]) (by simp)
  have hX : ((x.toNat : Int) == 130) = false := by rw [beq_eq_false_iff_ne]; intro e; exact hx (UInt8.toNat_inj.1 (by simpa using (by omega : x.toNat = 130)))
  clear hx
  go_enter Try.func80, Try.ntmps80
  go_upto_region 1 with fail
  obtain ⟨W0, hW0⟩ : ∃ W : World, W = ((w.alloc (.cells #[.int .i64 cr, .int .i64 nx, .int .i64 hf, .bool sh, .bool wa, .bool ag, .int .i64 co] 53)).alloc (.cells #[.int .i64 ocr, .bool true, .bool true, .int .i64 sq, .slice (some ⟨b, off, none⟩) 3 d] 64)).alloc (.cells #[.int .i64 0, .int .i64 0, .int .i64 0, .bool false, .bool false, .bool false, .int .i64 0] 53) := ⟨_, rfl⟩
  rw [← hW0]
  have hB : Below w.heap.size w W0 := by rw [hW0]; exact (((Below.refl _ _).alloc (Nat.le_refl _) _).alloc (le_alloc _ _) _).alloc (Nat.le_trans (le_alloc _ _) (le_alloc _ _)) _
  have hG : Blk W0 w.heap.size 53 #[.int .i64 cr, .int .i64 nx, .int .i64 hf, .bool sh, .bool wa, .bool ag, .int .i64 co] := by rw [hW0]; exact ((Blk.new _ _ _).alloc _).alloc _
  have hO : Blk W0 (w.heap.size + 1) 64 #[.int .i64 ocr, .bool true, .bool true, .int .i64 sq, .slice (some ⟨b, off, none⟩) 3 d] := by
    rw [hW0]
    have := (Blk.new (w.alloc (.cells #[.int .i64 cr, .int .i64 nx, .int .i64 hf, .bool sh, .bool wa, .bool ag, .int .i64 co] 53)) 64 #[.int .i64 ocr, .bool true, .bool true, .int .i64 sq, .slice (some ⟨b, off, none⟩) 3 d]).alloc (.cells #[.int .i64 0, .int .i64 0, .int .i64 0, .bool false, .bool false, .bool false, .int .i64 0] 53)
    simpa using this
  have hZ : Blk W0 (w.heap.size + 2) 53 #[.int .i64 0, .int .i64 0, .int .i64 0, .bool false, .bool false, .bool false, .int .i64 0] := by
    rw [hW0]
    have := Blk.new ((w.alloc (.cells #[.int .i64 cr, .int .i64 nx, .int .i64 hf, .bool sh, .bool wa, .bool ag, .int .i64 co] 53)).alloc (.cells #[.int .i64 ocr, .bool true, .bool true, .int .i64 sq, .slice (some ⟨b, off, none⟩) 3 d] 64)) 53 #[.int .i64 0, .int .i64 0, .int .i64 0, .bool false, .bool false, .bool false, .int .i64 0]
    simpa using this
  have hA : Rd W0 (some ⟨b, off, none⟩) (bvs [x, y, z]) := by rw [hW0]; exact ((ha.alloc _).alloc _).alloc _
  clear hW0 ha
  obtain ⟨x0, x1, x2, x3, x4, x5, x6, fx⟩ := hG.seven
  obtain ⟨y0, y1, y2, y3, y4, fy⟩ := hO.five
  obtain ⟨k0, k1, k2, k3, k4, k5, k6, fk⟩ := hZ.seven
  go_wp2_with fail
  refine (hm.out _).mono ?_
  rintro e w1 ⟨rfl, hb⟩
  clear x0 x1 x2 x3 x4 x5 x6 fx y0 y1 y2 y3 y4 fy k0 k1 k2 k3 k4 k5 k6 fk
  replace hG := hG.step hb
  replace hO := hO.step hb
  replace hZ := hZ.step hb
  replace hB := nextB hB hB.size hb
  replace hA := hA.step hb
  obtain ⟨x0, x1, x2, x3, x4, x5, x6, fx⟩ := hG.seven
  obtain ⟨y0, y1, y2, y3, y4, fy⟩ := hO.five
  obtain ⟨k0, k1, k2, k3, k4, k5, k6, fk⟩ := hZ.seven
  go_wp2_with fail
  refine (ho.out _).mono ?_
  rintro e w2 ⟨rfl, hb⟩
  clear x0 x1 x2 x3 x4 x5 x6 fx y0 y1 y2 y3 y4 fy k0 k1 k2 k3 k4 k5 k6 fk
  replace hG := hG.step hb
  replace hO := hO.step hb
  replace hZ := hZ.step hb
  replace hB := nextB hB hB.size hb
  replace hA := hA.step hb
  have h1 := run_convert_Rd (P := Try.prog) w2 30 5 Try.underlying30 Try.underlying5 (some ⟨b, off, none⟩) [x, y, z] d hA 9 Try.underlying9
  rw [show [x, y, z].length = 3 from rfl] at h1
  generalize (⟨[x, y, z].toArray⟩ : ByteArray) = S at h1 hE
  have e0 : w2.cell? ⟨b, off, none⟩ = some (.int .u8 x.toNat) := hA.byteE (k := 0) (by simp)
  have e1 : w2.cell? ⟨b, off + 1, none⟩ = some (.int .u8 y.toNat) := hA.byteE (k := 1) (by simp)
  have e2 : w2.cell? ⟨b, off + 2, none⟩ = some (.int .u8 z.toNat) := hA.byteE (k := 2) (by simp)
  clear e1 e2
  obtain ⟨x0, x1, x2, x3, x4, x5, x6, fx⟩ := hG.seven
  obtain ⟨y0, y1, y2, y3, y4, fy⟩ := hO.five
  obtain ⟨k0, k1, k2, k3, k4, k5, k6, fk⟩ := hZ.seven
  go_wp2
  refine bodyPost_ret (v := .tuple #[.agg #[.int .i64 cr, .int .i64 nx, .int .i64 hf, .bool sh, .bool wa, .bool ag, .int .i64 co], .bool false, .int .i64 8]) (by simp [results, Try.results80, go_sem, k0, k1, k2, k3, k4, k5, k6]) rfl ?_
  exact ⟨rfl, (by repeat (first | with_reducible exact Below.refl _ _ | with_reducible assumption | with_reducible refine below_drewN ?_ _ | with_reducible refine Below.drew ?_ | with_reducible refine Below.alloc ?_ ?_ _ | with_reducible refine Below.setCell ?_ ?_ _ | with_reducible exact Nat.le_refl _ | (simp; omega) | (simp; done)))⟩

set_option maxHeartbeats 3200000 in
set_option maxRecDepth 100000 in
theorem racc_ctl_y (cr nx hf : Int) (sh wa ag : Bool) (co ocr sq : Int) (b off : Nat) (d : Nat) (room : Bool) (w : World) (y z : UInt8) (hy : y ≠ 0) (hg : guardOk cr hf) (hr : (0 ≤ nx ∧ nx ≤ 255) ∧ (0 ≤ co ∧ co ≤ 3)) (HK : ordMay ⟨ocr, true, true, sq, [130, y, z]⟩ = 0) (hc : ocr = cr) (ha : Rd w (some ⟨b, off, none⟩) (bvs [130, y, z])) :
    Calls Try.prog 80 #[.agg #[.int .i64 cr, .int .i64 nx, .int .i64 hf, .bool sh, .bool wa, .bool ag, .int .i64 co], .agg #[.int .i64 ocr, .bool true, .bool true, .int .i64 sq, .slice (some ⟨b, off, none⟩) 3 d], .bool room] w fun e w' => e = .returned (.tuple #[.agg #[.int .i64 cr, .int .i64 nx, .int .i64 hf, .bool sh, .bool wa, .bool ag, .int .i64 co], .bool false, .int .i64 8]) ∧ Below w.heap.size w w' := by
  have hm := Lib.hid (fun w => gateMay_yes cr nx hf sh wa ag co w hg hr)
  unfold gv7 at hm
  have ho := Lib.hid (fun w => rmay_any ⟨ocr, true, true, sq, [130, y, z]⟩ (some ⟨b, off, none⟩) 3 d w rfl)
  rw [HK] at ho
  simp only at ho
  obtain ⟨⟨a0, a1⟩, ⟨b0, b1⟩⟩ := hr
  obtain ⟨⟨p0, p1⟩, ⟨q0, q1⟩⟩ := hg
  clear HK
  have hz : (ocr != cr) = false := by simp [hc]
  clear hc
  have hE := str_no (l := [130, y, z]) (by simp)
  have hY : ((y.toNat : Int) == 0) = false := by rw [beq_eq_false_iff_ne]; intro e; exact hy (UInt8.toNat_inj.1 (by simpa using (by omega : y.toNat = 0)))
  clear hy
  go_enter Try.func80, Try.ntmps80
  go_upto_region 1 with fail
  obtain ⟨W0, hW0⟩ : ∃ W : World, W = ((w.alloc (.cells #[.int .i64 cr, .int .i64 nx, .int .i64 hf, .bool sh, .bool wa, .bool ag, .int .i64 co] 53)).alloc (.cells #[.int .i64 ocr, .bool true, .bool true, .int .i64 sq, .slice (some ⟨b, off, none⟩) 3 d] 64)).alloc (.cells #[.int .i64 0, .int .i64 0, .int .i64 0, .bool false, .bool false, .bool false, .int .i64 0] 53) := ⟨_, rfl⟩
  rw [← hW0]
  have hB : Below w.heap.size w W0 := by rw [hW0]; exact (((Below.refl _ _).alloc (Nat.le_refl _) _).alloc (le_alloc _ _) _).alloc (Nat.le_trans (le_alloc _ _) (le_alloc _ _)) _
  have hG : Blk W0 w.heap.size 53 #[.int .i64 cr, .int .i64 nx, .int .i64 hf, .bool sh, .bool wa, .bool ag, .int .i64 co] := by rw [hW0]; exact ((Blk.new _ _ _).alloc _).alloc _
  have hO : Blk W0 (w.heap.size + 1) 64 #[.int .i64 ocr, .bool true, .bool true, .int .i64 sq, .slice (some ⟨b, off, none⟩) 3 d] := by
    rw [hW0]
    have := (Blk.new (w.alloc (.cells #[.int .i64 cr, .int .i64 nx, .int .i64 hf, .bool sh, .bool wa, .bool ag, .int .i64 co] 53)) 64 #[.int .i64 ocr, .bool true, .bool true, .int .i64 sq, .slice (some ⟨b, off, none⟩) 3 d]).alloc (.cells #[.int .i64 0, .int .i64 0, .int .i64 0, .bool false, .bool false, .bool false, .int .i64 0] 53)
    simpa using this
  have hZ : Blk W0 (w.heap.size + 2) 53 #[.int .i64 0, .int .i64 0, .int .i64 0, .bool false, .bool false, .bool false, .int .i64 0] := by
    rw [hW0]
    have := Blk.new ((w.alloc (.cells #[.int .i64 cr, .int .i64 nx, .int .i64 hf, .bool sh, .bool wa, .bool ag, .int .i64 co] 53)).alloc (.cells #[.int .i64 ocr, .bool true, .bool true, .int .i64 sq, .slice (some ⟨b, off, none⟩) 3 d] 64)) 53 #[.int .i64 0, .int .i64 0, .int .i64 0, .bool false, .bool false, .bool false, .int .i64 0]
    simpa using this
  have hA : Rd W0 (some ⟨b, off, none⟩) (bvs [130, y, z]) := by rw [hW0]; exact ((ha.alloc _).alloc _).alloc _
  clear hW0 ha
  obtain ⟨x0, x1, x2, x3, x4, x5, x6, fx⟩ := hG.seven
  obtain ⟨y0, y1, y2, y3, y4, fy⟩ := hO.five
  obtain ⟨k0, k1, k2, k3, k4, k5, k6, fk⟩ := hZ.seven
  go_wp2_with fail
  refine (hm.out _).mono ?_
  rintro e w1 ⟨rfl, hb⟩
  clear x0 x1 x2 x3 x4 x5 x6 fx y0 y1 y2 y3 y4 fy k0 k1 k2 k3 k4 k5 k6 fk
  replace hG := hG.step hb
  replace hO := hO.step hb
  replace hZ := hZ.step hb
  replace hB := nextB hB hB.size hb
  replace hA := hA.step hb
  obtain ⟨x0, x1, x2, x3, x4, x5, x6, fx⟩ := hG.seven
  obtain ⟨y0, y1, y2, y3, y4, fy⟩ := hO.five
  obtain ⟨k0, k1, k2, k3, k4, k5, k6, fk⟩ := hZ.seven
  go_wp2_with fail
  refine (ho.out _).mono ?_
  rintro e w2 ⟨rfl, hb⟩
  clear x0 x1 x2 x3 x4 x5 x6 fx y0 y1 y2 y3 y4 fy k0 k1 k2 k3 k4 k5 k6 fk
  replace hG := hG.step hb
  replace hO := hO.step hb
  replace hZ := hZ.step hb
  replace hB := nextB hB hB.size hb
  replace hA := hA.step hb
  have h1 := run_convert_Rd (P := Try.prog) w2 30 5 Try.underlying30 Try.underlying5 (some ⟨b, off, none⟩) [130, y, z] d hA 9 Try.underlying9
  rw [show [130, y, z].length = 3 from rfl] at h1
  generalize (⟨[130, y, z].toArray⟩ : ByteArray) = S at h1 hE
  have e0 : w2.cell? ⟨b, off, none⟩ = some (.int .u8 130) := hA.byteE (k := 0) (by simp)
  have e1 : w2.cell? ⟨b, off + 1, none⟩ = some (.int .u8 y.toNat) := hA.byteE (k := 1) (by simp)
  have e2 : w2.cell? ⟨b, off + 2, none⟩ = some (.int .u8 z.toNat) := hA.byteE (k := 2) (by simp)
  clear e2
  obtain ⟨x0, x1, x2, x3, x4, x5, x6, fx⟩ := hG.seven
  obtain ⟨y0, y1, y2, y3, y4, fy⟩ := hO.five
  obtain ⟨k0, k1, k2, k3, k4, k5, k6, fk⟩ := hZ.seven
  go_wp2
  refine bodyPost_ret (v := .tuple #[.agg #[.int .i64 cr, .int .i64 nx, .int .i64 hf, .bool sh, .bool wa, .bool ag, .int .i64 co], .bool false, .int .i64 8]) (by simp [results, Try.results80, go_sem, k0, k1, k2, k3, k4, k5, k6]) rfl ?_
  exact ⟨rfl, (by repeat (first | with_reducible exact Below.refl _ _ | with_reducible assumption | with_reducible refine below_drewN ?_ _ | with_reducible refine Below.drew ?_ | with_reducible refine Below.alloc ?_ ?_ _ | with_reducible refine Below.setCell ?_ ?_ _ | with_reducible exact Nat.le_refl _ | (simp; omega) | (simp; done)))⟩

set_option maxHeartbeats 3200000 in
set_option maxRecDepth 100000 in
theorem racc_open (cr nx hf : Int) (wa ag : Bool) (co ocr sq : Int) (b off : Nat) (d : Nat) (room : Bool) (w : World) (z : UInt8) (hg : guardOk cr hf) (hr : (0 ≤ nx ∧ nx ≤ 255) ∧ (0 ≤ co ∧ co ≤ 3)) (HK : ordMay ⟨ocr, true, true, sq, [130, 0, z]⟩ = 0) (hc : ocr = cr) (ha : Rd w (some ⟨b, off, none⟩) (bvs [130, 0, z])) :
    Calls Try.prog 80 #[.agg #[.int .i64 cr, .int .i64 nx, .int .i64 hf, .bool false, .bool wa, .bool ag, .int .i64 co], .agg #[.int .i64 ocr, .bool true, .bool true, .int .i64 sq, .slice (some ⟨b, off, none⟩) 3 d], .bool room] w fun e w' => e = .returned (.tuple #[.agg #[.int .i64 cr, .int .i64 z.toNat, .int .i64 hf, .bool false, .bool false, .bool false, .int .i64 ((co + 1) % 4)], .bool false, .int .i64 0]) ∧ Below w.heap.size w w' := by
  have hm := Lib.hid (fun w => gateMay_yes cr nx hf false wa ag co w hg hr)
  unfold gv7 at hm
  have ho := Lib.hid (fun w => rmay_any ⟨ocr, true, true, sq, [130, 0, z]⟩ (some ⟨b, off, none⟩) 3 d w rfl)
  rw [HK] at ho
  simp only at ho
  obtain ⟨⟨a0, a1⟩, ⟨b0, b1⟩⟩ := hr
  obtain ⟨⟨p0, p1⟩, ⟨q0, q1⟩⟩ := hg
  clear HK
  have hz : (ocr != cr) = false := by simp [hc]
  clear hc
  have hE := str_no (l := [130, 0, z]) (by simp)
  go_enter Try.func80, Try.ntmps80
  go_upto_region 1 with fail
  obtain ⟨W0, hW0⟩ : ∃ W : World, W = ((w.alloc (.cells #[.int .i64 cr, .int .i64 nx, .int .i64 hf, .bool false, .bool wa, .bool ag, .int .i64 co] 53)).alloc (.cells #[.int .i64 ocr, .bool true, .bool true, .int .i64 sq, .slice (some ⟨b, off, none⟩) 3 d] 64)).alloc (.cells #[.int .i64 0, .int .i64 0, .int .i64 0, .bool false, .bool false, .bool false, .int .i64 0] 53) := ⟨_, rfl⟩
  rw [← hW0]
  have hB : Below w.heap.size w W0 := by rw [hW0]; exact (((Below.refl _ _).alloc (Nat.le_refl _) _).alloc (le_alloc _ _) _).alloc (Nat.le_trans (le_alloc _ _) (le_alloc _ _)) _
  have hG : Blk W0 w.heap.size 53 #[.int .i64 cr, .int .i64 nx, .int .i64 hf, .bool false, .bool wa, .bool ag, .int .i64 co] := by rw [hW0]; exact ((Blk.new _ _ _).alloc _).alloc _
  have hO : Blk W0 (w.heap.size + 1) 64 #[.int .i64 ocr, .bool true, .bool true, .int .i64 sq, .slice (some ⟨b, off, none⟩) 3 d] := by
    rw [hW0]
    have := (Blk.new (w.alloc (.cells #[.int .i64 cr, .int .i64 nx, .int .i64 hf, .bool false, .bool wa, .bool ag, .int .i64 co] 53)) 64 #[.int .i64 ocr, .bool true, .bool true, .int .i64 sq, .slice (some ⟨b, off, none⟩) 3 d]).alloc (.cells #[.int .i64 0, .int .i64 0, .int .i64 0, .bool false, .bool false, .bool false, .int .i64 0] 53)
    simpa using this
  have hZ : Blk W0 (w.heap.size + 2) 53 #[.int .i64 0, .int .i64 0, .int .i64 0, .bool false, .bool false, .bool false, .int .i64 0] := by
    rw [hW0]
    have := Blk.new ((w.alloc (.cells #[.int .i64 cr, .int .i64 nx, .int .i64 hf, .bool false, .bool wa, .bool ag, .int .i64 co] 53)).alloc (.cells #[.int .i64 ocr, .bool true, .bool true, .int .i64 sq, .slice (some ⟨b, off, none⟩) 3 d] 64)) 53 #[.int .i64 0, .int .i64 0, .int .i64 0, .bool false, .bool false, .bool false, .int .i64 0]
    simpa using this
  have hA : Rd W0 (some ⟨b, off, none⟩) (bvs [130, 0, z]) := by rw [hW0]; exact ((ha.alloc _).alloc _).alloc _
  clear hW0 ha
  obtain ⟨x0, x1, x2, x3, x4, x5, x6, fx⟩ := hG.seven
  obtain ⟨y0, y1, y2, y3, y4, fy⟩ := hO.five
  obtain ⟨k0, k1, k2, k3, k4, k5, k6, fk⟩ := hZ.seven
  go_wp2_with fail
  refine (hm.out _).mono ?_
  rintro e w1 ⟨rfl, hb⟩
  clear x0 x1 x2 x3 x4 x5 x6 fx y0 y1 y2 y3 y4 fy k0 k1 k2 k3 k4 k5 k6 fk
  replace hG := hG.step hb
  replace hO := hO.step hb
  replace hZ := hZ.step hb
  replace hB := nextB hB hB.size hb
  replace hA := hA.step hb
  obtain ⟨x0, x1, x2, x3, x4, x5, x6, fx⟩ := hG.seven
  obtain ⟨y0, y1, y2, y3, y4, fy⟩ := hO.five
  obtain ⟨k0, k1, k2, k3, k4, k5, k6, fk⟩ := hZ.seven
  go_wp2_with fail
  refine (ho.out _).mono ?_
  rintro e w2 ⟨rfl, hb⟩
  clear x0 x1 x2 x3 x4 x5 x6 fx y0 y1 y2 y3 y4 fy k0 k1 k2 k3 k4 k5 k6 fk
  replace hG := hG.step hb
  replace hO := hO.step hb
  replace hZ := hZ.step hb
  replace hB := nextB hB hB.size hb
  replace hA := hA.step hb
  have h1 := run_convert_Rd (P := Try.prog) w2 30 5 Try.underlying30 Try.underlying5 (some ⟨b, off, none⟩) [130, 0, z] d hA 9 Try.underlying9
  rw [show [130, 0, z].length = 3 from rfl] at h1
  generalize (⟨[130, 0, z].toArray⟩ : ByteArray) = S at h1 hE
  have e0 : w2.cell? ⟨b, off, none⟩ = some (.int .u8 130) := hA.byteE (k := 0) (by simp)
  have e1 : w2.cell? ⟨b, off + 1, none⟩ = some (.int .u8 0) := hA.byteE (k := 1) (by simp)
  have e2 : w2.cell? ⟨b, off + 2, none⟩ = some (.int .u8 z.toNat) := hA.byteE (k := 2) (by simp)
  have gz := byte_lt z
  obtain ⟨x0, x1, x2, x3, x4, x5, x6, fx⟩ := hG.seven
  obtain ⟨y0, y1, y2, y3, y4, fy⟩ := hO.five
  obtain ⟨k0, k1, k2, k3, k4, k5, k6, fk⟩ := hZ.seven
  go_wp2
  refine bodyPost_ret (v := .tuple #[.agg #[.int .i64 cr, .int .i64 z.toNat, .int .i64 hf, .bool false, .bool false, .bool false, .int .i64 ((co + 1) % 4)], .bool false, .int .i64 0]) (by simp [results, Try.results80, go_sem, k0, k1, k2, k3, k4, k5, k6]) rfl ?_
  exact ⟨rfl, (by repeat (first | with_reducible exact Below.refl _ _ | with_reducible assumption | with_reducible refine below_drewN ?_ _ | with_reducible refine Below.drew ?_ | with_reducible refine Below.alloc ?_ ?_ _ | with_reducible refine Below.setCell ?_ ?_ _ | with_reducible exact Nat.le_refl _ | (simp; omega) | (simp; done)))⟩

set_option maxHeartbeats 3200000 in
set_option maxRecDepth 100000 in
theorem racc_stay (cr nx hf : Int) (wa ag : Bool) (co ocr sq : Int) (b off : Nat) (d : Nat) (room : Bool) (w : World) (z : UInt8) (hg : guardOk cr hf) (hr : (0 ≤ nx ∧ nx ≤ 255) ∧ (0 ≤ co ∧ co ≤ 3)) (HK : ordMay ⟨ocr, true, true, sq, [130, 0, z]⟩ = 0) (hc : ocr = cr) (ha : Rd w (some ⟨b, off, none⟩) (bvs [130, 0, z])) :
    Calls Try.prog 80 #[.agg #[.int .i64 cr, .int .i64 nx, .int .i64 hf, .bool true, .bool wa, .bool ag, .int .i64 co], .agg #[.int .i64 ocr, .bool true, .bool true, .int .i64 sq, .slice (some ⟨b, off, none⟩) 3 d], .bool room] w fun e w' => e = .returned (.tuple #[.agg #[.int .i64 cr, .int .i64 nx, .int .i64 hf, .bool true, .bool wa, .bool ag, .int .i64 ((co + 1) % 4)], .bool false, .int .i64 0]) ∧ Below w.heap.size w w' := by
  have hm := Lib.hid (fun w => gateMay_yes cr nx hf true wa ag co w hg hr)
  unfold gv7 at hm
  have ho := Lib.hid (fun w => rmay_any ⟨ocr, true, true, sq, [130, 0, z]⟩ (some ⟨b, off, none⟩) 3 d w rfl)
  rw [HK] at ho
  simp only at ho
  obtain ⟨⟨a0, a1⟩, ⟨b0, b1⟩⟩ := hr
  obtain ⟨⟨p0, p1⟩, ⟨q0, q1⟩⟩ := hg
  clear HK
  have hz : (ocr != cr) = false := by simp [hc]
  clear hc
  have hE := str_no (l := [130, 0, z]) (by simp)
  go_enter Try.func80, Try.ntmps80
  go_upto_region 1 with fail
  obtain ⟨W0, hW0⟩ : ∃ W : World, W = ((w.alloc (.cells #[.int .i64 cr, .int .i64 nx, .int .i64 hf, .bool true, .bool wa, .bool ag, .int .i64 co] 53)).alloc (.cells #[.int .i64 ocr, .bool true, .bool true, .int .i64 sq, .slice (some ⟨b, off, none⟩) 3 d] 64)).alloc (.cells #[.int .i64 0, .int .i64 0, .int .i64 0, .bool false, .bool false, .bool false, .int .i64 0] 53) := ⟨_, rfl⟩
  rw [← hW0]
  have hB : Below w.heap.size w W0 := by rw [hW0]; exact (((Below.refl _ _).alloc (Nat.le_refl _) _).alloc (le_alloc _ _) _).alloc (Nat.le_trans (le_alloc _ _) (le_alloc _ _)) _
  have hG : Blk W0 w.heap.size 53 #[.int .i64 cr, .int .i64 nx, .int .i64 hf, .bool true, .bool wa, .bool ag, .int .i64 co] := by rw [hW0]; exact ((Blk.new _ _ _).alloc _).alloc _
  have hO : Blk W0 (w.heap.size + 1) 64 #[.int .i64 ocr, .bool true, .bool true, .int .i64 sq, .slice (some ⟨b, off, none⟩) 3 d] := by
    rw [hW0]
    have := (Blk.new (w.alloc (.cells #[.int .i64 cr, .int .i64 nx, .int .i64 hf, .bool true, .bool wa, .bool ag, .int .i64 co] 53)) 64 #[.int .i64 ocr, .bool true, .bool true, .int .i64 sq, .slice (some ⟨b, off, none⟩) 3 d]).alloc (.cells #[.int .i64 0, .int .i64 0, .int .i64 0, .bool false, .bool false, .bool false, .int .i64 0] 53)
    simpa using this
  have hZ : Blk W0 (w.heap.size + 2) 53 #[.int .i64 0, .int .i64 0, .int .i64 0, .bool false, .bool false, .bool false, .int .i64 0] := by
    rw [hW0]
    have := Blk.new ((w.alloc (.cells #[.int .i64 cr, .int .i64 nx, .int .i64 hf, .bool true, .bool wa, .bool ag, .int .i64 co] 53)).alloc (.cells #[.int .i64 ocr, .bool true, .bool true, .int .i64 sq, .slice (some ⟨b, off, none⟩) 3 d] 64)) 53 #[.int .i64 0, .int .i64 0, .int .i64 0, .bool false, .bool false, .bool false, .int .i64 0]
    simpa using this
  have hA : Rd W0 (some ⟨b, off, none⟩) (bvs [130, 0, z]) := by rw [hW0]; exact ((ha.alloc _).alloc _).alloc _
  clear hW0 ha
  obtain ⟨x0, x1, x2, x3, x4, x5, x6, fx⟩ := hG.seven
  obtain ⟨y0, y1, y2, y3, y4, fy⟩ := hO.five
  obtain ⟨k0, k1, k2, k3, k4, k5, k6, fk⟩ := hZ.seven
  go_wp2_with fail
  refine (hm.out _).mono ?_
  rintro e w1 ⟨rfl, hb⟩
  clear x0 x1 x2 x3 x4 x5 x6 fx y0 y1 y2 y3 y4 fy k0 k1 k2 k3 k4 k5 k6 fk
  replace hG := hG.step hb
  replace hO := hO.step hb
  replace hZ := hZ.step hb
  replace hB := nextB hB hB.size hb
  replace hA := hA.step hb
  obtain ⟨x0, x1, x2, x3, x4, x5, x6, fx⟩ := hG.seven
  obtain ⟨y0, y1, y2, y3, y4, fy⟩ := hO.five
  obtain ⟨k0, k1, k2, k3, k4, k5, k6, fk⟩ := hZ.seven
  go_wp2_with fail
  refine (ho.out _).mono ?_
  rintro e w2 ⟨rfl, hb⟩
  clear x0 x1 x2 x3 x4 x5 x6 fx y0 y1 y2 y3 y4 fy k0 k1 k2 k3 k4 k5 k6 fk
  replace hG := hG.step hb
  replace hO := hO.step hb
  replace hZ := hZ.step hb
  replace hB := nextB hB hB.size hb
  replace hA := hA.step hb
  have h1 := run_convert_Rd (P := Try.prog) w2 30 5 Try.underlying30 Try.underlying5 (some ⟨b, off, none⟩) [130, 0, z] d hA 9 Try.underlying9
  rw [show [130, 0, z].length = 3 from rfl] at h1
  generalize (⟨[130, 0, z].toArray⟩ : ByteArray) = S at h1 hE
  have e0 : w2.cell? ⟨b, off, none⟩ = some (.int .u8 130) := hA.byteE (k := 0) (by simp)
  have e1 : w2.cell? ⟨b, off + 1, none⟩ = some (.int .u8 0) := hA.byteE (k := 1) (by simp)
  have e2 : w2.cell? ⟨b, off + 2, none⟩ = some (.int .u8 z.toNat) := hA.byteE (k := 2) (by simp)
  have gz := byte_lt z
  obtain ⟨x0, x1, x2, x3, x4, x5, x6, fx⟩ := hG.seven
  obtain ⟨y0, y1, y2, y3, y4, fy⟩ := hO.five
  obtain ⟨k0, k1, k2, k3, k4, k5, k6, fk⟩ := hZ.seven
  go_wp2
  refine bodyPost_ret (v := .tuple #[.agg #[.int .i64 cr, .int .i64 nx, .int .i64 hf, .bool true, .bool wa, .bool ag, .int .i64 ((co + 1) % 4)], .bool false, .int .i64 0]) (by simp [results, Try.results80, go_sem, k0, k1, k2, k3, k4, k5, k6]) rfl ?_
  exact ⟨rfl, (by repeat (first | with_reducible exact Below.refl _ _ | with_reducible assumption | with_reducible refine below_drewN ?_ _ | with_reducible refine Below.drew ?_ | with_reducible refine Below.alloc ?_ ?_ _ | with_reducible refine Below.setCell ?_ ?_ _ | with_reducible exact Nat.le_refl _ | (simp; omega) | (simp; done)))⟩

end Go.Proofs.Ytgfkpolklianeaa
