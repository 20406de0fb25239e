import Derived.Test.YtgfkpolklianeaaRoomy
import Derived.Test.YtgfkpolklianeaaLeft
import Derived.Test.YtgfkpolklianeaaStep
import Derived.Test.YtgfkpolklianeaaAccQ
import Derived.Test.YtgfkpolklianeaaWCommandGates
namespace Go.Proofs.Ytgfkpolklianeaa
set_option linter.unusedSimpArgs false
set_option linter.unusedVariables false
open Go.RowKit

set_option maxHeartbeats 3200000 in
set_option maxRecDepth 100000 in
theorem commandAccepts_walk (x : Gt) (o : Ord) (A : Option Addr) (c : Nat) (room : Bool) (w : World) (ha : Rd w A (bvs o.data)) (hc : o.data.length ≤ c) (hn : o.data.length ≤ 140737488351232) :
    Calls Try.prog 16 #[gtv x, ordv o A c, .bool room] w fun e w' => e = .returned (.bool true) ∧ Below w.heap.size w w' := by
  obtain ⟨cr, nx, hf, sh, wa, ag, co⟩ := x
  obtain ⟨ocr, byp, ctl, sq, l⟩ := o
  simp only at ha hc hn
  obtain ⟨a1, a2, a3, a4, a5, a6, a7, tt, kk, c1, c2⟩ := acc_both cr nx hf sh wa ag co ocr byp ctl sq l room
  have C1 := Lib.hid c1
  have C2 := Lib.hid c2
  have q1 := eq_gate a1 a2 a3 a4 a5 a6 a7
  have q3 := guard_gate
  clear c1 c2
  have ha0 := ha
  unfold argv ansv at C1 C2
  unfold gv7 at q1
  unfold ordv gtv
  go_enter Try.func16, Try.ntmps16
  go_wp2_with fail
  obtain ⟨W1, hW1⟩ : ∃ W : World, W = ((w.alloc (.cells #[.int .i64 cr, .int .i64 nx, .int .i64 hf, .bool sh, .bool wa, .bool ag, .int .i64 co] 53)).alloc (.cells #[.int .i64 ocr, .bool byp, .bool ctl, .int .i64 sq, .slice A l.length c] 64)).alloc (.cells #[.int .i64 ocr, .bool byp, .bool ctl, .int .i64 sq, .slice A l.length c] 64) := ⟨_, rfl⟩
  rw [← hW1]
  have hB : Below w.heap.size w W1 := by rw [hW1]; exact (((Below.refl _ _).alloc (Nat.le_refl _) _).alloc (le_alloc _ _) _).alloc (Nat.le_trans (le_alloc _ _) (le_alloc _ _)) _
  have hG : Blk W1 w.heap.size 53 #[.int .i64 cr, .int .i64 nx, .int .i64 hf, .bool sh, .bool wa, .bool ag, .int .i64 co] := by rw [hW1]; exact ((Blk.new _ _ _).alloc _).alloc _
  have hK : Blk W1 (w.heap.size + 1) 64 #[.int .i64 ocr, .bool byp, .bool ctl, .int .i64 sq, .slice A l.length c] := by
    rw [hW1]
    have := (Blk.new (w.alloc (.cells #[.int .i64 cr, .int .i64 nx, .int .i64 hf, .bool sh, .bool wa, .bool ag, .int .i64 co] 53)) 64 #[.int .i64 ocr, .bool byp, .bool ctl, .int .i64 sq, .slice A l.length c]).alloc (.cells #[.int .i64 ocr, .bool byp, .bool ctl, .int .i64 sq, .slice A l.length c] 64)
    simpa using this
  have hL : Blk W1 (w.heap.size + 2) 64 #[.int .i64 ocr, .bool byp, .bool ctl, .int .i64 sq, .slice A l.length c] := by
    rw [hW1]
    have := Blk.new ((w.alloc (.cells #[.int .i64 cr, .int .i64 nx, .int .i64 hf, .bool sh, .bool wa, .bool ag, .int .i64 co] 53)).alloc (.cells #[.int .i64 ocr, .bool byp, .bool ctl, .int .i64 sq, .slice A l.length c] 64)) 64 #[.int .i64 ocr, .bool byp, .bool ctl, .int .i64 sq, .slice A l.length c]
    simpa using this
  have hz : W1.heap.size = w.heap.size + 3 := by rw [hW1]; simp
  have Hz := Nat.le_of_eq hz.symm
  replace ha := ha.below hB
  clear hW1 hz
  refine (roomy_any A l c W1 ha hn).mono ?_
  rintro e w2 ⟨g, rfl, hg, hR, hb⟩
  replace hG := hG.step hb
  replace hK := hK.step hb
  replace hL := hL.step hb
  replace ha := ha.step hb
  have t1 := hb.size
  have r1 := RoomK.lt hR
  replace hB := nextB hB hB.size hb
  obtain ⟨x0, x1, x2, x3, x4, fx⟩ := hL.five
  go_upto_region 3 with fail
  obtain ⟨W2, hW2⟩ : ∃ W : World, W = w2.setCell ⟨w.heap.size + 1 + 1, 4, none⟩ (.slice (some ⟨g, 0, none⟩) l.length (l.length + 5)) := ⟨_, rfl⟩
  rw [← hW2]
  have hL2 : Blk W2 (w.heap.size + 2) 64 #[.int .i64 ocr, .bool byp, .bool ctl, .int .i64 sq, .slice (some ⟨g, 0, none⟩) l.length (l.length + 5)] := by
    rw [hW2]
    exact hL.set_ 4 _
  have hK2 : Blk W2 (w.heap.size + 1) 64 #[.int .i64 ocr, .bool byp, .bool ctl, .int .i64 sq, .slice A l.length c] := by rw [hW2]; exact hK.far (by simp) _
  have hG2 : Blk W2 w.heap.size 53 #[.int .i64 cr, .int .i64 nx, .int .i64 hf, .bool sh, .bool wa, .bool ag, .int .i64 co] := by rw [hW2]; exact hG.far (show w.heap.size ≠ w.heap.size + 1 + 1 by omega) _
  have hR2 : Room W2 g l := RoomK.keep hR (by rw [hW2]; exact Below.heap_setCell _ _ _ _ (by simp; omega))
  have hB2 : Below w.heap.size w W2 := by rw [hW2]; exact hB.setCell (show w.heap.size ≤ w.heap.size + 1 + 1 by omega) _
  have hz2 : w2.heap.size ≤ W2.heap.size := by rw [hW2]; simp
  have ha2 := ha0.below hB2
  clear hW2 x0 x1 x2 x3 x4 fx hL hK hR hB ha hb hG
  obtain ⟨x0, x1, x2, x3, x4, fx⟩ := hK2.five
  obtain ⟨y0, y1, y2, y3, y4, y5, y6, fy⟩ := hG2.seven
  go_wp2_with fail
  refine (C1.out _ _ _ ha2).mono ?_
  rintro e w3 ⟨rfl, hb⟩
  clear x0 x1 x2 x3 x4 fx y0 y1 y2 y3 y4 y5 y6 fy
  replace hG2 := hG2.step hb
  replace hK2 := hK2.step hb
  replace hL2 := hL2.step hb
  replace hR2 := hR2.step hb
  replace ha2 := ha2.step hb
  replace hB2 := nextB hB2 hB2.size hb
  go_upto_region 4 with fail
  obtain ⟨W3, hW3⟩ : ∃ W : World, W = w3.alloc (.cells #[.int .i64 a1, .int .i64 a2, .int .i64 a3, .bool a4, .bool a5, .bool a6, .int .i64 a7] 53) := ⟨_, rfl⟩
  have hb : Below w3.heap.size w3 W3 := by rw [hW3]; exact (by repeat (first | with_reducible exact Below.refl _ _ | with_reducible assumption | with_reducible refine below_drewN ?_ _ | with_reducible refine Below.drew ?_ | with_reducible refine Below.alloc ?_ ?_ _ | with_reducible refine Below.setCell ?_ ?_ _ | with_reducible exact Nat.le_refl _ | (simp; omega) | (simp; done)))
  have hK3 : Blk W3 w3.heap.size 53 #[.int .i64 a1, .int .i64 a2, .int .i64 a3, .bool a4, .bool a5, .bool a6, .int .i64 a7] := by rw [hW3]; exact Blk.new _ _ _
  replace hG2 := hG2.step hb
  replace hK2 := hK2.step hb
  replace hL2 := hL2.step hb
  replace hR2 := hR2.step hb
  replace ha2 := ha2.step hb
  replace hB2 := nextB hB2 hB2.size hb
  rw [← hW3]
  clear hW3
  obtain ⟨x0, x1, x2, x3, x4, fx⟩ := hL2.five
  obtain ⟨y0, y1, y2, y3, y4, y5, y6, fy⟩ := hG2.seven
  go_wp2_with fail
  refine (C2.out _ _ _ hR2.rd).mono ?_
  rintro e w4 ⟨rfl, hb⟩
  clear x0 x1 x2 x3 x4 fx y0 y1 y2 y3 y4 y5 y6 fy
  replace hG2 := hG2.step hb
  replace hK2 := hK2.step hb
  replace hL2 := hL2.step hb
  replace hR2 := hR2.step hb
  replace ha2 := ha2.step hb
  replace hK3 := hK3.step hb
  replace hB2 := nextB hB2 hB2.size hb
  go_upto_region 5 with fail
  obtain ⟨W4, hW4⟩ : ∃ W : World, W = w4.alloc (.cells #[.int .i64 a1, .int .i64 a2, .int .i64 a3, .bool a4, .bool a5, .bool a6, .int .i64 a7] 53) := ⟨_, rfl⟩
  have hb : Below w4.heap.size w4 W4 := by rw [hW4]; exact (by repeat (first | with_reducible exact Below.refl _ _ | with_reducible assumption | with_reducible refine below_drewN ?_ _ | with_reducible refine Below.drew ?_ | with_reducible refine Below.alloc ?_ ?_ _ | with_reducible refine Below.setCell ?_ ?_ _ | with_reducible exact Nat.le_refl _ | (simp; omega) | (simp; done)))
  have hK4 : Blk W4 w4.heap.size 53 #[.int .i64 a1, .int .i64 a2, .int .i64 a3, .bool a4, .bool a5, .bool a6, .int .i64 a7] := by rw [hW4]; exact Blk.new _ _ _
  replace hG2 := hG2.step hb
  replace hK2 := hK2.step hb
  replace hL2 := hL2.step hb
  replace hR2 := hR2.step hb
  replace ha2 := ha2.step hb
  replace hK3 := hK3.step hb
  replace hB2 := nextB hB2 hB2.size hb
  rw [← hW4]
  clear hW4
  obtain ⟨x0, x1, x2, x3, x4, fx⟩ := hK2.five
  obtain ⟨y0, y1, y2, y3, y4, fy⟩ := hL2.five
  obtain ⟨z0, z1, z2, z3, z4, z5, z6, fz⟩ := hK3.seven
  obtain ⟨u0, u1, u2, u3, u4, u5, u6, fu⟩ := hK4.seven
  go_wp2_with fail
  refine (left_yes g A l c _ hR2 ha2 hn).mono ?_
  rintro e w7 ⟨rfl, m, rfl⟩
  go_wp2
  go_ret
  exact ⟨rfl, below_drewN hB2 _⟩
end Go.Proofs.Ytgfkpolklianeaa
