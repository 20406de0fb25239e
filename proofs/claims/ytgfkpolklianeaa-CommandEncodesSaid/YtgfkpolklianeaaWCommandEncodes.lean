import Derived.Test.YtgfkpolklianeaaRoomy
import Derived.Test.YtgfkpolklianeaaLeft
import Derived.Test.YtgfkpolklianeaaTwice
import Derived.Test.YtgfkpolklianeaaStep
import Derived.Test.YtgfkpolklianeaaOrdEnc2
namespace Go.Proofs.Ytgfkpolklianeaa
set_option linter.unusedSimpArgs false
set_option linter.unusedVariables false
open Go.RowKit

theorem ordEnc_len {o : Ord} {r : List UInt8} {k : Int} (h : ordEnc o = (r, k)) : r.length ≤ 1024 := by
  unfold ordEnc at h
  split at h
  · rename_i h0
    injection h with h1 h2
    have := (ordMay_zero h0).2.2.2
    rw [← h1, ordBytes_length]
    omega
  · injection h with h1 h2
    rw [← h1]
    simp

set_option maxHeartbeats 1600000 in
set_option maxRecDepth 100000 in
theorem commandEncodes_walk (o : Ord) (A : Option Addr) (c : Nat) (w : World) (ha : Rd w A (bvs o.data)) (hc : o.data.length ≤ c) (hn : o.data.length ≤ 140737488351232) :
    Calls Try.prog 8 #[ordv o A c] w fun e w' => e = .returned (.bool true) ∧ Below w.heap.size w w' := by
  obtain ⟨r, k, hrk⟩ : ∃ r k, ordEnc o = (r, k) := ⟨_, _, rfl⟩
  have hrl := ordEnc_len hrk
  have HR := Lib.hid hrk
  clear hrk
  obtain ⟨cr, by_, co, sq, l⟩ := o
  simp only at ha hc hn
  have ha0 := ha
  unfold ordv
  go_enter Try.func8, Try.ntmps8
  go_wp2_with fail
  obtain ⟨W1, hW1⟩ : ∃ W : World, W = (w.alloc (.cells #[.int .i64 cr, .bool by_, .bool co, .int .i64 sq, .slice A l.length c] 64)).alloc (.cells #[.int .i64 cr, .bool by_, .bool co, .int .i64 sq, .slice A l.length c] 64) := ⟨_, rfl⟩
  rw [← hW1]
  have hB : Below w.heap.size w W1 := by rw [hW1]; exact (by repeat (first | with_reducible exact Below.refl _ _ | with_reducible assumption | with_reducible refine below_drewN ?_ _ | with_reducible refine Below.drew ?_ | with_reducible refine Below.alloc ?_ ?_ _ | with_reducible refine Below.setCell ?_ ?_ _ | with_reducible exact Nat.le_refl _ | (simp; omega) | (simp; done)))
  have hK : Blk W1 w.heap.size 64 #[.int .i64 cr, .bool by_, .bool co, .int .i64 sq, .slice A l.length c] := by rw [hW1]; exact (Blk.new _ _ _).alloc _
  have hL : Blk W1 (w.heap.size + 1) 64 #[.int .i64 cr, .bool by_, .bool co, .int .i64 sq, .slice A l.length c] := by
    rw [hW1]
    have := Blk.new (w.alloc (.cells #[.int .i64 cr, .bool by_, .bool co, .int .i64 sq, .slice A l.length c] 64)) 64 #[.int .i64 cr, .bool by_, .bool co, .int .i64 sq, .slice A l.length c]
    simpa using this
  have hz : W1.heap.size = w.heap.size + 2 := by rw [hW1]; simp
  have Hz := Nat.le_of_eq hz.symm
  replace ha := ha.below hB
  clear hW1 hz
  refine (roomy_any A l c W1 ha hn).mono ?_
  rintro e w2 ⟨g, rfl, hg, hR, hb⟩
  replace hK := hK.step hb
  replace hL := hL.step hb
  replace ha := ha.step hb
  have t1 := hb.size
  have r1 := RoomK.lt hR
  replace hB := nextB hB hB.size hb
  obtain ⟨x0, x1, x2, x3, x4, fx⟩ := hL.five
  go_upto_region 3 with fail
  obtain ⟨W2, hW2⟩ : ∃ W : World, W = w2.setCell ⟨w.heap.size + 1, 4, none⟩ (.slice (some ⟨g, 0, none⟩) l.length (l.length + 5)) := ⟨_, rfl⟩
  rw [← hW2]
  have hL2 : Blk W2 (w.heap.size + 1) 64 #[.int .i64 cr, .bool by_, .bool co, .int .i64 sq, .slice (some ⟨g, 0, none⟩) l.length (l.length + 5)] := by
    rw [hW2]
    exact hL.set_ 4 _
  have hK2 : Blk W2 w.heap.size 64 #[.int .i64 cr, .bool by_, .bool co, .int .i64 sq, .slice A l.length c] := by rw [hW2]; exact hK.far (by simp) _
  have hR2 : Room W2 g l := RoomK.keep hR (by rw [hW2]; exact Below.heap_setCell _ _ _ _ (by simp; omega))
  have hB2 : Below w.heap.size w W2 := by rw [hW2]; exact hB.setCell (by simp) _
  have hz2 : w2.heap.size ≤ W2.heap.size := by rw [hW2]; simp
  have ha2 := ha0.below hB2
  clear hW2 x0 x1 x2 x3 x4 fx hL hK hR hB ha hb
  obtain ⟨x0, x1, x2, x3, x4, fx⟩ := hK2.five
  go_wp2_with fail
  refine (orderBytes_any ⟨cr, by_, co, sq, l⟩ A c W2 ha2).mono ?_
  intro e w3 h3
  obtain ⟨A3, c3, rfl, hO3, hb⟩ := h3.open_ HR.out
  clear h3 x0 x1 x2 x3 x4 fx
  replace hK2 := hK2.step hb
  replace hL2 := hL2.step hb
  replace hR2 := hR2.step hb
  replace ha2 := ha2.step hb
  have t2 := hb.size
  have m3 := hO3.lt
  replace hB2 := nextB hB2 hB2.size hb
  obtain ⟨x0, x1, x2, x3, x4, fx⟩ := hL2.five
  go_wp2_with fail
  refine (encode_any ⟨cr, by_, co, sq, l⟩ (some ⟨g, 0, none⟩) _ w3 hR2.rd).mono ?_
  intro e w4 h4
  obtain ⟨A4, c4, rfl, hO4, hb⟩ := h4.open_ HR.out
  clear h4 x0 x1 x2 x3 x4 fx
  replace hK2 := hK2.step hb
  replace hL2 := hL2.step hb
  replace hR2 := hR2.step hb
  replace ha2 := ha2.step hb
  replace hO3 := hO3.step hb
  have t3 := hb.size
  have m4 := hO4.lt
  replace hB2 := nextB hB2 hB2.size hb
  obtain ⟨x0, x1, x2, x3, x4, fx⟩ := hL2.five
  go_wp2_with fail
  refine (encode_any ⟨cr, by_, co, sq, l⟩ (some ⟨g, 0, none⟩) _ w4 hR2.rd).mono ?_
  intro e w5 h5
  obtain ⟨A5, c5, rfl, hO5, hb⟩ := h5.open_ HR.out
  clear h5 x0 x1 x2 x3 x4 fx
  replace hK2 := hK2.step hb
  replace hL2 := hL2.step hb
  replace hR2 := hR2.step hb
  replace ha2 := ha2.step hb
  replace hO3 := hO3.step hb
  replace hO4 := hO4.step hb
  have t4 := hb.size
  have m5 := hO5.lt
  replace hB2 := nextB hB2 hB2.size hb
  go_wp2_with fail
  refine (twice_yes w3.heap.size A4 A5 A3 r c4 c5 c3 w5 hO4 hO5.rd hO3.rd (fun q hq e => by have := m4 q hq; have := m5 q e; omega) (fun q hq e => by have := m4 q hq; have := m3 q e; omega) (by omega) (by omega)).mono ?_
  rintro e w6 ⟨rfl, hg6⟩
  replace hR2 := hR2.over hg6 (fun q hq e => by have := m4 q hq; have e : g = q := (by simpa using e); omega)
  replace hK2 := hK2.over hg6 (fun q hq e => by have := m4 q hq; have e : w.heap.size = q := (by simpa using e); omega)
  replace hL2 := hL2.over hg6 (fun q hq e => by have := m4 q hq; have e : w.heap.size + 1 = q := (by simpa using e); omega)
  have hB6 : Below w.heap.size w w6 := hB2.grown hg6 hB2.size (fun q hq => by have := (m4 q hq).1; omega)
  obtain ⟨x0, x1, x2, x3, x4, fx⟩ := hK2.five
  obtain ⟨y0, y1, y2, y3, y4, fy⟩ := hL2.five
  go_wp2_with fail
  refine (left_yes g A l c w6 hR2 (ha0.below hB6) hn).mono ?_
  rintro e w7 ⟨rfl, m, rfl⟩
  go_wp2
  go_ret
  exact ⟨rfl, below_drewN hB6 _⟩
end Go.Proofs.Ytgfkpolklianeaa
