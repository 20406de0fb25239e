import Derived.Test.YtolcaolmdfbfhaaRoomy
import Derived.Test.YtolcaolmdfbfhaaLeft
import Derived.Test.YtolcaolmdfbfhaaTwice
import Derived.Test.YtolcaolmdfbfhaaStep
import Derived.Test.YtolcaolmdfbfhaaFill
namespace Go.Proofs.Ytolcaolmdfbfhaa
set_option linter.unusedSimpArgs false
set_option linter.unusedVariables false
open Go.RowKit

set_option maxHeartbeats 6400000 in
set_option maxRecDepth 100000 in
theorem packetEncodes_walk (p : Pkt) (A : Option Addr) (c : Nat) (n : Int) (w : World) (ha : Rd w A (bvs p.data)) (hc : p.data.length ≤ c) (hn : p.data.length ≤ 140737488351232) :
    Calls Try.prog 4 #[pv p A c, .int .i64 n] w fun e w' => e = .returned (.bool true) ∧ Below w.heap.size w w' := by
  obtain ⟨r, k, hrk⟩ : ∃ r k, pktBytes p = (r, k) := ⟨_, _, rfl⟩
  have hrl : r.length ≤ 65542 := by have := pktBytes_len p; rw [hrk] at this; exact this
  obtain ⟨r2, k2, hrk2⟩ : ∃ r2 k2, fillBytes (n.tmod 200) = (r2, k2) := ⟨_, _, rfl⟩
  have hrl2 : r2.length ≤ 65542 := by have := fillBytes_len (n.tmod 200); rw [hrk2] at this; exact this
  have HR := Lib.hid hrk
  have HQ := Lib.hid hrk2
  clear hrk hrk2
  obtain ⟨u, s, ap, pa, co, l⟩ := p
  simp only at ha hc hn
  have ha0 := ha
  unfold pv
  go_enter Try.func4, Try.ntmps4
  go_wp2_with fail
  obtain ⟨W1, hW1⟩ : ∃ W : World, W = (w.alloc (.cells #[.bool u, .bool s, .int .i64 ap, .int .i64 pa, .int .i64 co, .slice A l.length c] 34)).alloc (.cells #[.bool u, .bool s, .int .i64 ap, .int .i64 pa, .int .i64 co, .slice A l.length c] 34) := ⟨_, rfl⟩
  rw [← hW1]
  have hB : Below w.heap.size w W1 := by rw [hW1]; exact (by repeat (first | with_reducible exact Below.refl _ _ | with_reducible assumption | with_reducible refine below_drewN ?_ _ | with_reducible refine Below.drew ?_ | with_reducible refine Below.alloc ?_ ?_ _ | with_reducible refine Below.setCell ?_ ?_ _ | with_reducible exact Nat.le_refl _ | (simp; omega) | (simp; done)))
  have hK : Blk W1 w.heap.size 34 #[.bool u, .bool s, .int .i64 ap, .int .i64 pa, .int .i64 co, .slice A l.length c] := by rw [hW1]; exact (Blk.new _ _ _).alloc _
  have hL : Blk W1 (w.heap.size + 1) 34 #[.bool u, .bool s, .int .i64 ap, .int .i64 pa, .int .i64 co, .slice A l.length c] := by
    rw [hW1]
    have := Blk.new (w.alloc (.cells #[.bool u, .bool s, .int .i64 ap, .int .i64 pa, .int .i64 co, .slice A l.length c] 34)) 34 #[.bool u, .bool s, .int .i64 ap, .int .i64 pa, .int .i64 co, .slice A l.length c]
    simpa using this
  have hz : W1.heap.size = w.heap.size + 2 := by rw [hW1]; simp
  have Hz := Nat.le_of_eq hz.symm
  replace ha := ha.below hB
  clear hW1 hz
  refine (roomy_any A l c W1 ha hn).mono ?_
  rintro e w2 ⟨g, rfl, hg, hR, hb⟩
  replace hK := hK.step hb
  replace hL := hL.step hb
  replace ha := ha.step hb
  have t1 := hb.size
  have r1 := RoomK.lt hR
  replace hB := nextB hB hB.size hb
  obtain ⟨x0, x1, x2, x3, x4, x5, fx⟩ := hL.six
  go_upto_region 3 with fail
  obtain ⟨W2, hW2⟩ : ∃ W : World, W = w2.setCell ⟨w.heap.size + 1, 5, none⟩ (.slice (some ⟨g, 0, none⟩) l.length (l.length + 5)) := ⟨_, rfl⟩
  rw [← hW2]
  have hL2 : Blk W2 (w.heap.size + 1) 34 #[.bool u, .bool s, .int .i64 ap, .int .i64 pa, .int .i64 co, .slice (some ⟨g, 0, none⟩) l.length (l.length + 5)] := by
    rw [hW2]
    exact hL.set_ 5 _
  have hK2 : Blk W2 w.heap.size 34 #[.bool u, .bool s, .int .i64 ap, .int .i64 pa, .int .i64 co, .slice A l.length c] := by rw [hW2]; exact hK.far (by simp) _
  have hR2 : Room W2 g l := RoomK.keep hR (by rw [hW2]; exact Below.heap_setCell _ _ _ _ (by simp; omega))
  have hB2 : Below w.heap.size w W2 := by rw [hW2]; exact hB.setCell (by simp) _
  have hz2 : w2.heap.size ≤ W2.heap.size := by rw [hW2]; simp
  have ha2 := ha0.below hB2
  clear hW2 x0 x1 x2 x3 x4 x5 fx hL hK hR hB ha hb
  obtain ⟨x0, x1, x2, x3, x4, x5, fx⟩ := hK2.six
  go_wp2_with fail
  refine (packetBytes_any ⟨u, s, ap, pa, co, l⟩ A _ c W2 rfl ha2).mono ?_
  intro e w3 h3
  obtain ⟨A3, c3, rfl, hO3, hb⟩ := h3.open_ HR.out
  clear h3 x0 x1 x2 x3 x4 x5 fx
  replace hK2 := hK2.step hb
  replace hL2 := hL2.step hb
  replace hR2 := hR2.step hb
  replace ha2 := ha2.step hb
  have t2 := hb.size
  have m3 := hO3.lt
  replace hB2 := nextB hB2 hB2.size hb
  obtain ⟨x0, x1, x2, x3, x4, x5, fx⟩ := hL2.six
  go_wp2_with fail
  refine (pencode_any ⟨u, s, ap, pa, co, l⟩ (some ⟨g, 0, none⟩) _ _ w3 rfl hR2.rd).mono ?_
  intro e w4 h4
  obtain ⟨A4, c4, rfl, hO4, hb⟩ := h4.open_ HR.out
  clear h4 x0 x1 x2 x3 x4 x5 fx
  replace hK2 := hK2.step hb
  replace hL2 := hL2.step hb
  replace hR2 := hR2.step hb
  replace ha2 := ha2.step hb
  replace hO3 := hO3.step hb
  have t3 := hb.size
  have m4 := hO4.lt
  replace hB2 := nextB hB2 hB2.size hb
  obtain ⟨x0, x1, x2, x3, x4, x5, fx⟩ := hL2.six
  go_wp2_with fail
  refine (pencode_any ⟨u, s, ap, pa, co, l⟩ (some ⟨g, 0, none⟩) _ _ w4 rfl hR2.rd).mono ?_
  intro e w5 h5
  obtain ⟨A5, c5, rfl, hO5, hb⟩ := h5.open_ HR.out
  clear h5 x0 x1 x2 x3 x4 x5 fx
  replace hK2 := hK2.step hb
  replace hL2 := hL2.step hb
  replace hR2 := hR2.step hb
  replace ha2 := ha2.step hb
  replace hO3 := hO3.step hb
  replace hO4 := hO4.step hb
  have t4 := hb.size
  have m5 := hO5.lt
  replace hB2 := nextB hB2 hB2.size hb
  go_wp2_with fail
  refine (rfill_any _ w5).mono ?_
  intro e w6 h6
  obtain ⟨A6, c6, rfl, hO6, hb⟩ := h6.open_ HQ.out
  clear h6
  replace hK2 := hK2.step hb
  replace hL2 := hL2.step hb
  replace hR2 := hR2.step hb
  replace ha2 := ha2.step hb
  replace hO3 := hO3.step hb
  replace hO4 := hO4.step hb
  replace hO5 := hO5.step hb
  have t5 := hb.size
  replace hB2 := nextB hB2 hB2.size hb
  go_wp2_with fail
  refine (pfill_any _ w6).mono ?_
  intro e w7 h7
  obtain ⟨A7, c7, rfl, hO7, hb⟩ := h7.open_ HQ.out
  clear h7
  replace hK2 := hK2.step hb
  replace hL2 := hL2.step hb
  replace hR2 := hR2.step hb
  replace ha2 := ha2.step hb
  replace hO3 := hO3.step hb
  replace hO4 := hO4.step hb
  replace hO5 := hO5.step hb
  replace hO6 := hO6.step hb
  have t6 := hb.size
  replace hB2 := nextB hB2 hB2.size hb
  go_wp2_with fail
  refine (sameBytes_yes A7 A6 r2 c7 c6 w7 hO7.rd hO6.rd).mono ?_
  rintro e w8 ⟨rfl, rfl⟩
  go_wp2_with fail
  refine (twice_yes w3.heap.size A4 A5 A3 r c4 c5 c3 w7 hO4 hO5.rd hO3.rd (fun q hq e => by have := m4 q hq; have := m5 q e; omega) (fun q hq e => by have := m4 q hq; have := m3 q e; omega) (by omega) (by omega)).mono ?_
  rintro e w8 ⟨rfl, hg6⟩
  replace hR2 := hR2.over hg6 (fun q hq e => by have := m4 q hq; have e : g = q := (by simpa using e); omega)
  replace hK2 := hK2.over hg6 (fun q hq e => by have := m4 q hq; have e : w.heap.size = q := (by simpa using e); omega)
  replace hL2 := hL2.over hg6 (fun q hq e => by have := m4 q hq; have e : w.heap.size + 1 = q := (by simpa using e); omega)
  have hB6 : Below w.heap.size w w8 := hB2.grown hg6 hB2.size (fun q hq => by have := (m4 q hq).1; omega)
  obtain ⟨x0, x1, x2, x3, x4, x5, fx⟩ := hK2.six
  obtain ⟨y0, y1, y2, y3, y4, y5, fy⟩ := hL2.six
  go_wp2_with fail
  refine (left_yes g A l c w8 hR2 (ha0.below hB6) hn).mono ?_
  rintro e w9 ⟨rfl, m, rfl⟩
  go_wp2
  go_ret
  exact ⟨rfl, below_drewN hB6 _⟩
end Go.Proofs.Ytolcaolmdfbfhaa
