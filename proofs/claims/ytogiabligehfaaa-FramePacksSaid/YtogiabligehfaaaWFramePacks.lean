import Derived.Test.YtogiabligehfaaaRoomy
import Derived.Test.YtogiabligehfaaaLeft
import Derived.Test.YtogiabligehfaaaTwice
import Derived.Test.YtogiabligehfaaaPackedAll
import Derived.Test.YtogiabligehfaaaPackAll
namespace Go.Proofs.Ytogiabligehfaaa
set_option linter.unusedSimpArgs false
set_option linter.unusedVariables false
open Go.RowKit

theorem BytesRes.open_ {w w' : World} {r : List UInt8 × Int} {e : Ending} {l : List UInt8} {k : Int} (hr : r = (l, k)) (h : BytesRes w w' r e) :
    ∃ A c, e = .returned (.tuple #[.slice A l.length c, .int .i64 k]) ∧ Own w' w.heap.size 5 1 A l.length c (bvs l) ∧ Below w.heap.size w w' := by
  subst hr
  exact h

set_option maxHeartbeats 1600000 in
set_option maxRecDepth 100000 in
theorem framePacks_walk (h : Hd) (A : Option Addr) (l : List UInt8) (c : Nat) (st : Int) (w : World) (ha : Rd w A (bvs l)) (hc : l.length ≤ c) (hn : l.length ≤ 140737488351232) (hst : (Lit.int .i64 st).wf = true) :
    Calls Try.prog 6 #[hv h, .slice A l.length c, .int .i64 st] w fun e w' => e = .returned (.bool true) ∧ Below w.heap.size w w' := by
  obtain ⟨r, k, hrk⟩ : ∃ r k, packed h l st = (r, k) := ⟨_, _, rfl⟩
  have hrl : r.length ≤ 2048 := by have := packed_length h l st; rw [hrk] at this; exact this
  have HR := Lib.hid hrk
  clear hrk
  have hh : ∃ a b d e f : Int, h = ⟨a, b, d, e, f⟩ := ⟨_, _, _, _, _, rfl⟩
  obtain ⟨cr, ch, ma, ow, fi, rfl⟩ := hh
  unfold hv
  go_enter Try.func6, Try.ntmps6
  go_wp2_with fail
  -- the head is in its box
  obtain ⟨W0, hW0⟩ : ∃ W : World, W = w.alloc (.cells #[.int .i64 cr, .int .i64 ch, .int .i64 ma, .int .i64 ow, .int .i64 fi] 37) := ⟨_, rfl⟩
  rw [← hW0]
  have hB0 : Below w.heap.size w W0 := by rw [hW0]; exact (Below.refl _ _).alloc (Nat.le_refl _) _
  have hK0 : Blk W0 w.heap.size 37 #[.int .i64 cr, .int .i64 ch, .int .i64 ma, .int .i64 ow, .int .i64 fi] := by rw [hW0]; exact Blk.new _ _ _
  have ha0 := ha.below hB0
  clear hW0
  refine (roomy_any A l c W0 ha0 hn).mono ?_
  rintro e w1 ⟨g, rfl, hg, hR1, hb1⟩
  have hK1 := hK0.below' hb1
  have ha1 := ha0.below hb1
  obtain ⟨x0, x1, x2, x3, x4, fx⟩ := hK1.five
  go_wp2_with fail
  refine (packed_any ⟨cr, ch, ma, ow, fi⟩ st A l _ c w1 rfl ha1 (by omega)).mono ?_
  intro e w2 h2
  obtain ⟨A2, c2, rfl, hO2, hb2⟩ := h2.open_ HR.out
  clear h2 x0 x1 x2 x3 x4 fx
  have hK2 := hK1.below' hb2
  have hR2 := Room.below hR1 hb2
  obtain ⟨x0, x1, x2, x3, x4, fx⟩ := hK2.five
  go_wp2_with fail
  refine (pack_any ⟨cr, ch, ma, ow, fi⟩ st (some ⟨g, 0, none⟩) l _ _ w2 rfl hR2.rd (by omega)).mono ?_
  intro e w3 h3
  obtain ⟨A3, c3, rfl, hO3, hb3⟩ := h3.open_ HR.out
  clear h3 x0 x1 x2 x3 x4 fx
  have hK3 := hK2.below' hb3
  have hR3 := Room.below hR2 hb3
  obtain ⟨x0, x1, x2, x3, x4, fx⟩ := hK3.five
  go_wp2_with fail
  refine (pack_any ⟨cr, ch, ma, ow, fi⟩ st (some ⟨g, 0, none⟩) l _ _ w3 rfl hR3.rd (by omega)).mono ?_
  intro e w4 h4
  obtain ⟨A4, c4, rfl, hO4, hb4⟩ := h4.open_ HR.out
  clear h4 x0 x1 x2 x3 x4 fx
  have hR4 := Room.below hR3 hb4
  have l2 := hO2.lt
  have l3 := hO3.lt
  have l4 := hO4.lt
  have z1 := hb1.size
  have z2 := hb2.size
  have z3 := hb3.size
  have z4 := hb4.size
  have zr := RoomK.lt hR1
  have hO34 := hO3.below hb4
  have hO24 := (hO2.below hb3).below hb4
  have hB4 : Below w.heap.size w w4 := hB0.trans ((hb1.trans ((hb2.trans ((hb3.trans (hb4.mono z3)).mono z2)).mono z1)).mono hB0.size)
  have ha4 := ha.below hB4
  go_wp2_with fail
  refine (twice_yes w2.heap.size A3 A4 A2 r c3 c4 c2 w4 hO34 hO4.rd hO24.rd (fun q hq e => by have := l3 q hq; have := l4 q e; omega) (fun q hq e => by have := l3 q hq; have := l2 q e; omega) (by omega) (by omega)).mono ?_
  rintro e w5 ⟨rfl, hg5⟩
  have hB5 : Below w.heap.size w w5 := hB4.grown hg5 hB4.size (fun q hq => by have := (l3 q hq).1; have := hB0.size; omega)
  go_wp2_with fail
  refine (left_yes g A l c w5 (Room.grown hR4 hg5 (fun e => by have := (l3 g e).1; omega)) (ha.below hB5) (by omega)).mono ?_
  rintro e w6 ⟨rfl, m, rfl⟩
  go_wp2_with fail
  go_ret
  exact ⟨rfl, below_drewN hB5 m⟩
end Go.Proofs.Ytogiabligehfaaa
