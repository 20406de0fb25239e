import Derived.Test.YtgfkpolklianeaaRoomy
import Derived.Test.YtgfkpolklianeaaLeft
import Derived.Test.YtgfkpolklianeaaSpoil
import Derived.Test.YtgfkpolklianeaaOrdDec4
import Derived.Test.YtgfkpolklianeaaSameOrder
import Derived.Test.YtgfkpolklianeaaMore
namespace Go.Proofs.Ytgfkpolklianeaa
set_option linter.unusedSimpArgs false
set_option linter.unusedVariables false
open Go.RowKit

theorem OrdRes.open_ {w w' : World} {r : Ord × Int} {e : Ending} {p : Ord} {k : Int} (hr : r = (p, k)) (h : OrdRes w w' r e) :
    ∃ A c, e = .returned (.tuple #[ordv p A c, .int .i64 k]) ∧ Own w' w.heap.size 5 1 A p.data.length c (bvs p.data) ∧ Below w.heap.size w w' := by
  subst hr
  exact h
theorem ordOf_len {l : List UInt8} {p : Ord} {k : Int} (h : ordOf l = (p, k)) : p.data.length ≤ l.length := by
  unfold ordOf at h
  split at h
  · split at h
    · split at h
      · injection h with h1 h2
        rw [← h1]
        simp [ordIn]
        omega
      · injection h with h1 h2
        rw [← h1]
        simp [Ord.zero]
    · injection h with h1 h2
      rw [← h1]
      simp [Ord.zero]
  · injection h with h1 h2
    rw [← h1]
    simp [Ord.zero]

set_option maxHeartbeats 3200000 in
set_option maxRecDepth 100000 in
theorem commandDecodes_walk (A : Option Addr) (l : List UInt8) (c : Nat) (w : World) (ha : Rd w A (bvs l)) (hc : l.length ≤ c) (hn : l.length ≤ 140737488351232) :
    Calls Try.prog 9 #[.slice A l.length c] w fun e w' => e = .returned (.bool true) ∧ Below w.heap.size w w' := by
  obtain ⟨p, k, hpk⟩ : ∃ p k, ordOf l = (p, k) := ⟨_, _, rfl⟩
  have hdat : p.data.length ≤ 140737488351300 := Nat.le_trans (ordOf_len hpk) (by omega)
  have HP := Lib.hid hpk
  clear hpk
  go_enter Try.func9, Try.ntmps9
  go_wp2_with fail
  refine (roomy_any A l c w ha hn).mono ?_
  rintro e w1 ⟨g, rfl, hg, hR, hb1⟩
  go_wp2_with fail
  refine (orderOf_any A l _ c w1 rfl (ha.below hb1) hc (by omega)).mono ?_
  intro e w2 h2
  obtain ⟨A1, c1, rfl, hO1, hb2⟩ := h2.open_ HP.out
  clear h2
  have hR2 := hR.below hb2
  have ha2 := (ha.below hb1).below hb2
  unfold ordv
  go_wp2_with fail
  -- the document's answer is in its box
  obtain ⟨W2, hW2⟩ : ∃ W : World, W = (w2.alloc (.cells #[.int .i64 p.craft, .bool p.bypass, .bool p.control, .int .i64 p.seq, .slice A1 p.data.length c1] 64)) := ⟨_, rfl⟩
  rw [← hW2]
  have hB2 : Below w.heap.size w W2 := by rw [hW2]; exact ((hb1.trans (hb2.mono hb1.size)).alloc (Nat.le_trans hb1.size hb2.size) _)
  have hK1 : Blk W2 w2.heap.size 64 #[.int .i64 p.craft, .bool p.bypass, .bool p.control, .int .i64 p.seq, .slice A1 p.data.length c1] := by rw [hW2]; exact Blk.new _ _ _
  have hR2' : Room W2 g l := by rw [hW2]; exact hR2.below ((Below.refl _ _).alloc (Nat.le_refl _) _)
  have hO1' : Own W2 w1.heap.size 5 1 A1 p.data.length c1 (bvs p.data) := by rw [hW2]; exact hO1.alloc _
  have l1 := hO1.lt
  have z1 := hR.lt
  have z2 := hb2.size
  have z3 := hK1.lt
  clear hW2 hR hR2 hO1 ha2
  refine (odecode_any (some ⟨g, 0, none⟩) l l.length (l.length + 5) W2 rfl hR2'.rd (by omega) (by omega)).mono ?_
  intro e w3 h3
  obtain ⟨A2, c2, rfl, hO2, hb3⟩ := h3.open_ HP.out
  clear h3
  unfold ordv
  go_wp2_with fail
  obtain ⟨W3, hW3⟩ : ∃ W : World, W = (w3.alloc (.cells #[.int .i64 p.craft, .bool p.bypass, .bool p.control, .int .i64 p.seq, .slice A2 p.data.length c2] 64)) := ⟨_, rfl⟩
  rw [← hW3]
  have hX3 : Below W2.heap.size W2 W3 := by rw [hW3]; exact hb3.alloc hb3.size _
  have hB3 : Below w.heap.size w W3 := hB2.trans (hX3.mono hB2.size)
  have hK1' := hK1.below' hX3
  have hK2 : Blk W3 w3.heap.size 64 #[.int .i64 p.craft, .bool p.bypass, .bool p.control, .int .i64 p.seq, .slice A2 p.data.length c2] := by rw [hW3]; exact Blk.new _ _ _
  have hR3 := hR2'.below hX3
  have hO13 := hO1'.below hX3
  have hO23 : Own W3 W2.heap.size 5 1 A2 p.data.length c2 (bvs p.data) := by rw [hW3]; exact hO2.alloc _
  have l2 := hO2.lt
  have z4 := hb3.size
  have z5 := hK2.lt
  clear hW3 hR2' hO1' hO2 hK1
  refine (odecode_any (some ⟨g, 0, none⟩) l l.length (l.length + 5) W3 rfl hR3.rd (by omega) (by omega)).mono ?_
  intro e w4 h4
  obtain ⟨A3, c3, rfl, hO3, hb4⟩ := h4.open_ HP.out
  clear h4
  unfold ordv
  go_upto_region 5 with fail
  obtain ⟨W4, hW4⟩ : ∃ W : World, W = (w4.alloc (.cells #[.int .i64 p.craft, .bool p.bypass, .bool p.control, .int .i64 p.seq, .slice A3 p.data.length c3] 64)) := ⟨_, rfl⟩
  rw [← hW4]
  have hX4 : Below W3.heap.size W3 W4 := by rw [hW4]; exact hb4.alloc hb4.size _
  have hB4 : Below w.heap.size w W4 := hB3.trans (hX4.mono hB3.size)
  have hK14 := hK1'.below' hX4
  have hK24 := hK2.below' hX4
  have hK34 : Blk W4 w4.heap.size 64 #[.int .i64 p.craft, .bool p.bypass, .bool p.control, .int .i64 p.seq, .slice A3 p.data.length c3] := by rw [hW4]; exact Blk.new _ _ _
  have hR4 := hR3.below hX4
  have hO14 := hO13.below hX4
  have hO24 := hO23.below hX4
  have hO34 : Own W4 W3.heap.size 5 1 A3 p.data.length c3 (bvs p.data) := by rw [hW4]; exact hO3.alloc _
  have l3 := hO3.lt
  have z6 := hb4.size
  have z7 := hK34.lt
  clear hW4 hR3 hO13 hO23 hO3 hK1' hK2
  obtain ⟨a0, a1, a2, a3, a4, fa⟩ := hK14.five
  obtain ⟨b0, b1, b2, b3, b4, fb⟩ := hK24.five
  obtain ⟨d0, d1, d2, d3, d4, fd⟩ := hK34.five
  go_wp2_with fail
  refine (sameOrder_yes p A2 A1 c2 c1 W4 hO24.rd hO14.rd).mono ?_
  rintro e w5 ⟨rfl, hb5⟩
  obtain ⟨e0, e1, e2, e3, e4, fe⟩ := (hK14.below' hb5).five
  obtain ⟨f0, f1, f2, f3, f4, ff⟩ := (hK34.below' hb5).five
  go_wp2_with fail
  refine (sameOrder_yes p A3 A1 c3 c1 w5 (hO34.rd.below hb5) (hO14.rd.below hb5)).mono ?_
  rintro e w6 ⟨rfl, hb6⟩
  have hB6 : Below W4.heap.size W4 w6 := hb5.trans (hb6.mono hb5.size)
  clear e0 e1 e2 e3 e4 fe f0 f1 f2 f3 f4 ff
  go_wp2_with fail
  refine (left_yes g A l c w6 (hR4.below hB6) (ha.below (hB4.trans (hB6.mono hB4.size))) (by omega)).mono ?_
  rintro e w7 ⟨rfl, m, rfl⟩
  have hB7 : Below W4.heap.size W4 (w6.drewN m) := below_drewN hB6 m
  generalize w6.drewN m = w7 at *
  obtain ⟨b0', b1', b2', b3', b4', fb'⟩ := (hK24.below' hB7).five
  clear a0 a1 a2 a3 a4 fa b0 b1 b2 b3 b4 fb d0 d1 d2 d3 d4 fd
  have z8 := hB7.size
  go_wp2_with fail
  refine (spoil_any W2.heap.size A2 _ c2 p.data w7 (hO24.below hB7) hdat (by omega)).mono ?_
  rintro e w8 ⟨rfl, hg8⟩
  have hR8 : Room w8 g l := Room.grown (hR4.below hB7) hg8 (fun e => by have := (l2 _ e).1; omega)
  have z9 := hg8.size
  go_wp2_with fail
  refine (spoil_any g (some ⟨g, 0, none⟩) _ _ l w8 (hR8.own (by unfold maxLen; omega) (Nat.le_refl _)) (by omega) (by omega)).mono ?_
  rintro e w9 ⟨rfl, hg9⟩
  have n1 : ∀ q, blk A2 = some q → q ≠ w2.heap.size ∧ q ≠ w4.heap.size ∧ blk A1 ≠ some q ∧ blk A3 ≠ some q := by
    intro q hq
    have := l2 q hq
    refine ⟨by omega, by omega, fun e => ?_, fun e => ?_⟩
    · have := l1 q e; omega
    · have := l3 q e; omega
  have n2 : g ≠ w2.heap.size ∧ g ≠ w4.heap.size ∧ blk A1 ≠ some g ∧ blk A3 ≠ some g := by
    refine ⟨by omega, by omega, fun e => ?_, fun e => ?_⟩
    · have := l1 g e; omega
    · have := l3 g e; omega
  have hK19 := ((hK14.below' hB7).grown hg8 (fun e => (n1 _ e.symm).1 rfl)).grown hg9 (fun e => n2.1 (by simpa [blk] using e.symm))
  have hK39 := ((hK34.below' hB7).grown hg8 (fun e => (n1 _ e.symm).2.1 rfl)).grown hg9 (fun e => n2.2.1 (by simpa [blk] using e.symm))
  have hA1 : Rd w9 A1 (bvs p.data) := ((hO14.rd.below hB7).grown hg8 (fun q hq => (n1 q hq).2.2.1)).grown hg9 (fun q hq => by rw [blk_lit hq]; exact n2.2.2.1)
  have hA3 : Rd w9 A3 (bvs p.data) := ((hO34.rd.below hB7).grown hg8 (fun q hq => (n1 q hq).2.2.2)).grown hg9 (fun q hq => by rw [blk_lit hq]; exact n2.2.2.2)
  obtain ⟨a0, a1, a2, a3, a4, fa⟩ := hK19.five
  obtain ⟨d0, d1, d2, d3, d4, fd⟩ := hK39.five
  clear b0' b1' b2' b3' b4' fb'
  have z10 := hg9.size
  have hB9 : Below w.heap.size w w9 := by
    have h7 : Below w.heap.size w w7 := hB4.trans (hB7.mono hB4.size)
    have h8 : Below w.heap.size w w8 := h7.grown hg8 h7.size (fun q hq => by have := (l2 q hq).1; omega)
    exact h8.grown hg9 h8.size (fun q hq => by rw [blk_lit hq]; exact hg)
  go_wp2_with fail
  refine (sameOrder_yes p A3 A1 c3 c1 w9 hA3 hA1).mono ?_
  rintro e w10 ⟨rfl, hb10⟩
  go_wp2_with fail
  go_ret
  exact ⟨rfl, hB9.trans (hb10.mono hB9.size)⟩
end Go.Proofs.Ytgfkpolklianeaa
