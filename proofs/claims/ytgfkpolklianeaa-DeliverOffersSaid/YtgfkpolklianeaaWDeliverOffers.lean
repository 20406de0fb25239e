import Derived.Test.YtgfkpolklianeaaRoomy
import Derived.Test.YtgfkpolklianeaaLeft
import Derived.Test.YtgfkpolklianeaaSpoil
import Derived.Test.YtgfkpolklianeaaStep
import Derived.Test.YtgfkpolklianeaaOffer2
import Derived.Deep.DeepCutAuto
namespace Go.Proofs.Ytgfkpolklianeaa
set_option linter.unusedSimpArgs false
set_option linter.unusedVariables false
open Go.RowKit

theorem Blk.fourteen {w : World} {g : Nat} {t : TypeId} {v0 v1 v2 v3 v4 v5 v6 v7 v8 v9 v10 v11 v12 v13 : Value} (h : Blk w g t #[v0, v1, v2, v3, v4, v5, v6, v7, v8, v9, v10, v11, v12, v13]) : w.cell? ⟨g, 0, none⟩ = some v0 ∧ w.cell? ⟨g, 1, none⟩ = some v1 ∧ w.cell? ⟨g, 2, none⟩ = some v2 ∧ w.cell? ⟨g, 3, none⟩ = some v3 ∧ w.cell? ⟨g, 4, none⟩ = some v4 ∧ w.cell? ⟨g, 5, none⟩ = some v5 ∧ w.cell? ⟨g, 6, none⟩ = some v6 ∧ w.cell? ⟨g, 7, none⟩ = some v7 ∧ w.cell? ⟨g, 8, none⟩ = some v8 ∧ w.cell? ⟨g, 9, none⟩ = some v9 ∧ w.cell? ⟨g, 10, none⟩ = some v10 ∧ w.cell? ⟨g, 11, none⟩ = some v11 ∧ w.cell? ⟨g, 12, none⟩ = some v12 ∧ w.cell? ⟨g, 13, none⟩ = some v13 ∧ ∀ i, w.frozen? ⟨g, i, none⟩ = false :=
  ⟨h.cell' rfl, h.cell' rfl, h.cell' rfl, h.cell' rfl, h.cell' rfl, h.cell' rfl, h.cell' rfl, h.cell' rfl, h.cell' rfl, h.cell' rfl, h.cell' rfl, h.cell' rfl, h.cell' rfl, h.cell' rfl, h.frozen⟩

theorem offers_both (id : Int) (s : ByteArray) (l : List UInt8) (mo bu pa li : Int) (hn : l.length ≤ 140737488351300) : ∃ (a0 : Int) (s' : ByteArray) (l' : List UInt8) (a3 a4 : Int) (a6 : Bool) (a10 a12 k : Int), l'.length ≤ 65536 ∧
    (∀ w A c, Rd w A (bvs l) → Calls Try.prog 26 #[.int .i64 id, .string s, .slice A l.length c, .int .i64 mo, .int .i64 bu, .int .i64 pa, .int .i64 li] w fun e w' => GivRes w w' a0 s' l' a3 a4 a6 a10 a12 k e) ∧
    (∀ w A c, Rd w A (bvs l) → Calls Try.prog 27 #[.int .i64 id, .string s, .slice A l.length c, .int .i64 mo, .int .i64 bu, .int .i64 pa, .int .i64 li] w fun e w' => GivRes w w' a0 s' l' a3 a4 a6 a10 a12 k e) := by
  by_cases h : offOk id mo bu pa li
  · by_cases h1 : 1 ≤ s.size ∧ s.size ≤ 32
    · by_cases h2 : l.length ≤ 65536
      · exact ⟨id, s, l, mo, bu, true, pa, li, 0, h2, fun w A c hA => offered_good id s A l _ c mo bu pa li w rfl hA h h1.1 h1.2 h2, fun w A c hA => offer_good id s A l _ c mo bu pa li w rfl hA h h1.1 h1.2 h2⟩
      · exact ⟨0, ⟨#[]⟩, [], 0, 0, false, 0, 0, 1, by simp, fun w A c hA => offered_file id s A _ c mo bu pa li w h h1.1 h1.2 (by omega), fun w A c hA => offer_file id s A _ c mo bu pa li w h h1.1 h1.2 (by omega)⟩
    · exact ⟨0, ⟨#[]⟩, [], 0, 0, false, 0, 0, 1, by simp, fun w A c hA => offered_name id s A _ c mo bu pa li w h h1, fun w A c hA => offer_name id s A _ c mo bu pa li w h h1⟩
  · exact ⟨0, ⟨#[]⟩, [], 0, 0, false, 0, 0, 2, by simp, fun w A c hA => offered_no id s A _ c mo bu pa li w h, fun w A c hA => offer_no id s A _ c mo bu pa li w h⟩
theorem expects_both (id pa li : Int) : ∃ (b0 b1 b2 k : Int),
    (∀ w, Calls Try.prog 28 #[.int .i64 id, .int .i64 pa, .int .i64 li] w fun e w' => e = .returned (.tuple #[.agg #[.int .i64 b0, .bool false, .string ⟨#[]⟩, .int .i64 0, .bool false, .int .i64 0, .int .i64 0, .slice none 0 0, .slice none 0 0, .int .i64 0, .int .i64 0, .int .i64 b1, .int .i64 0, .int .i64 b2], .int .i64 k]) ∧ Below w.heap.size w w') ∧
    (∀ w, Calls Try.prog 29 #[.int .i64 id, .int .i64 pa, .int .i64 li] w fun e w' => e = .returned (.tuple #[.agg #[.int .i64 b0, .bool false, .string ⟨#[]⟩, .int .i64 0, .bool false, .int .i64 0, .int .i64 0, .slice none 0 0, .slice none 0 0, .int .i64 0, .int .i64 0, .int .i64 b1, .int .i64 0, .int .i64 b2], .int .i64 k]) ∧ Below w.heap.size w w') := by
  by_cases h : expOk id pa li
  · exact ⟨id, pa, li, 0, fun w => expected_yes id pa li w h, fun w => expect_yes id pa li w h⟩
  · exact ⟨0, 0, 0, 2, fun w => expected_no id pa li w h, fun w => expect_no id pa li w h⟩

set_option maxHeartbeats 6400000 in
set_option maxRecDepth 100000 in
theorem deliverOffers_walk (id : Int) (s0 : ByteArray) (A : Option Addr) (l : List UInt8) (c : Nat) (mo bu pa li : Int) (w : World) (ha : Rd w A (bvs l)) (hc : l.length ≤ c) (hn : l.length ≤ 140737488351232) :
    Calls Try.prog 5 #[.int .i64 id, .string s0, .slice A l.length c, .int .i64 mo, .int .i64 bu, .int .i64 pa, .int .i64 li] w fun e w' => e = .returned (.bool true) ∧ Below w.heap.size w w' := by
  obtain ⟨a0, s, l2, a3, a4, a6, a10, a12, k, hl2, p1, p2⟩ := offers_both id s0 l mo bu pa li (by omega)
  obtain ⟨b0, b1, b2, k2, p3, p4⟩ := expects_both id pa li
  have P1 := Lib.hid p1
  have P2 := Lib.hid p2
  have P3 := Lib.hid p3
  have P4 := Lib.hid p4
  clear p1 p2 p3 p4
  have ha0 := ha
  have hB : Below w.heap.size w w := Below.refl _ _
  go_enter Try.func5, Try.ntmps5
  go_wp2_with fail
  refine (roomy_any A l c w ha hn).mono ?_
  rintro e w1 ⟨g, rfl, hg, hR, hb⟩
  replace ha := ha.step hb
  have r1 := RoomK.lt hR
  replace hB := nextB hB (Nat.le_refl _) hb
  go_wp2_with fail
  refine (P1.out w1 A c ha).mono ?_
  rintro e w2 ⟨A1, c1, rfl, hO1, hb⟩
  have m1 := hO1.lt
  replace ha := ha.step hb
  replace hR := hR.step hb
  have n1 := hb.size
  replace hB := nextB hB hB.size hb
  go_upto_region 3 with fail
  obtain ⟨W2, hW2⟩ : ∃ W : World, W = w2.alloc (.cells #[.int .i64 a0, .string s, .slice A1 l2.length c1, .int .i64 a3, .int .i64 a4, .int .i64 0, .bool a6, .int .i64 0, .slice none 0 0, .int .i64 0, .int .i64 a10, .int .i64 0, .int .i64 a12] 41) := ⟨_, rfl⟩
  have hb : Below w2.heap.size w2 W2 := by rw [hW2]; exact (by repeat (first | with_reducible exact Below.refl _ _ | with_reducible assumption | with_reducible refine below_drewN ?_ _ | with_reducible refine Below.drew ?_ | with_reducible refine Below.alloc ?_ ?_ _ | with_reducible refine Below.setCell ?_ ?_ _ | with_reducible exact Nat.le_refl _ | (simp; omega) | (simp; done)))
  have hK1 : Blk W2 w2.heap.size 41 #[.int .i64 a0, .string s, .slice A1 l2.length c1, .int .i64 a3, .int .i64 a4, .int .i64 0, .bool a6, .int .i64 0, .slice none 0 0, .int .i64 0, .int .i64 a10, .int .i64 0, .int .i64 a12] := by rw [hW2]; exact Blk.new _ _ _
  replace ha := ha.step hb
  replace hR := hR.step hb
  replace hO1 := hO1.step hb
  have n2 := hb.size
  replace hB := nextB hB hB.size hb
  rw [← hW2]
  clear hW2
  go_wp2_with fail
  refine (P2.out W2 _ _ hR.rd).mono ?_
  rintro e w3 ⟨A2, c2, rfl, hO2, hb⟩
  have m2 := hO2.lt
  replace ha := ha.step hb
  replace hR := hR.step hb
  replace hO1 := hO1.step hb
  replace hK1 := hK1.step hb
  have n3 := hb.size
  replace hB := nextB hB hB.size hb
  go_upto_region 4 with fail
  obtain ⟨W3, hW3⟩ : ∃ W : World, W = w3.alloc (.cells #[.int .i64 a0, .string s, .slice A2 l2.length c2, .int .i64 a3, .int .i64 a4, .int .i64 0, .bool a6, .int .i64 0, .slice none 0 0, .int .i64 0, .int .i64 a10, .int .i64 0, .int .i64 a12] 41) := ⟨_, rfl⟩
  have hb : Below w3.heap.size w3 W3 := by rw [hW3]; exact (by repeat (first | with_reducible exact Below.refl _ _ | with_reducible assumption | with_reducible refine below_drewN ?_ _ | with_reducible refine Below.drew ?_ | with_reducible refine Below.alloc ?_ ?_ _ | with_reducible refine Below.setCell ?_ ?_ _ | with_reducible exact Nat.le_refl _ | (simp; omega) | (simp; done)))
  have hK2 : Blk W3 w3.heap.size 41 #[.int .i64 a0, .string s, .slice A2 l2.length c2, .int .i64 a3, .int .i64 a4, .int .i64 0, .bool a6, .int .i64 0, .slice none 0 0, .int .i64 0, .int .i64 a10, .int .i64 0, .int .i64 a12] := by rw [hW3]; exact Blk.new _ _ _
  replace ha := ha.step hb
  replace hR := hR.step hb
  replace hO1 := hO1.step hb
  replace hO2 := hO2.step hb
  replace hK1 := hK1.step hb
  have n4 := hb.size
  replace hB := nextB hB hB.size hb
  rw [← hW3]
  clear hW3
  go_wp2_with fail
  refine (P3.out W3).mono ?_
  rintro e w4 ⟨rfl, hb⟩
  replace ha := ha.step hb
  replace hR := hR.step hb
  replace hO1 := hO1.step hb
  replace hO2 := hO2.step hb
  replace hK1 := hK1.step hb
  replace hK2 := hK2.step hb
  have n5 := hb.size
  replace hB := nextB hB hB.size hb
  go_upto_region 5 with fail
  obtain ⟨W4, hW4⟩ : ∃ W : World, W = w4.alloc (.cells #[.int .i64 b0, .bool false, .string ⟨#[]⟩, .int .i64 0, .bool false, .int .i64 0, .int .i64 0, .slice none 0 0, .slice none 0 0, .int .i64 0, .int .i64 0, .int .i64 b1, .int .i64 0, .int .i64 b2] 45) := ⟨_, rfl⟩
  have hb : Below w4.heap.size w4 W4 := by rw [hW4]; exact (by repeat (first | with_reducible exact Below.refl _ _ | with_reducible assumption | with_reducible refine below_drewN ?_ _ | with_reducible refine Below.drew ?_ | with_reducible refine Below.alloc ?_ ?_ _ | with_reducible refine Below.setCell ?_ ?_ _ | with_reducible exact Nat.le_refl _ | (simp; omega) | (simp; done)))
  have hK3 : Blk W4 w4.heap.size 45 #[.int .i64 b0, .bool false, .string ⟨#[]⟩, .int .i64 0, .bool false, .int .i64 0, .int .i64 0, .slice none 0 0, .slice none 0 0, .int .i64 0, .int .i64 0, .int .i64 b1, .int .i64 0, .int .i64 b2] := by rw [hW4]; exact Blk.new _ _ _
  replace ha := ha.step hb
  replace hR := hR.step hb
  replace hO1 := hO1.step hb
  replace hO2 := hO2.step hb
  replace hK1 := hK1.step hb
  replace hK2 := hK2.step hb
  have n6 := hb.size
  replace hB := nextB hB hB.size hb
  rw [← hW4]
  clear hW4
  go_wp2_with fail
  refine (P4.out W4).mono ?_
  rintro e w5 ⟨rfl, hb⟩
  replace ha := ha.step hb
  replace hR := hR.step hb
  replace hO1 := hO1.step hb
  replace hO2 := hO2.step hb
  replace hK1 := hK1.step hb
  replace hK2 := hK2.step hb
  replace hK3 := hK3.step hb
  have n7 := hb.size
  replace hB := nextB hB hB.size hb
  go_upto_region 6 with fail
  obtain ⟨W5, hW5⟩ : ∃ W : World, W = w5.alloc (.cells #[.int .i64 b0, .bool false, .string ⟨#[]⟩, .int .i64 0, .bool false, .int .i64 0, .int .i64 0, .slice none 0 0, .slice none 0 0, .int .i64 0, .int .i64 0, .int .i64 b1, .int .i64 0, .int .i64 b2] 45) := ⟨_, rfl⟩
  have hb : Below w5.heap.size w5 W5 := by rw [hW5]; exact (by repeat (first | with_reducible exact Below.refl _ _ | with_reducible assumption | with_reducible refine below_drewN ?_ _ | with_reducible refine Below.drew ?_ | with_reducible refine Below.alloc ?_ ?_ _ | with_reducible refine Below.setCell ?_ ?_ _ | with_reducible exact Nat.le_refl _ | (simp; omega) | (simp; done)))
  have hK4 : Blk W5 w5.heap.size 45 #[.int .i64 b0, .bool false, .string ⟨#[]⟩, .int .i64 0, .bool false, .int .i64 0, .int .i64 0, .slice none 0 0, .slice none 0 0, .int .i64 0, .int .i64 0, .int .i64 b1, .int .i64 0, .int .i64 b2] := by rw [hW5]; exact Blk.new _ _ _
  replace ha := ha.step hb
  replace hR := hR.step hb
  replace hO1 := hO1.step hb
  replace hO2 := hO2.step hb
  replace hK1 := hK1.step hb
  replace hK2 := hK2.step hb
  replace hK3 := hK3.step hb
  have n8 := hb.size
  replace hB := nextB hB hB.size hb
  rw [← hW5]
  clear hW5
  obtain ⟨x0, x1, x2, x3, x4, x5, x6, x7, x8, x9, x10, x11, x12, fx⟩ := hK1.thirteen
  obtain ⟨y0, y1, y2, y3, y4, y5, y6, y7, y8, y9, y10, y11, y12, fy⟩ := hK2.thirteen
  go_wp2_with fail
  refine (sameGiver_yes a0 s A2 A1 l2 c2 c1 a3 a4 a6 a10 a12 W5 hO2.rd hO1.rd).mono ?_
  rintro e w6 ⟨rfl, hb⟩
  clear x0 x1 x2 x3 x4 x5 x6 x7 x8 x9 x10 x11 x12 fx y0 y1 y2 y3 y4 y5 y6 y7 y8 y9 y10 y11 y12 fy
  replace ha := ha.step hb
  replace hR := hR.step hb
  replace hO1 := hO1.step hb
  replace hO2 := hO2.step hb
  replace hK1 := hK1.step hb
  replace hK2 := hK2.step hb
  replace hK3 := hK3.step hb
  replace hK4 := hK4.step hb
  have n9 := hb.size
  replace hB := nextB hB hB.size hb
  obtain ⟨x0, x1, x2, x3, x4, x5, x6, x7, x8, x9, x10, x11, x12, x13, fx⟩ := hK3.fourteen
  obtain ⟨y0, y1, y2, y3, y4, y5, y6, y7, y8, y9, y10, y11, y12, y13, fy⟩ := hK4.fourteen
  go_wp2_with fail
  refine (sameTaker_yes b0 b1 b2 w6).mono ?_
  rintro e w7 ⟨rfl, hb⟩
  clear x0 x1 x2 x3 x4 x5 x6 x7 x8 x9 x10 x11 x12 x13 fx y0 y1 y2 y3 y4 y5 y6 y7 y8 y9 y10 y11 y12 y13 fy hK3 hK4
  replace ha := ha.step hb
  replace hR := hR.step hb
  replace hO1 := hO1.step hb
  replace hO2 := hO2.step hb
  replace hK1 := hK1.step hb
  replace hK2 := hK2.step hb
  have n10 := hb.size
  replace hB := nextB hB hB.size hb
  go_wp2_with fail
  refine (left_yes g A l c w7 hR ha hn).mono ?_
  rintro e w8 ⟨rfl, m, rfl⟩
  have hb : Below w7.heap.size w7 (w7.drewN m) := below_drewN (Below.refl _ _) m
  generalize w7.drewN m = w8 at *
  replace ha := ha.step hb
  replace hR := hR.step hb
  replace hO1 := hO1.step hb
  replace hO2 := hO2.step hb
  replace hK1 := hK1.step hb
  replace hK2 := hK2.step hb
  have n11 := hb.size
  replace hB := nextB hB hB.size hb
  go_wp2_with fail
  refine (spoil_any g (some ⟨g, 0, none⟩) _ _ l w8 (hR.own (by unfold maxLen; omega) (Nat.le_refl _)) (by omega) (by omega)).mono ?_
  rintro e w9 ⟨rfl, hg9⟩
  replace hK1 := hK1.over hg9 (fun q hq e => by rw [blk_lit hq] at e; injection e with e; omega)
  replace hK2 := hK2.over hg9 (fun q hq e => by rw [blk_lit hq] at e; injection e with e; omega)
  have hA1 := hO1.rd.over hg9 (fun q hq e => by rw [blk_lit hq] at e; have := m1 _ e; omega)
  have hA2 := hO2.rd.over hg9 (fun q hq e => by rw [blk_lit hq] at e; have := m2 _ e; omega)
  have hB9 : Below w.heap.size w w9 := hB.grown hg9 hB.size (fun q hq => by rw [blk_lit hq]; exact hg)
  obtain ⟨x0, x1, x2, x3, x4, x5, x6, x7, x8, x9, x10, x11, x12, fx⟩ := hK1.thirteen
  obtain ⟨y0, y1, y2, y3, y4, y5, y6, y7, y8, y9, y10, y11, y12, fy⟩ := hK2.thirteen
  go_wp2_with fail
  refine (sameGiver_yes a0 s A2 A1 l2 c2 c1 a3 a4 a6 a10 a12 w9 hA2 hA1).mono ?_
  rintro e w10 ⟨rfl, hb10⟩
  go_wp2_with fail
  go_ret
  exact ⟨rfl, hB9.trans (hb10.mono hB9.size)⟩
end Go.Proofs.Ytgfkpolklianeaa
