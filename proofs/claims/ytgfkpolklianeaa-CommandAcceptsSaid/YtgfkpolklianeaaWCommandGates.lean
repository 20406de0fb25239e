import Derived.Test.YtgfkpolklianeaaGate5
import Derived.Test.YtgfkpolklianeaaStep
import Derived.Laws.StructEq
import Derived.Deep.DeepCutAuto
namespace Go.Proofs.Ytgfkpolklianeaa
set_option linter.unusedSimpArgs false
set_option linter.unusedVariables false
open Go.RowKit

/-- Two gates of the same numbers are equal. -/
theorem eq_gate (a b c : Int) (s x g : Bool) (n : Int) (w : World) : (binOp .eql 53 (gv7 a b c s x g n) (gv7 a b c s x g n)).run Try.prog w = .ok (.bool true) w := by
  have u3 := Try.underlying3
  have u4 := Try.underlying4
  have hS : Try.prog.underlying 53 = some (.struct (Try.prog.fieldsOf 53)) := by kernel_rfl
  have hp : Try.prog.stoodInHeld 53 = false := by kernel_rfl
  unfold gv7
  rw [run_eql_struct, show (10000 : Nat) = 9999 + 1 from rfl, run_equalIn_agg w 9999 53 _ _ hS hp]
  simp only [Program.fieldsOf, Try.underlying53]
  go_simp
theorem guard_gate : Try.prog.eqGuardType Try.prog.depth 53 = false := by kernel_rfl

theorem gates_both (cr ha : Int) : ∃ (a b c : Int) (s x g : Bool) (n k : Int),
    (∀ w, Calls Try.prog 33 #[.int .i64 cr, .int .i64 ha] w fun e w' => e = .returned (.tuple #[gv7 a b c s x g n, .int .i64 k]) ∧ Below w.heap.size w w') ∧
    (∀ w, Calls Try.prog 34 #[.int .i64 cr, .int .i64 ha] w fun e w' => e = .returned (.tuple #[gv7 a b c s x g n, .int .i64 k]) ∧ Below w.heap.size w w') := by
  by_cases h : guardOk cr ha
  · exact ⟨cr, 0, ha, false, false, false, 0, 0, fun w => guarded_yes cr ha w h, fun w => guard_yes cr ha w h⟩
  · exact ⟨0, 0, 0, false, false, false, 0, 2, fun w => guarded_no cr ha w h, fun w => guard_no cr ha w h⟩
theorem reports_both (cr nx ha : Int) (sh wa ag : Bool) (co : Int) : ∃ (r k : Int),
    (∀ w, Calls Try.prog 35 #[gv7 cr nx ha sh wa ag co] w fun e w' => e = .returned (.tuple #[.int .i64 r, .int .i64 k]) ∧ Below w.heap.size w w') ∧
    (∀ w, Calls Try.prog 36 #[gv7 cr nx ha sh wa ag co] w fun e w' => e = .returned (.tuple #[.int .i64 r, .int .i64 k]) ∧ Below w.heap.size w w') := by
  by_cases h : guardOk cr ha ∧ (0 ≤ nx ∧ nx ≤ 255) ∧ (0 ≤ co ∧ co ≤ 3)
  · obtain ⟨hg, h1, h2⟩ := h
    obtain ⟨nx, rfl⟩ := Int.eq_ofNat_of_zero_le h1.1
    obtain ⟨co, rfl⟩ := Int.eq_ofNat_of_zero_le h2.1
    exact ⟨_, 0, fun w => reported_yes cr nx ha sh wa ag co w hg (by omega), fun w => report_yes cr nx ha sh wa ag co w hg (by omega)⟩
  · exact ⟨0, 11, fun w => reported_no cr nx ha sh wa ag co w h, fun w => report_no cr nx ha sh wa ag co w h⟩
theorem reads_both (st : Int) : ∃ (a b c : Int) (s x g : Bool) (n k : Int),
    (∀ w, Calls Try.prog 37 #[.int .i64 st] w fun e w' => e = .returned (.tuple #[gv7 a b c s x g n, .int .i64 k]) ∧ Below w.heap.size w w') ∧
    (∀ w, Calls Try.prog 38 #[.int .i64 st] w fun e w' => e = .returned (.tuple #[gv7 a b c s x g n, .int .i64 k]) ∧ Below w.heap.size w w') := by
  by_cases h : 0 ≤ st ∧ st ≤ 4294967295
  · obtain ⟨n, rfl⟩ := Int.eq_ofNat_of_zero_le h.1
    have hn : n < 4294967296 := by omega
    by_cases hf : statusForm n
    · exact ⟨0, _, 0, _, _, _, _, 0, fun w => statusOf_good n w hn hf, fun w => read_good n w hn hf⟩
    · exact ⟨0, 0, 0, false, false, false, 0, 8, fun w => statusOf_form n w hn hf, fun w => read_form n w hn hf⟩
  · exact ⟨0, 0, 0, false, false, false, 0, 2, fun w => statusOf_range st w h, fun w => read_range st w h⟩

set_option maxHeartbeats 3200000 in
set_option maxRecDepth 100000 in
theorem commandGates_walk (cr nx ha : Int) (sh wa ag : Bool) (co : Int) (st : Int) (w : World) :
    Calls Try.prog 6 #[gv7 cr nx ha sh wa ag co, .int .i64 st] w fun e w' => e = .returned (.bool true) ∧ Below w.heap.size w w' := by
  obtain ⟨a1, a2, a3, a4, a5, a6, a7, k1, c1, c2⟩ := gates_both cr ha
  obtain ⟨r, k2, c3, c4⟩ := reports_both cr nx ha sh wa ag co
  obtain ⟨d1, d2, d3, d4, d5, d6, d7, k3, c5, c6⟩ := reads_both st
  have C1 := Lib.hid c1
  have C2 := Lib.hid c2
  have C3 := Lib.hid c3
  have C4 := Lib.hid c4
  have C5 := Lib.hid c5
  have C6 := Lib.hid c6
  have q1 := eq_gate a1 a2 a3 a4 a5 a6 a7
  have q2 := eq_gate d1 d2 d3 d4 d5 d6 d7
  have q3 := guard_gate
  clear c1 c2 c3 c4 c5 c6
  unfold gv7 at q1 q2
  unfold gv7
  have hW : Below w.heap.size w w := Below.refl _ _
  go_enter Try.func6, Try.ntmps6
  go_wp2_with fail
  obtain ⟨W1, hW1⟩ : ∃ W : World, W = w.alloc (.cells #[.int .i64 cr, .int .i64 nx, .int .i64 ha, .bool sh, .bool wa, .bool ag, .int .i64 co] 53) := ⟨_, rfl⟩
  have hK : Blk W1 w.heap.size 53 #[.int .i64 cr, .int .i64 nx, .int .i64 ha, .bool sh, .bool wa, .bool ag, .int .i64 co] := by rw [hW1]; exact Blk.new _ _ _
  have hB : Below w.heap.size w W1 := by rw [hW1]; exact (by repeat (first | with_reducible exact Below.refl _ _ | with_reducible assumption | with_reducible refine below_drewN ?_ _ | with_reducible refine Below.drew ?_ | with_reducible refine Below.alloc ?_ ?_ _ | with_reducible refine Below.setCell ?_ ?_ _ | with_reducible exact Nat.le_refl _ | (simp; omega) | (simp; done)))
  rw [← hW1]
  clear hW1
  refine (C1.out _).mono ?_
  rintro e w2 ⟨rfl, hb⟩
  replace hK := hK.step hb
  replace hB := nextB hB hB.size hb
  unfold gv7
  go_upto_region 2 with fail
  obtain ⟨W2, hW2⟩ : ∃ W : World, W = w2.alloc (.cells #[.int .i64 a1, .int .i64 a2, .int .i64 a3, .bool a4, .bool a5, .bool a6, .int .i64 a7] 53) := ⟨_, rfl⟩
  have hb : Below w2.heap.size w2 W2 := by rw [hW2]; exact (by repeat (first | with_reducible exact Below.refl _ _ | with_reducible assumption | with_reducible refine below_drewN ?_ _ | with_reducible refine Below.drew ?_ | with_reducible refine Below.alloc ?_ ?_ _ | with_reducible refine Below.setCell ?_ ?_ _ | with_reducible exact Nat.le_refl _ | (simp; omega) | (simp; done)))
  have hK1 : Blk W2 w2.heap.size 53 #[.int .i64 a1, .int .i64 a2, .int .i64 a3, .bool a4, .bool a5, .bool a6, .int .i64 a7] := by rw [hW2]; exact Blk.new _ _ _
  replace hK := hK.step hb
  replace hB := nextB hB hB.size hb
  rw [← hW2]
  clear hW2
  obtain ⟨x0, x1, x2, x3, x4, x5, x6, fx⟩ := hK.seven
  go_wp2_with fail
  refine (C2.out _).mono ?_
  rintro e w3 ⟨rfl, hb⟩
  clear x0 x1 x2 x3 x4 x5 x6 fx
  replace hK := hK.step hb
  replace hK1 := hK1.step hb
  replace hB := nextB hB hB.size hb
  unfold gv7
  go_upto_region 3 with fail
  obtain ⟨W3, hW3⟩ : ∃ W : World, W = w3.alloc (.cells #[.int .i64 a1, .int .i64 a2, .int .i64 a3, .bool a4, .bool a5, .bool a6, .int .i64 a7] 53) := ⟨_, rfl⟩
  have hb : Below w3.heap.size w3 W3 := by rw [hW3]; exact (by repeat (first | with_reducible exact Below.refl _ _ | with_reducible assumption | with_reducible refine below_drewN ?_ _ | with_reducible refine Below.drew ?_ | with_reducible refine Below.alloc ?_ ?_ _ | with_reducible refine Below.setCell ?_ ?_ _ | with_reducible exact Nat.le_refl _ | (simp; omega) | (simp; done)))
  have hK2 : Blk W3 w3.heap.size 53 #[.int .i64 a1, .int .i64 a2, .int .i64 a3, .bool a4, .bool a5, .bool a6, .int .i64 a7] := by rw [hW3]; exact Blk.new _ _ _
  replace hK := hK.step hb
  replace hK1 := hK1.step hb
  replace hB := nextB hB hB.size hb
  rw [← hW3]
  clear hW3
  obtain ⟨x0, x1, x2, x3, x4, x5, x6, fx⟩ := hK.seven
  go_wp2_with fail
  refine (C3.out _).mono ?_
  rintro e w4 ⟨rfl, hb⟩
  clear x0 x1 x2 x3 x4 x5 x6 fx
  replace hK := hK.step hb
  replace hK1 := hK1.step hb
  replace hK2 := hK2.step hb
  replace hB := nextB hB hB.size hb
  obtain ⟨x0, x1, x2, x3, x4, x5, x6, fx⟩ := hK.seven
  go_wp2_with fail
  refine (C4.out _).mono ?_
  rintro e w5 ⟨rfl, hb⟩
  clear x0 x1 x2 x3 x4 x5 x6 fx
  replace hK1 := hK1.step hb
  replace hK2 := hK2.step hb
  replace hB := nextB hB hB.size hb
  clear hK
  go_wp2_with fail
  refine (C5.out _).mono ?_
  rintro e w6 ⟨rfl, hb⟩
  replace hK1 := hK1.step hb
  replace hK2 := hK2.step hb
  replace hB := nextB hB hB.size hb
  unfold gv7
  go_upto_region 6 with fail
  obtain ⟨W6, hW6⟩ : ∃ W : World, W = w6.alloc (.cells #[.int .i64 d1, .int .i64 d2, .int .i64 d3, .bool d4, .bool d5, .bool d6, .int .i64 d7] 53) := ⟨_, rfl⟩
  have hb : Below w6.heap.size w6 W6 := by rw [hW6]; exact (by repeat (first | with_reducible exact Below.refl _ _ | with_reducible assumption | with_reducible refine below_drewN ?_ _ | with_reducible refine Below.drew ?_ | with_reducible refine Below.alloc ?_ ?_ _ | with_reducible refine Below.setCell ?_ ?_ _ | with_reducible exact Nat.le_refl _ | (simp; omega) | (simp; done)))
  have hK3 : Blk W6 w6.heap.size 53 #[.int .i64 d1, .int .i64 d2, .int .i64 d3, .bool d4, .bool d5, .bool d6, .int .i64 d7] := by rw [hW6]; exact Blk.new _ _ _
  replace hK1 := hK1.step hb
  replace hK2 := hK2.step hb
  replace hB := nextB hB hB.size hb
  rw [← hW6]
  clear hW6
  go_wp2_with fail
  refine (C6.out _).mono ?_
  rintro e w7 ⟨rfl, hb⟩
  replace hK1 := hK1.step hb
  replace hK2 := hK2.step hb
  replace hK3 := hK3.step hb
  replace hB := nextB hB hB.size hb
  unfold gv7
  go_upto_region 7 with fail
  obtain ⟨W7, hW7⟩ : ∃ W : World, W = w7.alloc (.cells #[.int .i64 d1, .int .i64 d2, .int .i64 d3, .bool d4, .bool d5, .bool d6, .int .i64 d7] 53) := ⟨_, rfl⟩
  have hb : Below w7.heap.size w7 W7 := by rw [hW7]; exact (by repeat (first | with_reducible exact Below.refl _ _ | with_reducible assumption | with_reducible refine below_drewN ?_ _ | with_reducible refine Below.drew ?_ | with_reducible refine Below.alloc ?_ ?_ _ | with_reducible refine Below.setCell ?_ ?_ _ | with_reducible exact Nat.le_refl _ | (simp; omega) | (simp; done)))
  have hK4 : Blk W7 w7.heap.size 53 #[.int .i64 d1, .int .i64 d2, .int .i64 d3, .bool d4, .bool d5, .bool d6, .int .i64 d7] := by rw [hW7]; exact Blk.new _ _ _
  replace hK1 := hK1.step hb
  replace hK2 := hK2.step hb
  replace hK3 := hK3.step hb
  replace hB := nextB hB hB.size hb
  rw [← hW7]
  clear hW7
  obtain ⟨x0, x1, x2, x3, x4, x5, x6, fx⟩ := hK1.seven
  obtain ⟨y0, y1, y2, y3, y4, y5, y6, fy⟩ := hK2.seven
  obtain ⟨z0, z1, z2, z3, z4, z5, z6, fz⟩ := hK3.seven
  obtain ⟨u0, u1, u2, u3, u4, u5, u6, fu⟩ := hK4.seven
  go_wp2
  go_ret
  exact ⟨rfl, hB⟩
theorem commandGates_walkS (x : Gt) (st : Int) (w : World) (_ : (Lit.int .i64 st).wf = true) :
    Calls Try.prog 6 #[gtv x, .int .i64 st] w fun e w' => e = .returned (.bool true) ∧ Below w.heap.size w w' :=
  commandGates_walk x.craft x.next x.half x.shut x.wait x.again x.count st w
end Go.Proofs.Ytgfkpolklianeaa
