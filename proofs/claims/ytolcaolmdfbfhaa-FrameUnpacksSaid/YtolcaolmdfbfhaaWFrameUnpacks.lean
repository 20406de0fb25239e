import Derived.Test.YtolcaolmdfbfhaaRoomy
import Derived.Test.YtolcaolmdfbfhaaLeft
import Derived.Test.YtolcaolmdfbfhaaTwice
import Derived.Test.YtolcaolmdfbfhaaStep
import Derived.Test.YtolcaolmdfbfhaaUnpAll
import Derived.Laws.StructEq
namespace Go.Proofs.Ytolcaolmdfbfhaa
set_option linter.unusedSimpArgs false
set_option linter.unusedVariables false
open Go.RowKit

theorem eq_head (a b c d e : Int) (w : World) : (binOp .eql 25 (.agg #[.int .i64 a, .int .i64 b, .int .i64 c, .int .i64 d, .int .i64 e]) (.agg #[.int .i64 a, .int .i64 b, .int .i64 c, .int .i64 d, .int .i64 e])).run Try.prog w = .ok (.bool true) w := by
  have u3 := Try.underlying3
  have hS : Try.prog.underlying 25 = some (.struct (Try.prog.fieldsOf 25)) := by kernel_rfl
  have hp : Try.prog.stoodInHeld 25 = false := by kernel_rfl
  rw [run_eql_struct, show (10000 : Nat) = 9999 + 1 from rfl, run_equalIn_agg w 9999 25 _ _ hS hp]
  simp only [Program.fieldsOf, Try.underlying25]
  go_simp
theorem guard_head : Try.prog.eqGuardType Try.prog.depth 25 = false := by kernel_rfl

set_option maxHeartbeats 3200000 in
set_option maxRecDepth 100000 in
theorem frameUnpacks_walk (A : Option Addr) (l : List UInt8) (c : Nat) (w : World) (ha : Rd w A (bvs l)) (hc : l.length ≤ c) (hn : l.length ≤ 140737488351232) :
    Calls Try.prog 3 #[.slice A l.length c] w fun e w' => e = .returned (.bool true) ∧ Below w.heap.size w w' := by
  obtain ⟨h, r, s, k, hrk⟩ : ∃ h r s k, unpacked l = (h, r, s, k) := ⟨_, _, _, _, rfl⟩
  have hrl : r.length ≤ 140737488351300 := by have := unpacked_len l; rw [hrk] at this; exact this
  have HR := Lib.hid hrk
  clear hrk
  obtain ⟨a1, a2, a3, a4, a5⟩ := h
  have q1 := eq_head a1 a2 a3 a4 a5
  have q3 := guard_head
  have ha0 := ha
  go_enter Try.func3, Try.ntmps3
  go_wp2_with fail
  refine (roomy_any A l c w ha hn).mono ?_
  rintro e w2 ⟨g, rfl, hg, hR, hB⟩
  replace ha := ha.step hB
  have t1 := hB.size
  have r1 := RoomK.lt hR
  go_wp2_with fail
  refine (runp_any A l c w2 ha hc (by omega)).mono ?_
  intro e w3 h3
  obtain ⟨A3, c3, rfl, hO3, hb⟩ := h3.open_ HR.out
  clear h3
  unfold hv
  go_wp2_with fail
  obtain ⟨W3, hW3⟩ : ∃ W : World, W = w3.alloc (.cells #[.int .i64 a1, .int .i64 a2, .int .i64 a3, .int .i64 a4, .int .i64 a5] 25) := ⟨_, rfl⟩
  rw [← hW3]
  have hb3 : Below w2.heap.size w2 W3 := by rw [hW3]; exact hb.alloc hb.size _
  have hK3 : Blk W3 w3.heap.size 25 #[.int .i64 a1, .int .i64 a2, .int .i64 a3, .int .i64 a4, .int .i64 a5] := by rw [hW3]; exact Blk.new _ _ _
  replace hO3 : Own W3 w2.heap.size 5 1 A3 r.length c3 (bvs r) := by rw [hW3]; exact hO3.alloc _
  replace hR := hR.step hb3
  have z3 := hb.size
  have t2 := hb3.size
  have m3 := hO3.lt
  have y3 := hK3.lt
  replace hB := nextB hB hB.size hb3
  clear hW3 hb hb3
  refine (unpack_any (some ⟨g, 0, none⟩) l _ W3 hR.rd (by omega) (by omega)).mono ?_
  intro e w4 h4
  obtain ⟨A4, c4, rfl, hO4, hb⟩ := h4.open_ HR.out
  clear h4
  unfold hv
  go_wp2_with fail
  obtain ⟨W4, hW4⟩ : ∃ W : World, W = w4.alloc (.cells #[.int .i64 a1, .int .i64 a2, .int .i64 a3, .int .i64 a4, .int .i64 a5] 25) := ⟨_, rfl⟩
  rw [← hW4]
  have hb4 : Below W3.heap.size W3 W4 := by rw [hW4]; exact hb.alloc hb.size _
  have hK4 : Blk W4 w4.heap.size 25 #[.int .i64 a1, .int .i64 a2, .int .i64 a3, .int .i64 a4, .int .i64 a5] := by rw [hW4]; exact Blk.new _ _ _
  replace hO4 : Own W4 W3.heap.size 5 1 A4 r.length c4 (bvs r) := by rw [hW4]; exact hO4.alloc _
  replace hR := hR.step hb4
  replace hO3 := hO3.step hb4
  replace hK3 := hK3.step hb4
  have z4 := hb.size
  have t3 := hb4.size
  have m4 := hO4.lt
  have y4 := hK4.lt
  replace hB := nextB hB hB.size hb4
  clear hW4 hb hb4
  refine (unpack_any (some ⟨g, 0, none⟩) l _ W4 hR.rd (by omega) (by omega)).mono ?_
  intro e w5 h5
  obtain ⟨A5, c5, rfl, hO5, hb⟩ := h5.open_ HR.out
  clear h5
  unfold hv
  go_upto_region 5 with fail
  obtain ⟨W5, hW5⟩ : ∃ W : World, W = w5.alloc (.cells #[.int .i64 a1, .int .i64 a2, .int .i64 a3, .int .i64 a4, .int .i64 a5] 25) := ⟨_, rfl⟩
  rw [← hW5]
  have hb5 : Below W4.heap.size W4 W5 := by rw [hW5]; exact hb.alloc hb.size _
  have hK5 : Blk W5 w5.heap.size 25 #[.int .i64 a1, .int .i64 a2, .int .i64 a3, .int .i64 a4, .int .i64 a5] := by rw [hW5]; exact Blk.new _ _ _
  replace hO5 : Own W5 W4.heap.size 5 1 A5 r.length c5 (bvs r) := by rw [hW5]; exact hO5.alloc _
  replace hR := hR.step hb5
  replace hO3 := hO3.step hb5
  replace hO4 := hO4.step hb5
  replace hK3 := hK3.step hb5
  replace hK4 := hK4.step hb5
  have z5 := hb.size
  have t4 := hb5.size
  have m5 := hO5.lt
  replace hB := nextB hB hB.size hb5
  clear hW5 hb hb5
  obtain ⟨k0, k1, k2, k3, k4, kf⟩ := hK3.five
  obtain ⟨l0, l1, l2, l3, l4, lf⟩ := hK4.five
  obtain ⟨n0, n1, n2, n3, n4, nf⟩ := hK5.five
  go_wp2_with fail
  refine (twice_yes W3.heap.size A4 A5 A3 r c4 c5 c3 W5 hO4 hO5.rd hO3.rd (fun q hq e => by have := m4 q hq; have := m5 q e; omega) (fun q hq e => by have := m4 q hq; have := m3 q e; omega) hrl (by omega)).mono ?_
  rintro e w6 ⟨rfl, hg6⟩
  replace hR := hR.over hg6 (fun q hq e => by have := m4 q hq; have e : g = q := (by simpa using e); omega)
  have hB6 : Below w.heap.size w w6 := hB.grown hg6 hB.size (fun q hq => by have := (m4 q hq).1; omega)
  clear k0 k1 k2 k3 k4 kf l0 l1 l2 l3 l4 lf n0 n1 n2 n3 n4 nf
  go_wp2_with fail
  refine (left_yes g A l c w6 hR (ha0.below hB6) hn).mono ?_
  rintro e w7 ⟨rfl, m, rfl⟩
  go_wp2
  go_ret
  exact ⟨rfl, below_drewN hB6 _⟩
end Go.Proofs.Ytolcaolmdfbfhaa
