import Derived.Test.YtppjafhlbphibaaSndO
import Derived.Test.YtppjafhlbphibaaLstO
import Derived.Test.YtppjafhlbphibaaSameSnd
namespace Go.Proofs.Ytppjafhlbphibaa
set_option linter.unusedSimpArgs false
set_option linter.unusedVariables false
open Go.RowKit

theorem SndC.same {k c s : Int} {n n' : Nat} {a b a' b' : Int} (h : SndC k n c s a b) (h' : SndC k n' c s a' b') : n' = n ∧ a' = a ∧ b' = b := by
  unfold SndC at h h'
  split at h
  · rename_i e
    rw [if_pos e] at h'
    exact ⟨by omega, by omega, by omega⟩
  · rename_i e
    rw [if_neg e] at h'
    exact ⟨by omega, by omega, by omega⟩
theorem SndC.le {k c s : Int} {n : Nat} {a b : Int} (h : SndC k n c s a b) : n ≤ 7 := by
  unfold SndC at h
  split at h <;> omega
theorem LstC.same {k c s m : Int} {n n' : Nat} {a b d a' b' d' : Int} (h : LstC k n c s m a b d) (h' : LstC k n' c s m a' b' d') : n' = n ∧ a' = a ∧ b' = b ∧ d' = d := by
  unfold LstC at h h'
  split at h
  · rename_i e
    rw [if_pos e] at h'
    exact ⟨by omega, by omega, by omega, by omega⟩
  · rename_i e
    rw [if_neg e] at h'
    exact ⟨by omega, by omega, by omega, by omega⟩
theorem LstC.le {k c s m : Int} {n : Nat} {a b d : Int} (h : LstC k n c s m a b d) : n ≤ 7 := by
  unfold LstC at h
  split at h <;> omega

set_option maxHeartbeats 3200000 in
set_option maxRecDepth 100000 in
theorem frameOpens_walk (c s : Int) (w : World) (_ : (Lit.int IntKind.i64 c).wf = true) (_ : (Lit.int IntKind.i64 s).wf = true) :
    Calls Try.prog 3 #[.int .i64 c, .int .i64 s] w fun e w' => e = .returned (.bool true) ∧ Below w.heap.size w w' := by
  obtain ⟨k, hk⟩ : ∃ k, k = opE c s := ⟨_, rfl⟩
  have C1 := Lib.hid (fun w => ropened_any c s w)
  have C2 := Lib.hid (fun w => rlistened_any c s w)
  have C3 := Lib.hid (fun w => popen_any c s w)
  have C4 := Lib.hid (fun w => plisten_any c s w)
  rw [← hk] at C1 C2 C3 C4
  clear hk
  go_enter Try.func3, Try.ntmps3
  go_wp2_with fail
  refine (C1.out _).mono ?_
  rintro e w1 ⟨A1, n, a, b, rfl, hS1, hQ1, hb1⟩
  have hB := hb1
  go_wp2_with fail
  obtain ⟨V1, hV1⟩ : ∃ V : World, V = w1.alloc (.cells #[.int .i64 a, .int .i64 b, .int .i64 0, .int .i64 0, .slice A1 n n] 24) := ⟨_, rfl⟩
  have hX1 : Blk V1 w1.heap.size 24 #[.int .i64 a, .int .i64 b, .int .i64 0, .int .i64 0, .slice A1 n n] := by rw [hV1]; exact Blk.new _ _ _
  have hv1 : Below w1.heap.size w1 V1 := by rw [hV1]; exact (Below.refl _ _).alloc (Nat.le_refl _) _
  rw [← hV1]
  clear hV1 hb1
  replace hB := nextB hB hB.size hv1
  replace hQ1 := hQ1.step hv1
  refine (C2.out _).mono ?_
  rintro e w2 ⟨A2, n2, p2, a2, b2, m2, rfl, hS2, hQ2, hb2⟩
  replace hX1 := hX1.step hb2
  replace hQ1 := hQ1.step hb2
  replace hB := nextB hB hB.size hb2
  have t1 := hX1.lt
  go_wp2_with fail
  obtain ⟨V2, hV2⟩ : ∃ V : World, V = w2.alloc (.cells #[.int .i64 a2, .int .i64 b2, .int .i64 m2, .slice A2 n2 p2] 30) := ⟨_, rfl⟩
  have hX2 : Blk V2 w2.heap.size 30 #[.int .i64 a2, .int .i64 b2, .int .i64 m2, .slice A2 n2 p2] := by rw [hV2]; exact Blk.new _ _ _
  have hv2 : Below w2.heap.size w2 V2 := by rw [hV2]; exact (Below.refl _ _).alloc (Nat.le_refl _) _
  rw [← hV2]
  clear hV2 hb2
  replace hB := nextB hB hB.size hv2
  replace hQ1 := hQ1.step hv2
  replace hX1 := hX1.step hv2
  replace hQ2 := hQ2.step hv2
  refine (C3.out _).mono ?_
  rintro e w3 ⟨A3, n3, a3, b3, rfl, hS3, hQ3, hb3⟩
  obtain ⟨rfl, rfl, rfl⟩ := hS1.same hS3
  replace hX1 := hX1.step hb3
  replace hX2 := hX2.step hb3
  replace hQ1 := hQ1.step hb3
  replace hQ2 := hQ2.step hb3
  replace hB := nextB hB hB.size hb3
  go_wp2_with fail
  obtain ⟨V3, hV3⟩ : ∃ V : World, V = w3.alloc (.cells #[.int .i64 a3, .int .i64 b3, .int .i64 0, .int .i64 0, .slice A3 n3 n3] 24) := ⟨_, rfl⟩
  have hX3 : Blk V3 w3.heap.size 24 #[.int .i64 a3, .int .i64 b3, .int .i64 0, .int .i64 0, .slice A3 n3 n3] := by rw [hV3]; exact Blk.new _ _ _
  have hv3 : Below w3.heap.size w3 V3 := by rw [hV3]; exact (Below.refl _ _).alloc (Nat.le_refl _) _
  rw [← hV3]
  clear hV3 hb3
  replace hB := nextB hB hB.size hv3
  replace hQ1 := hQ1.step hv3
  replace hX1 := hX1.step hv3
  replace hX2 := hX2.step hv3
  replace hQ2 := hQ2.step hv3
  replace hQ3 := hQ3.step hv3
  refine (C4.out _).mono ?_
  rintro e w4 ⟨A4, n4, p4, a4, b4, m4, rfl, hS4, hQ4, hb4⟩
  obtain ⟨rfl, rfl, rfl, rfl⟩ := hS2.same hS4
  replace hX1 := hX1.step hb4
  replace hX2 := hX2.step hb4
  replace hX3 := hX3.step hb4
  replace hQ1 := hQ1.step hb4
  replace hQ2 := hQ2.step hb4
  replace hQ3 := hQ3.step hb4
  replace hB := nextB hB hB.size hb4
  have ln := hS3.le
  have lm := hS4.le
  obtain ⟨V4, hV4⟩ : ∃ V : World, V = w4.alloc (.cells #[.int .i64 a4, .int .i64 b4, .int .i64 m4, .slice A4 n4 p4] 30) := ⟨_, rfl⟩
  have hX4 : Blk V4 w4.heap.size 30 #[.int .i64 a4, .int .i64 b4, .int .i64 m4, .slice A4 n4 p4] := by rw [hV4]; exact Blk.new _ _ _
  have hv4 : Below w4.heap.size w4 V4 := by rw [hV4]; exact (Below.refl _ _).alloc (Nat.le_refl _) _
  replace hB := nextB hB hB.size hv4
  replace hQ1 := hQ1.step hv4
  replace hX1 := hX1.step hv4
  replace hX2 := hX2.step hv4
  replace hX3 := hX3.step hv4
  replace hQ2 := hQ2.step hv4
  replace hQ3 := hQ3.step hv4
  replace hQ4 := hQ4.step hv4
  clear hS1 hS2 hS3 hS4 C1 C2 C3 C4 hv1 hv2 hv3 hb4 hv4
  go_upto_region 5 with fail
  rw [← hV4]
  clear hV4
  obtain ⟨x0, x1, x2, x3, x4, xf⟩ := hX1.five
  obtain ⟨y0, y1, y2, y3, yf⟩ := hX2.four
  obtain ⟨z0, z1, z2, z3, z4, zf⟩ := hX3.five
  obtain ⟨u0, u1, u2, u3, uf⟩ := hX4.four
  go_wp2_with fail
  refine (sameSender_yes a3 b3 0 0 A3 A1 (List.replicate n3 noQueue) n3 n3 n3 V4 (by simp) (by omega) (fun q hq => by rw [List.eq_of_mem_replicate hq]; simp [noQueue]) hQ3 hQ1).mono ?_
  rintro e w5 ⟨rfl, hb5⟩
  replace hX2 := hX2.step hb5
  replace hX4 := hX4.step hb5
  replace hQ2 := hQ2.step hb5
  replace hQ4 := hQ4.step hb5
  replace hB := nextB hB hB.size hb5
  clear x0 x1 x2 x3 x4 xf z0 z1 z2 z3 z4 zf y0 y1 y2 y3 yf u0 u1 u2 u3 uf hX1 hX3
  obtain ⟨y0, y1, y2, y3, yf⟩ := hX2.four
  obtain ⟨u0, u1, u2, u3, uf⟩ := hX4.four
  go_wp2_with fail
  refine (sameListener_yes a4 b4 m4 A4 A2 (List.replicate n4 deaf) n4 p4 p2 w5 (by simp) (by omega) hQ4 hQ2).mono ?_
  rintro e w6 ⟨rfl, hb6⟩
  replace hB := nextB hB hB.size hb6
  go_wp2_with fail
  go_ret
  exact ⟨rfl, hB⟩
end Go.Proofs.Ytppjafhlbphibaa
