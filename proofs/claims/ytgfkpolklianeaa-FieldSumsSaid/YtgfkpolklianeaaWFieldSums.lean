import Derived.Test.YtgfkpolklianeaaRoomy
import Derived.Test.YtgfkpolklianeaaLeft
import Derived.Test.YtgfkpolklianeaaTwice
import Derived.Test.YtgfkpolklianeaaPolyR
namespace Go.Proofs.Ytgfkpolklianeaa
set_option linter.unusedSimpArgs false
set_option linter.unusedVariables false
open Go.RowKit

theorem trimL_le (l : List UInt8) : (trimL l).length ≤ l.length := by rw [trimL_length]; exact trimN_le _ _
theorem timesF_len {p q r : List UInt8} {k : Int} (h : timesF p q = (r, k)) : r.length ≤ 1024 := by
  unfold timesF at h
  split at h
  · injection h with h1 h2
    rw [← h1]
    simp
  · injection h with h1 h2
    rw [← h1]
    have := trimL_le (timesTo p q p.length)
    rw [timesTo_length] at this
    omega
theorem sumF_len (p q : List UInt8) : (sumF p q).length ≤ max p.length q.length := by
  have := trimL_le (sumL p q (max p.length q.length))
  rw [sumL_length] at this
  exact this

set_option maxHeartbeats 6400000 in
set_option maxRecDepth 100000 in
theorem fieldSums_walk (A : Option Addr) (p : List UInt8) (c : Nat) (B : Option Addr) (q : List UInt8) (d : Nat) (w : World) (hA : Rd w A (bvs p)) (_ : p.length ≤ c) (np : p.length ≤ 140737488351232) (hB : Rd w B (bvs q)) (_ : q.length ≤ d) (nq : q.length ≤ 140737488351232) :
    Calls Try.prog 12 #[.slice A p.length c, .slice B q.length d] w fun e w' => e = .returned (.bool true) ∧ Below w.heap.size w w' := by
  obtain ⟨r, k, hrk⟩ : ∃ r k, timesF p q = (r, k) := ⟨_, _, rfl⟩
  have hrl := timesF_len hrk
  have HR := Lib.hid hrk
  obtain ⟨S, HS⟩ : ∃ S, Hid (sumF p q = S) := ⟨_, rfl⟩
  have hsl := sumF_len p q
  rw [HS.out] at hsl
  have hsl2 : S.length ≤ 140737488351232 := by omega
  clear hrk hsl
  have hA0 := hA
  have hB0 := hB
  have hW : Below w.heap.size w w := Below.refl _ _
  go_enter Try.func12, Try.ntmps12
  go_wp2_with fail
  refine (roomy_any A p c w hA np).mono ?_
  rintro e w1 ⟨g1, rfl, hg1, hR1, hb⟩
  have r1 := RoomK.lt hR1
  replace hA := hA.step hb
  replace hB := hB.step hb
  have s1 := hb.size
  replace hW := nextB hW (Nat.le_refl _) hb
  go_wp2_with fail
  refine (roomy_any B q d w1 hB nq).mono ?_
  rintro e w2 ⟨g2, rfl, hg2, hR2, hb⟩
  have r2 := RoomK.lt hR2
  replace hA := hA.step hb
  replace hB := hB.step hb
  replace hR1 := hR1.step hb
  have s2 := hb.size
  replace hW := nextB hW hW.size hb
  go_wp2_with fail
  refine (times_ref_any A B p q _ _ c d w2 rfl rfl hA hB (by omega) (by omega)).mono ?_
  intro e w3 h3
  obtain ⟨X1, x1, rfl, hX1, hb⟩ := h3.open_ HR.out
  clear h3
  have l1 := hX1.lt
  replace hA := hA.step hb
  replace hB := hB.step hb
  replace hR1 := hR1.step hb
  replace hR2 := hR2.step hb
  have s3 := hb.size
  replace hW := nextB hW hW.size hb
  go_wp2_with fail
  refine (times_prog_any _ _ p q _ _ _ _ w3 rfl rfl hR1.rd hR2.rd (fun k hk => by rw [blk_lit hk]; omega) (fun k hk => by rw [blk_lit hk]; omega) (by omega) (by omega)).mono ?_
  intro e w4 h4
  obtain ⟨X2, x2, rfl, hX2, hb⟩ := h4.open_ HR.out
  clear h4
  have l2 := hX2.lt
  replace hA := hA.step hb
  replace hB := hB.step hb
  replace hR1 := hR1.step hb
  replace hR2 := hR2.step hb
  replace hX1 := hX1.step hb
  have s4 := hb.size
  replace hW := nextB hW hW.size hb
  go_wp2_with fail
  refine (times_prog_any _ _ p q _ _ _ _ w4 rfl rfl hR1.rd hR2.rd (fun k hk => by rw [blk_lit hk]; omega) (fun k hk => by rw [blk_lit hk]; omega) (by omega) (by omega)).mono ?_
  intro e w5 h5
  obtain ⟨X3, x3, rfl, hX3, hb⟩ := h5.open_ HR.out
  clear h5
  have l3 := hX3.lt
  replace hA := hA.step hb
  replace hB := hB.step hb
  replace hR1 := hR1.step hb
  replace hR2 := hR2.step hb
  replace hX1 := hX1.step hb
  replace hX2 := hX2.step hb
  have s5 := hb.size
  replace hW := nextB hW hW.size hb
  go_wp2_with fail
  refine (sum_prog_any _ _ p q _ _ _ _ w5 rfl rfl hR1.rd hR2.rd (fun k hk => by rw [blk_lit hk]; omega) (fun k hk => by rw [blk_lit hk]; omega) (by omega) (by omega)).mono ?_
  rintro e w6 ⟨Y1, y1, rfl, hY1, hb⟩
  rw [HS.out] at hY1 ⊢
  have m1 := hY1.lt
  replace hA := hA.step hb
  replace hB := hB.step hb
  replace hR1 := hR1.step hb
  replace hR2 := hR2.step hb
  replace hX1 := hX1.step hb
  replace hX2 := hX2.step hb
  replace hX3 := hX3.step hb
  have s6 := hb.size
  replace hW := nextB hW hW.size hb
  go_wp2_with fail
  refine (sum_prog_any _ _ p q _ _ _ _ w6 rfl rfl hR1.rd hR2.rd (fun k hk => by rw [blk_lit hk]; omega) (fun k hk => by rw [blk_lit hk]; omega) (by omega) (by omega)).mono ?_
  rintro e w7 ⟨Y2, y2, rfl, hY2, hb⟩
  rw [HS.out] at hY2 ⊢
  have m2 := hY2.lt
  replace hA := hA.step hb
  replace hB := hB.step hb
  replace hR1 := hR1.step hb
  replace hR2 := hR2.step hb
  replace hX1 := hX1.step hb
  replace hX2 := hX2.step hb
  replace hX3 := hX3.step hb
  replace hY1 := hY1.step hb
  have s7 := hb.size
  replace hW := nextB hW hW.size hb
  go_wp2_with fail
  refine (sum_ref_any A B p q _ _ c d w7 rfl rfl hA hB (by omega) (by omega)).mono ?_
  rintro e w8 ⟨Y3, y3, rfl, hY3, hb⟩
  rw [HS.out] at hY3 ⊢
  have m3 := hY3.lt
  replace hA := hA.step hb
  replace hB := hB.step hb
  replace hR1 := hR1.step hb
  replace hR2 := hR2.step hb
  replace hX1 := hX1.step hb
  replace hX2 := hX2.step hb
  replace hX3 := hX3.step hb
  replace hY1 := hY1.step hb
  replace hY2 := hY2.step hb
  have s8 := hb.size
  replace hW := nextB hW hW.size hb
  go_wp2_with fail
  refine (twice_yes w5.heap.size Y1 Y2 Y3 S _ _ _ w8 hY1 hY2.rd hY3.rd (fun q hq e => by have := m1 q hq; have := m2 q e; omega) (fun q hq e => by have := m1 q hq; have := m3 q e; omega) (by omega) (by omega)).mono ?_
  rintro e w9 ⟨rfl, hg⟩
  have s9 := hg.size
  replace hR1 := hR1.over hg (fun q hq e => by have := m1 q hq; have e : g1 = q := (by simpa using e); omega)
  replace hR2 := hR2.over hg (fun q hq e => by have := m1 q hq; have e : g2 = q := (by simpa using e); omega)
  replace hX1 := hX1.over hg (fun q hq e => by have := m1 q hq; have := l1 q e; omega)
  replace hX2 := hX2.over hg (fun q hq e => by have := m1 q hq; have := l2 q e; omega)
  replace hX3 := hX3.over hg (fun q hq e => by have := m1 q hq; have := l3 q e; omega)
  have hW9 : Below w.heap.size w w9 := hW.grown hg hW.size (fun q hq => by have := (m1 q hq).1; omega)
  go_wp2_with fail
  refine (twice_yes w3.heap.size X2 X3 X1 r _ _ _ w9 hX2 hX3.rd hX1.rd (fun q hq e => by have := l2 q hq; have := l3 q e; omega) (fun q hq e => by have := l2 q hq; have := l1 q e; omega) (by omega) (by omega)).mono ?_
  rintro e w10 ⟨rfl, hg2'⟩
  replace hR1 := hR1.over hg2' (fun q hq e => by have := l2 q hq; have e : g1 = q := (by simpa using e); omega)
  replace hR2 := hR2.over hg2' (fun q hq e => by have := l2 q hq; have e : g2 = q := (by simpa using e); omega)
  have hW10 : Below w.heap.size w w10 := hW9.grown hg2' hW9.size (fun q hq => by have := (l2 q hq).1; omega)
  go_wp2_with fail
  refine (left_yes g1 A p c w10 hR1 (hA0.below hW10) np).mono ?_
  rintro e w11 ⟨rfl, j1, rfl⟩
  go_wp2_with fail
  refine (left_yes g2 B q d (w10.drewN j1) (hR2.step (below_drewN (Below.refl _ _) _)) ((hB0.below hW10).drewN _) nq).mono ?_
  rintro e w11 ⟨rfl, j2, rfl⟩
  go_wp2_with fail
  go_ret
  exact ⟨rfl, below_drewN hW10 _⟩
end Go.Proofs.Ytgfkpolklianeaa
