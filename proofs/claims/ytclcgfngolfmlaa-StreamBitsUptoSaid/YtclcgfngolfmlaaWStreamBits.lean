import Derived.Test.YtclcgfngolfmlaaRoomy
import Derived.Test.YtclcgfngolfmlaaLeft
import Derived.Test.YtclcgfngolfmlaaTwice
import Derived.Test.YtclcgfngolfmlaaStep
import Derived.Test.YtclcgfngolfmlaaByA
import Derived.Test.YtclcgfngolfmlaaByR
import Derived.Test.YtclcgfngolfmlaaBitsProg
import Derived.Test.YtclcgfngolfmlaaScrProg
import Derived.Test.YtclcgfngolfmlaaScrZ
namespace Go.Proofs.Ytclcgfngolfmlaa
set_option linter.unusedSimpArgs false
set_option linter.unusedVariables false
open Go.RowKit

theorem rscr_all (A : Option Addr) (l : List UInt8) (n c : Nat) (w : World) (hl : l.length = n) (ha : Rd w A (bvs l)) (hn : n ≤ 1048576) :
    Calls Try.prog 25 #[.slice A n c] w fun e w' => RowsOut w w' (scrL l) e := by
  by_cases h : n = 0
  · exact rscr_zero A l n c w hl ha h
  · exact rscr_any A l n c w hl ha hn (by omega)

set_option maxHeartbeats 6400000 in
set_option maxRecDepth 100000 in
theorem streamBits_walk (A : Option Addr) (p : List UInt8) (c : Nat) (B : Option Addr) (q : List UInt8) (d : Nat) (w : World) (hA : Rd w A (bvs p)) (_ : p.length ≤ c) (np : p.length ≤ 1048576) (hB : Rd w B (bvs q)) (_ : q.length ≤ d) (nq : q.length ≤ 1048576) :
    Calls Try.prog 4 #[.slice A p.length c, .slice B q.length d] w fun e w' => e = .returned (.bool true) ∧ Below w.heap.size w w' := by
  obtain ⟨r, k, hrk⟩ : ∃ r k, bytesF q = (r, k) := ⟨_, _, rfl⟩
  have hrl : r.length ≤ 1048576 := by have := bytesF_len q; rw [hrk] at this; exact Nat.le_trans this nq
  have HR := Lib.hid hrk
  obtain ⟨S, HS⟩ : ∃ S, Hid (scrL p = S) := ⟨_, rfl⟩
  have hsl : S.length ≤ 1048576 := by rw [← HS.out, scrL, scrM_length]; exact np
  obtain ⟨T, HT⟩ : ∃ T, Hid (bitsL p = T) := ⟨_, rfl⟩
  have htl : T.length ≤ 8388608 := by rw [← HT.out, bitsL_length]; omega
  clear hrk
  have hA0 := hA
  have hB0 := hB
  have hW : Below w.heap.size w w := Below.refl _ _
  go_enter Try.func4, Try.ntmps4
  go_wp2_with fail
  refine (roomy_any A p c w hA (by omega)).mono ?_
  rintro e w1 ⟨g1, rfl, hg1, hR1, hb⟩
  have r1 := RoomK.lt hR1
  replace hA := hA.step hb
  replace hB := hB.step hb
  have s1 := hb.size
  replace hW := nextB hW (Nat.le_refl _) hb
  go_wp2_with fail
  refine (roomy_any B q d w1 hB (by omega)).mono ?_
  rintro e w2 ⟨g2, rfl, hg2, hR2, hb⟩
  have r2 := RoomK.lt hR2
  replace hA := hA.step hb
  replace hB := hB.step hb
  replace hR1 := hR1.step hb
  have s2 := hb.size
  replace hW := nextB hW hW.size hb
  go_wp2_with fail
  refine (rbytes_any B q _ d w2 rfl hB (by omega)).mono ?_
  intro e w3 h3
  obtain ⟨X1, x1, rfl, hX1, hb⟩ := h3.open_ HR.out
  clear h3
  have l1 := hX1.lt
  replace hA := hA.step hb
  replace hB := hB.step hb
  replace hR1 := hR1.step hb
  replace hR2 := hR2.step hb
  have s3 := hb.size
  replace hW := nextB hW hW.size hb
  go_wp2_with fail
  refine (pbytes_any g2 0 _ _ q w3 rfl hR2.rd (by omega) (by omega) (by omega)).mono ?_
  intro e w4 h4
  obtain ⟨X2, x2, rfl, hX2, hb⟩ := h4.open_ HR.out
  clear h4
  have l2 := hX2.lt
  replace hA := hA.step hb
  replace hB := hB.step hb
  replace hR1 := hR1.step hb
  replace hR2 := hR2.step hb
  replace hX1 := hX1.step hb
  have s4 := hb.size
  replace hW := nextB hW hW.size hb
  go_wp2_with fail
  refine (pbytes_any g2 0 _ _ q w4 rfl hR2.rd (by omega) (by omega) (by omega)).mono ?_
  intro e w5 h5
  obtain ⟨X3, x3, rfl, hX3, hb⟩ := h5.open_ HR.out
  clear h5
  have l3 := hX3.lt
  replace hA := hA.step hb
  replace hB := hB.step hb
  replace hR1 := hR1.step hb
  replace hR2 := hR2.step hb
  replace hX1 := hX1.step hb
  replace hX2 := hX2.step hb
  have s5 := hb.size
  replace hW := nextB hW hW.size hb
  go_wp2_with fail
  refine (twice_yes w3.heap.size X2 X3 X1 r _ _ _ w5 hX2 hX3.rd hX1.rd (fun q hq e => by have := l2 q hq; have := l3 q e; omega) (fun q hq e => by have := l2 q hq; have := l1 q e; omega) (by omega) (by omega)).mono ?_
  rintro e w6 ⟨rfl, hg⟩
  have s6 := hg.size
  replace hA := hA0.below (hW.grown hg hW.size (fun q hq => by have := (l2 q hq).1; omega))
  replace hB := hB0.below (hW.grown hg hW.size (fun q hq => by have := (l2 q hq).1; omega))
  replace hR1 := hR1.over hg (fun q hq e => by have := l2 q hq; have e : g1 = q := (by simpa using e); omega)
  replace hR2 := hR2.over hg (fun q hq e => by have := l2 q hq; have e : g2 = q := (by simpa using e); omega)
  replace hW : Below w.heap.size w w6 := hW.grown hg hW.size (fun q hq => by have := (l2 q hq).1; omega)
  clear hX1 hX2 hX3 l1 l2 l3 hg
  go_wp2_with fail
  refine (left_yes g2 B q d w6 hR2 hB (by omega)).mono ?_
  rintro e w7 ⟨rfl, j1, rfl⟩
  have hb : Below w6.heap.size w6 (w6.drewN j1) := below_drewN (Below.refl _ _) _
  replace hA := hA.step hb
  replace hB := hB.step hb
  replace hR1 := hR1.step hb
  have s7 := hb.size
  replace hW := nextB hW hW.size hb
  clear hR2
  obtain ⟨w7, hw7⟩ : ∃ w7 : World, w7 = w6.drewN j1 := ⟨_, rfl⟩
  rw [← hw7] at hA hB hR1 s7 hW ⊢
  clear hw7 hb
  go_wp2_with fail
  refine (scr_any _ p _ _ w7 rfl hR1.rd (by omega)).mono ?_
  rintro e w8 ⟨Y1, y1, rfl, hY1, hb⟩
  rw [HS.out] at hY1 ⊢
  have m1 := hY1.lt
  replace hA := hA.step hb
  replace hB := hB.step hb
  replace hR1 := hR1.step hb
  have s8 := hb.size
  replace hW := nextB hW hW.size hb
  go_wp2_with fail
  refine (scr_any _ p _ _ w8 rfl hR1.rd (by omega)).mono ?_
  rintro e w9 ⟨Y2, y2, rfl, hY2, hb⟩
  rw [HS.out] at hY2 ⊢
  have m2 := hY2.lt
  replace hA := hA.step hb
  replace hB := hB.step hb
  replace hR1 := hR1.step hb
  replace hY1 := hY1.step hb
  have s9 := hb.size
  replace hW := nextB hW hW.size hb
  go_wp2_with fail
  refine (rscr_all A p _ c w9 rfl hA (by omega)).mono ?_
  rintro e w10 ⟨Y3, y3, rfl, hY3, hb⟩
  rw [HS.out] at hY3 ⊢
  have m3 := hY3.lt
  replace hA := hA.step hb
  replace hB := hB.step hb
  replace hR1 := hR1.step hb
  replace hY1 := hY1.step hb
  replace hY2 := hY2.step hb
  have s10 := hb.size
  replace hW := nextB hW hW.size hb
  go_wp2_with fail
  refine (twice_yes w7.heap.size Y1 Y2 Y3 S _ _ _ w10 hY1 hY2.rd hY3.rd (fun q hq e => by have := m1 q hq; have := m2 q e; omega) (fun q hq e => by have := m1 q hq; have := m3 q e; omega) (by omega) (by omega)).mono ?_
  rintro e w11 ⟨rfl, hg⟩
  have s11 := hg.size
  replace hR1 := hR1.over hg (fun q hq e => by have := m1 q hq; have e : g1 = q := (by simpa using e); omega)
  replace hW : Below w.heap.size w w11 := hW.grown hg hW.size (fun q hq => by have := (m1 q hq).1; omega)
  replace hA := hA0.below hW
  clear hY1 hY2 hY3 m1 m2 m3 hg
  go_wp2_with fail
  refine (bits_any _ p _ _ w11 rfl hR1.rd (by omega)).mono ?_
  rintro e w12 ⟨Z1, z1, rfl, hZ1, hb⟩
  rw [HT.out] at hZ1 ⊢
  have m1 := hZ1.lt
  replace hA := hA.step hb
  replace hR1 := hR1.step hb
  have s12 := hb.size
  replace hW := nextB hW hW.size hb
  go_wp2_with fail
  refine (bits_any _ p _ _ w12 rfl hR1.rd (by omega)).mono ?_
  rintro e w13 ⟨Z2, z2, rfl, hZ2, hb⟩
  rw [HT.out] at hZ2 ⊢
  have m2 := hZ2.lt
  replace hA := hA.step hb
  replace hR1 := hR1.step hb
  replace hZ1 := hZ1.step hb
  have s13 := hb.size
  replace hW := nextB hW hW.size hb
  go_wp2_with fail
  refine (rbits_any A p _ c w13 rfl hA (by omega)).mono ?_
  rintro e w14 ⟨Z3, z3, rfl, hZ3, hb⟩
  rw [HT.out] at hZ3 ⊢
  have m3 := hZ3.lt
  replace hA := hA.step hb
  replace hR1 := hR1.step hb
  replace hZ1 := hZ1.step hb
  replace hZ2 := hZ2.step hb
  have s14 := hb.size
  replace hW := nextB hW hW.size hb
  go_wp2_with fail
  refine (twice_yes w11.heap.size Z1 Z2 Z3 T _ _ _ w14 hZ1 hZ2.rd hZ3.rd (fun q hq e => by have := m1 q hq; have := m2 q e; omega) (fun q hq e => by have := m1 q hq; have := m3 q e; omega) (by omega) (by omega)).mono ?_
  rintro e w15 ⟨rfl, hg⟩
  replace hR1 := hR1.over hg (fun q hq e => by have := m1 q hq; have e : g1 = q := (by simpa using e); omega)
  replace hW : Below w.heap.size w w15 := hW.grown hg hW.size (fun q hq => by have := (m1 q hq).1; omega)
  go_wp2_with fail
  refine (left_yes g1 A p c w15 hR1 (hA0.below hW) (by omega)).mono ?_
  rintro e w16 ⟨rfl, j2, rfl⟩
  go_wp2_with fail
  go_ret
  exact ⟨rfl, below_drewN hW _⟩
end Go.Proofs.Ytclcgfngolfmlaa
