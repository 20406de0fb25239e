import Derived.Test.YtgfkpolklianeaaRoomy
import Derived.Test.YtgfkpolklianeaaLeft
import Derived.Test.YtgfkpolklianeaaTwice
import Derived.Test.YtgfkpolklianeaaStep
import Derived.Test.YtgfkpolklianeaaSameInts
import Derived.Test.YtgfkpolklianeaaVote3
namespace Go.Proofs.Ytgfkpolklianeaa
set_option linter.unusedSimpArgs false
set_option linter.unusedVariables false
open Go.RowKit

theorem VoteRes.open_ {w w' : World} {r : List UInt8 × List Int × Int} {e : Ending} {l : List UInt8} {z : List Int} {k : Int} (hr : r = (l, z, k)) (h : VoteRes w w' r e) :
    ∃ A c B d, e = .returned (.tuple #[.slice A l.length c, .slice B z.length d, .int .i64 k]) ∧ Own w' w.heap.size 5 1 A l.length c (bvs l) ∧ Own w' w.heap.size 3 1 B z.length d (ivs z) ∧
    (∀ q, blk A = some q → blk B ≠ some q) ∧ Below w.heap.size w w' := by
  subst hr
  exact h
theorem voted_len {a b c : List UInt8} {l : List UInt8} {z : List Int} {k : Int} (hr : voted a b c = (l, z, k)) : l.length ≤ a.length ∧ z.length ≤ a.length := by
  unfold voted at hr
  split at hr
  · injection hr with h1 h2
    injection h2 with h2 h3
    subst h1
    subst h2
    simp
  · injection hr with h1 h2
    injection h2 with h2 h3
    subst h1
    subst h2
    exact ⟨by rw [voteTo_length]; exact Nat.le_refl _, oddTo_length _ _ _ _⟩

set_option maxHeartbeats 1600000 in
set_option maxRecDepth 100000 in
theorem memoryVotes_walk (A : Option Addr) (a : List UInt8) (ca : Nat) (B : Option Addr) (b : List UInt8) (cb : Nat) (C : Option Addr) (c : List UInt8) (cc : Nat) (w : World) (hA : Rd w A (bvs a)) (_ : a.length ≤ ca) (na : a.length ≤ 1048576) (hB : Rd w B (bvs b)) (_ : b.length ≤ cb) (nb : b.length ≤ 1048576) (hC : Rd w C (bvs c)) (_ : c.length ≤ cc) (nc : c.length ≤ 1048576) :
    Calls Try.prog 4 #[.slice A a.length ca, .slice B b.length cb, .slice C c.length cc] w fun e w' => e = .returned (.bool true) ∧ Below w.heap.size w w' := by
  obtain ⟨l, z, k, hr⟩ : ∃ l z k, voted a b c = (l, z, k) := ⟨_, _, _, rfl⟩
  have hln := voted_len hr
  have HR := Lib.hid hr
  clear hr
  have hW : Below w.heap.size w w := Below.refl _ _
  have hA0 := hA
  have hB0 := hB
  have hC0 := hC
  go_enter Try.func4, Try.ntmps4
  go_wp2_with fail
  refine (roomy_any A a ca w hA (by omega)).mono ?_
  rintro e w1 ⟨g1, rfl, hg1, hR1, hb⟩
  have r1 := RoomK.lt hR1
  replace hA := hA.step hb
  replace hB := hB.step hb
  replace hC := hC.step hb
  have s1 := hb.size
  replace hW := nextB hW hW.size hb
  go_wp2_with fail
  refine (roomy_any B b cb w1 hB (by omega)).mono ?_
  rintro e w2 ⟨g2, rfl, hg2, hR2, hb⟩
  have r2 := RoomK.lt hR2
  replace hA := hA.step hb
  replace hB := hB.step hb
  replace hC := hC.step hb
  replace hR1 := hR1.step hb
  have s2 := hb.size
  replace hW := nextB hW hW.size hb
  go_wp2_with fail
  refine (roomy_any C c cc w2 hC (by omega)).mono ?_
  rintro e w3 ⟨g3, rfl, hg3, hR3, hb⟩
  have r3 := RoomK.lt hR3
  replace hA := hA.step hb
  replace hB := hB.step hb
  replace hC := hC.step hb
  replace hR1 := hR1.step hb
  replace hR2 := hR2.step hb
  have s3 := hb.size
  replace hW := nextB hW hW.size hb
  go_wp2_with fail
  refine (voteOf_any A B C a b c _ _ _ ca cb cc w3 rfl rfl rfl hA hB hC na).mono ?_
  intro e w4 h4
  obtain ⟨X1, x1, Y1, y1, rfl, hX1, hY1, hn1, hb⟩ := h4.open_ HR.out
  clear h4
  replace hA := hA.step hb
  replace hB := hB.step hb
  replace hC := hC.step hb
  replace hR1 := hR1.step hb
  replace hR2 := hR2.step hb
  replace hR3 := hR3.step hb
  have s4 := hb.size
  replace hW := nextB hW hW.size hb
  have lX1 := hX1.lt
  have lY1 := hY1.lt
  go_wp2_with fail
  refine (vote_any _ _ _ a b c _ _ _ _ _ _ w4 rfl rfl rfl hR1.rd hR2.rd hR3.rd na).mono ?_
  intro e w5 h5
  obtain ⟨X2, x2, Y2, y2, rfl, hX2, hY2, hn2, hb⟩ := h5.open_ HR.out
  clear h5
  replace hA := hA.step hb
  replace hB := hB.step hb
  replace hC := hC.step hb
  replace hR1 := hR1.step hb
  replace hR2 := hR2.step hb
  replace hR3 := hR3.step hb
  replace hX1 := hX1.step hb
  replace hY1 := hY1.step hb
  have s5 := hb.size
  replace hW := nextB hW hW.size hb
  have lX2 := hX2.lt
  have lY2 := hY2.lt
  go_wp2_with fail
  refine (vote_any _ _ _ a b c _ _ _ _ _ _ w5 rfl rfl rfl hR1.rd hR2.rd hR3.rd na).mono ?_
  intro e w6 h6
  obtain ⟨X3, x3, Y3, y3, rfl, hX3, hY3, hn3, hb⟩ := h6.open_ HR.out
  clear h6
  replace hA := hA.step hb
  replace hB := hB.step hb
  replace hC := hC.step hb
  replace hR1 := hR1.step hb
  replace hR2 := hR2.step hb
  replace hR3 := hR3.step hb
  replace hX1 := hX1.step hb
  replace hY1 := hY1.step hb
  replace hX2 := hX2.step hb
  replace hY2 := hY2.step hb
  have s6 := hb.size
  replace hW := nextB hW hW.size hb
  have lX3 := hX3.lt
  have lY3 := hY3.lt
  go_wp2_with fail
  refine (sameInts_yes Y2 Y1 z _ _ _ _ w6 rfl rfl (by omega) hY2.rd hY1.rd).mono ?_
  rintro e w7 ⟨rfl, m, rfl⟩
  go_wp2_with fail
  refine (sameInts_yes Y3 Y1 z _ _ _ _ (w6.drewN m) rfl rfl (by omega) (hY3.rd.drewN m) (hY1.rd.drewN m)).mono ?_
  rintro e w8 ⟨rfl, p, rfl⟩
  have hb : Below w6.heap.size w6 ((w6.drewN m).drewN p) := below_drewN (below_drewN (Below.refl _ _) m) p
  generalize (w6.drewN m).drewN p = w8 at *
  replace hA := hA.step hb
  replace hB := hB.step hb
  replace hC := hC.step hb
  replace hR1 := hR1.step hb
  replace hR2 := hR2.step hb
  replace hR3 := hR3.step hb
  replace hX1 := hX1.step hb
  replace hX2 := hX2.step hb
  replace hX3 := hX3.step hb
  have s7 := hb.size
  replace hW := nextB hW hW.size hb
  go_wp2_with fail
  refine (twice_yes w4.heap.size X2 X3 X1 l _ _ _ w8 hX2 hX3.rd hX1.rd (fun q hq e => by have := lX2 q hq; have := lX3 q e; omega) (fun q hq e => by have := lX2 q hq; have := lX1 q e; omega) (by omega) (by omega)).mono ?_
  rintro e w9 ⟨rfl, hg⟩
  replace hR1 := hR1.over hg (fun q hq e => by have := lX2 q hq; have e : g1 = q := (by simpa using e); omega)
  replace hR2 := hR2.over hg (fun q hq e => by have := lX2 q hq; have e : g2 = q := (by simpa using e); omega)
  replace hR3 := hR3.over hg (fun q hq e => by have := lX2 q hq; have e : g3 = q := (by simpa using e); omega)
  have hWs := hW.size
  have hW9 : Below w.heap.size w w9 := hW.grown hg hW.size (fun q hq => by have := (lX2 q hq).1; omega)
  have hA9 := hA0.below hW9
  have hB9 := hB0.below hW9
  have hC9 := hC0.below hW9
  go_wp2_with fail
  refine (left_yes g1 A a ca w9 hR1 hA9 (by omega)).mono ?_
  rintro e w10 ⟨rfl, m1, rfl⟩
  go_wp2_with fail
  refine (left_yes g2 B b cb (w9.drewN m1) (hR2.step (below_drewN (Below.refl _ _) _)) (hB9.drewN _) (by omega)).mono ?_
  rintro e w10 ⟨rfl, m2, rfl⟩
  go_wp2_with fail
  refine (left_yes g3 C c cc (w9.drewN (m1 + m2)) (hR3.step (below_drewN (Below.refl _ _) _)) (hC9.drewN _) (by omega)).mono ?_
  rintro e w10 ⟨rfl, m3, rfl⟩
  go_wp2_with fail
  go_ret
  exact ⟨rfl, below_drewN hW9 _⟩
end Go.Proofs.Ytgfkpolklianeaa
