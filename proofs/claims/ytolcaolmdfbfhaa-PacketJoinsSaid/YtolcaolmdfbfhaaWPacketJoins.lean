import Derived.Test.YtolcaolmdfbfhaaRoomy
import Derived.Test.YtolcaolmdfbfhaaLeft
import Derived.Test.YtolcaolmdfbfhaaTwice
import Derived.Test.YtolcaolmdfbfhaaStep
import Derived.Test.YtolcaolmdfbfhaaJoinA
import Derived.Test.YtolcaolmdfbfhaaJoinEA
import Derived.Test.YtolcaolmdfbfhaaSameJoined
import Derived.RegionTactic
import Derived.Deep.RegionHeld3
namespace Go.Proofs.Ytolcaolmdfbfhaa
set_option linter.unusedSimpArgs false
set_option linter.unusedVariables false
open Go.RowKit

theorem joins_len (j : Jn) (p : Pkt) : (joins j p).1.unit.length ≤ 1048576 ∧ (joins j p).2.1.length ≤ 1048576 := by
  unfold joins
  split
  · split
    · rename_i h
      have hd : p.data.length ≤ 65536 := by
        unfold pktMay at h
        split at h
        · split at h
          · rename_i h2; exact h2.2
          · omega
        · omega
      split
      · exact joinStep_len _ _ _ _ hd
      · simp [Jn.zero]
    · simp [Jn.zero]
  · simp [Jn.zero]
theorem JRes.open_ {w w' : World} {r : Jn × List UInt8 × Bool × Int} {e : Ending} {a1 a2 : Int} {a3 : Bool} {U V : List UInt8} {lo : Bool} {k : Int} (hr : r = (⟨a1, a2, a3, U⟩, V, lo, k)) (h : JRes w w' r e) :
    ∃ A c B d, e = .returned (.tuple #[.agg #[.int .i64 a1, .int .i64 a2, .bool a3, .slice A U.length c], .slice B V.length d, .bool lo, .int .i64 k]) ∧ Own w' w.heap.size 5 1 A U.length c (bvs U) ∧ Own w' w.heap.size 5 1 B V.length d (bvs V) ∧ (∀ q, blk A = some q → blk B ≠ some q) ∧ Below w.heap.size w w' := by
  subst hr
  exact h
theorem sameJ {a1 a2 : Int} {a3 : Bool} {U : List UInt8} {A B : Option Addr} {c d : Nat} (w : World) (ha : Rd w A (bvs U)) (hb : Rd w B (bvs U)) :
    Calls Try.prog 44 #[.agg #[.int .i64 a1, .int .i64 a2, .bool a3, .slice A U.length c], .agg #[.int .i64 a1, .int .i64 a2, .bool a3, .slice B U.length d]] w fun e w' => e = .returned (.bool true) ∧ Below w.heap.size w w' :=
  sameJoined_yes ⟨a1, a2, a3, U⟩ A B c d w ha hb

theorem sameJ0 (a1 a2 : Int) (w : World) :
    Calls Try.prog 44 #[.agg #[.int .i64 a1, .int .i64 a2, .bool false, .slice none 0 0], .agg #[.int .i64 a1, .int .i64 a2, .bool false, .slice none 0 0]] w fun e w' => e = .returned (.bool true) ∧ Below w.heap.size w w' :=
  sameJoined_yes ⟨a1, a2, false, []⟩ none none 0 0 w (Rd.nil _ _) (Rd.nil _ _)
theorem boxes2d (W : World) (a b : Array Value) (s t : TypeId) : Blk ((W.alloc (.cells a s)).alloc (.cells b t)).drew W.heap.size s a ∧ Blk ((W.alloc (.cells a s)).alloc (.cells b t)).drew (W.heap.size + 1) t b ∧ Below W.heap.size W ((W.alloc (.cells a s)).alloc (.cells b t)).drew := by
  refine ⟨((Blk.new _ _ _).alloc _).drew, ?_, ((((Below.refl _ _).alloc (Nat.le_refl _) _).alloc (by simp) _).drew)⟩
  have := (Blk.new (W.alloc (.cells a s)) t b).drew
  simpa using this

set_option maxHeartbeats 6400000 in
set_option maxRecDepth 100000 in
theorem packetJoins_walk (j : Jn) (A : Option Addr) (c : Nat) (p : Pkt) (B : Option Addr) (d : Nat) (w : World) (ha : Rd w A (bvs j.unit)) (hc : j.unit.length ≤ c) (hn : j.unit.length ≤ 140737488351232) (hb : Rd w B (bvs p.data)) (hd : p.data.length ≤ d) (hm : p.data.length ≤ 140737488351232) :
    Calls Try.prog 10 #[jnv j A c, pv p B d] w fun e w' => e = .returned (.bool true) ∧ Below w.heap.size w w' := by
  obtain ⟨a1, a2, a3, U, V, lo, k, hr⟩ : ∃ a1 a2 a3 U V lo k, joins j p = (⟨a1, a2, a3, U⟩, V, lo, k) := ⟨_, _, _, _, _, _, _, rfl⟩
  obtain ⟨hU, hV⟩ : U.length ≤ 1048576 ∧ V.length ≤ 1048576 := by have := joins_len j p; rw [hr] at this; exact this
  have HR := Lib.hid hr
  clear hr
  obtain ⟨ap, nx, op, l⟩ := j
  obtain ⟨u, s, pa, pp, pc, D⟩ := p
  simp only at ha hc hn hb hd hm
  have CR := Lib.hid (fun w A c B d ha hb => rjoins_any ⟨ap, nx, op, l⟩ A l.length c ⟨u, s, pa, pp, pc, D⟩ B D.length d w rfl rfl ha hb)
  have CP := Lib.hid (fun w A c B d ha hb => pjoins_any ⟨ap, nx, op, l⟩ A l.length c ⟨u, s, pa, pp, pc, D⟩ B D.length d w rfl rfl ha hb)
  have ha0 := ha
  have hb0 := hb
  unfold jnv pv
  go_enter Try.func10, Try.ntmps10
  go_wp2_with fail
  obtain ⟨W1, hW1⟩ : ∃ W : World, W = (w.alloc (.cells #[.int .i64 ap, .int .i64 nx, .bool op, .slice A l.length c] 70)).alloc (.cells #[.bool u, .bool s, .int .i64 pa, .int .i64 pp, .int .i64 pc, .slice B D.length d] 34) := ⟨_, rfl⟩
  rw [← hW1]
  have hB : Below w.heap.size w W1 := by rw [hW1]; exact ((Below.refl _ _).alloc (Nat.le_refl _) _).alloc (by simp) _
  have hJ : Blk W1 w.heap.size 70 #[.int .i64 ap, .int .i64 nx, .bool op, .slice A l.length c] := by rw [hW1]; exact (Blk.new _ _ _).alloc _
  have hP : Blk W1 (w.heap.size + 1) 34 #[.bool u, .bool s, .int .i64 pa, .int .i64 pp, .int .i64 pc, .slice B D.length d] := by
    rw [hW1]
    have := Blk.new (w.alloc (.cells #[.int .i64 ap, .int .i64 nx, .bool op, .slice A l.length c] 70)) 34 #[.bool u, .bool s, .int .i64 pa, .int .i64 pp, .int .i64 pc, .slice B D.length d]
    simpa using this
  have hz : w.heap.size + 2 ≤ W1.heap.size := by rw [hW1]; simp
  replace ha := ha.below hB
  replace hb := hb.below hB
  clear hW1
  refine (CR.out _ _ _ _ _ ha hb).mono ?_
  intro e w2 h2
  obtain ⟨A2, c2, B2, d2, rfl, hO2, hV2, _, hb2⟩ := h2.open_ HR.out
  clear h2
  have m2 := hO2.lt
  have n2 := hV2.lt
  replace hJ := hJ.step hb2
  replace hP := hP.step hb2
  replace ha := ha.step hb2
  replace hb := hb.step hb2
  have t2 := hb2.size
  replace hB := nextB hB hB.size hb2
  clear hb2
  go_upto_region 2 with fail
  obtain ⟨W2, hW2⟩ : ∃ W : World, W = w2.alloc (.cells #[.int .i64 a1, .int .i64 a2, .bool a3, .slice A2 U.length c2] 70) := ⟨_, rfl⟩
  have hb2 : Below w2.heap.size w2 W2 := by rw [hW2]; exact (Below.refl _ _).alloc (Nat.le_refl _) _
  have hW : Blk W2 w2.heap.size 70 #[.int .i64 a1, .int .i64 a2, .bool a3, .slice A2 U.length c2] := by rw [hW2]; exact Blk.new _ _ _
  replace hJ := hJ.step hb2
  replace hP := hP.step hb2
  replace ha := ha.step hb2
  replace hb := hb.step hb2
  replace hO2 := hO2.step hb2
  replace hV2 := hV2.step hb2
  have t3 : w2.heap.size + 1 ≤ W2.heap.size := by rw [hW2]; simp
  replace hB := nextB hB hB.size hb2
  rw [← hW2]
  clear hW2 hb2
  generalize w2.heap.size = gW at *
  obtain ⟨x0, x1, x2, x3, xf⟩ := hJ.four
  obtain ⟨y0, y1, y2, y3, y4, y5, yf⟩ := hP.six
  go_cut [9, 10] (fun s9 s10 wx => ∃ (g1 g2 : Nat) (W : World), W = wx ∧ s9 = .pointer (some ⟨g1, 0, none⟩) ∧ s10 = .pointer (some ⟨g2, 0, none⟩) ∧ g1 ≠ g2 ∧ W2.heap.size ≤ g1 ∧ W2.heap.size ≤ g2 ∧ Blk W g1 70 #[.int .i64 ap, .int .i64 nx, .bool op, .slice A l.length c] ∧ Blk W g2 34 #[.bool u, .bool s, .int .i64 pa, .int .i64 pp, .int .i64 pc, .slice B D.length d] ∧ Below W2.heap.size W2 W)
  · have e1 : ¬ w.heap.size = W2.heap.size := by omega
    have e2 : ¬ w.heap.size + 1 = W2.heap.size := by omega
    have e3 : ¬ w.heap.size = W2.heap.size + 1 := by omega
    have e4 : ¬ w.heap.size + 1 = W2.heap.size + 1 := by omega
    have q1 := hJ.lt
    have q2 := hP.lt
    go_region_held3 (fun w' => w'.cell? ⟨w.heap.size, 0, none⟩ = some (.int .i64 ap) ∧ w'.cell? ⟨w.heap.size, 1, none⟩ = some (.int .i64 nx) ∧ w'.cell? ⟨w.heap.size, 2, none⟩ = some (.bool op) ∧ w'.cell? ⟨w.heap.size, 3, none⟩ = some (.slice A l.length c) ∧ w'.cell? ⟨w.heap.size + 1, 0, none⟩ = some (.bool u) ∧ w'.cell? ⟨w.heap.size + 1, 1, none⟩ = some (.bool s) ∧ w'.cell? ⟨w.heap.size + 1, 2, none⟩ = some (.int .i64 pa) ∧ w'.cell? ⟨w.heap.size + 1, 3, none⟩ = some (.int .i64 pp) ∧ w'.cell? ⟨w.heap.size + 1, 4, none⟩ = some (.int .i64 pc) ∧ w'.cell? ⟨w.heap.size + 1, 5, none⟩ = some (.slice B D.length d)) (go_keep) (fail)
    all_goals go_wp2_with fail
    all_goals go_meet
    all_goals first
      | exact ⟨_, _, _, rfl, rfl, rfl, by omega, Nat.le_refl _, by omega, (boxes2d _ _ _ _ _).1, (boxes2d _ _ _ _ _).2.1, (boxes2d _ _ _ _ _).2.2⟩
      | exact ⟨_, _, _, rfl, rfl, rfl, by omega, by omega, Nat.le_refl _, (boxes2d _ _ _ _ _).2.1, (boxes2d _ _ _ _ _).1, (boxes2d _ _ _ _ _).2.2⟩
  obtain ⟨g1, g2, W3, rfl, rfl, rfl, hne, hg1, hg2, hH, hK, hb3⟩ := hcut
  clear x0 x1 x2 x3 xf y0 y1 y2 y3 y4 y5 yf
  replace hJ := hJ.step hb3
  replace hP := hP.step hb3
  replace ha := ha.step hb3
  replace hb := hb.step hb3
  replace hO2 := hO2.step hb3
  replace hV2 := hV2.step hb3
  replace hW := hW.step hb3
  have t4 := hb3.size
  replace hB := nextB hB hB.size hb3
  clear hb3
  have l1 := hH.lt
  have l2 := hK.lt
  obtain ⟨x0, x1, x2, x3, xf⟩ := hJ.four
  obtain ⟨y0, y1, y2, y3, y4, y5, yf⟩ := hP.six
  go_upto_region 3 with fail
  go_cut [33, 36] (fun s33 s36 wx => ∃ (r1 r2 : Nat) (X Y W : World), W = wx ∧ W3.heap.size ≤ r1 ∧ W3.heap.size ≤ r2 ∧ r1 ≠ r2 ∧ r1 < X.heap.size ∧ r2 < X.heap.size ∧ Room X r1 l ∧ Room X r2 D ∧ Below W3.heap.size W3 X ∧ X.grownBy Y (some g1) ∧ Y.grownBy W (some g2) ∧ Blk W g1 70 #[.int .i64 ap, .int .i64 nx, .bool op, .slice (some ⟨r1, 0, none⟩) l.length (l.length + 5)] ∧ Blk W g2 34 #[.bool u, .bool s, .int .i64 pa, .int .i64 pp, .int .i64 pc, .slice (some ⟨r2, 0, none⟩) D.length (D.length + 5)])
  · have e1 : ¬ g1 = w.heap.size := by omega
    have e2 : ¬ g1 = w.heap.size + 1 := by omega
    have e3 : ¬ g2 = w.heap.size := by omega
    have e4 : ¬ g2 = w.heap.size + 1 := by omega
    have hB3 := Below.refl W3.heap.size W3
    obtain ⟨z0, z1, z2, z3, zf⟩ := hH.four
    obtain ⟨v0, v1, v2, v3, v4, v5, vf⟩ := hK.six
    go_region_held3 (fun w' => w'.cell? ⟨w.heap.size, 3, none⟩ = some (.slice A l.length c) ∧ w'.cell? ⟨w.heap.size + 1, 5, none⟩ = some (.slice B D.length d)) (go_keep) (first
      | (go_at_call 14; (with_reducible refine (roomy_any A l c _ (by first | exact ha | exact ha.drew) hn).mono ?_); rintro e wa ⟨r1, rfl, hr1, hR1, hbA⟩; have q1 := RoomK.lt hR1; have hH := (by first | exact hH.step hbA | exact hH.drew.step hbA); have hK := (by first | exact hK.step hbA | exact hK.drew.step hbA); have hJ := (by first | exact hJ.step hbA | exact hJ.drew.step hbA); have hP := (by first | exact hP.step hbA | exact hP.drew.step hbA); have ha := (by first | exact ha.step hbA | exact ha.drew.step hbA); have hb := (by first | exact hb.step hbA | exact hb.drew.step hbA); have hB3 := (by first | exact nextB hB3 hB3.size hbA | exact nextB hB3.drew hB3.size hbA); have s3 := hB3.size; obtain ⟨z0, z1, z2, z3, zf⟩ := hH.four; obtain ⟨v0, v1, v2, v3, v4, v5, vf⟩ := hK.six; obtain ⟨x0, x1, x2, x3, xf⟩ := hJ.four; obtain ⟨y0, y1, y2, y3, y4, y5, yf⟩ := hP.six; have hbA1 := hbA; try (have hR2 := hR2.step hbA))
      | (go_at_call 14; (with_reducible refine (roomy_any B D d _ (by first | exact hb | exact hb.drew) hm).mono ?_); rintro e wa ⟨r2, rfl, hr2, hR2, hbA⟩; have q2 := RoomK.lt hR2; have hH := (by first | exact hH.step hbA | exact hH.drew.step hbA); have hK := (by first | exact hK.step hbA | exact hK.drew.step hbA); have hJ := (by first | exact hJ.step hbA | exact hJ.drew.step hbA); have hP := (by first | exact hP.step hbA | exact hP.drew.step hbA); have ha := (by first | exact ha.step hbA | exact ha.drew.step hbA); have hb := (by first | exact hb.step hbA | exact hb.drew.step hbA); have hB3 := (by first | exact nextB hB3 hB3.size hbA | exact nextB hB3.drew hB3.size hbA); have s3 := hB3.size; obtain ⟨z0, z1, z2, z3, zf⟩ := hH.four; obtain ⟨v0, v1, v2, v3, v4, v5, vf⟩ := hK.six; obtain ⟨x0, x1, x2, x3, xf⟩ := hJ.four; obtain ⟨y0, y1, y2, y3, y4, y5, yf⟩ := hP.six; have hbA2 := hbA; try (have hR1 := hR1.step hbA))
      )
    all_goals go_wp2_with fail
    all_goals go_meet
    all_goals exact ⟨r1, r2, _, _, _, rfl, by first | omega | exact hr1, by first | omega | (have h : W3.heap.size ≤ r1 := hr1; omega), by have := RoomK.lt hR1; have := RoomK.lt hR2; omega, RoomK.lt hR1, RoomK.lt hR2, hR1, hR2, hB3, grown_set (World.grownBy.refl _ _) _, grown_set (World.grownBy.refl _ _) _, (hH.set_ 3 _).far hne _, (hK.far (fun e => hne e.symm) _).set_ 5 _⟩
  obtain ⟨r1, r2, X, Y, W4, rfl, hr1, hr2, hrr, lr1, lr2, hR1, hR2, hbX, hgY, hgW, hH4, hK4⟩ := hcut
  clear x0 x1 x2 x3 xf y0 y1 y2 y3 y4 y5 yf hH hK ha hb
  replace hJ := hJ.step hbX
  replace hP := hP.step hbX
  replace hO2 := hO2.step hbX
  replace hV2 := hV2.step hbX
  replace hW := hW.step hbX
  replace hB := nextB hB hB.size hbX
  have zX := hbX.size
  have zY := hgY.size
  have zW := hgW.size
  replace hB := (hB.grown hgY hB.size (fun q hq => by injection hq with hq; omega)).grown hgW (Nat.le_trans hB.size zY) (fun q hq => by injection hq with hq; omega)
  replace hJ := (hJ.over hgY (fun q hq e => by injection hq with hq; injection e with e; omega)).over hgW (fun q hq e => by injection hq with hq; injection e with e; omega)
  replace hP := (hP.over hgY (fun q hq e => by injection hq with hq; injection e with e; omega)).over hgW (fun q hq e => by injection hq with hq; injection e with e; omega)
  replace hW := (hW.over hgY (fun q hq e => by injection hq with hq; injection e with e; omega)).over hgW (fun q hq e => by injection hq with hq; injection e with e; omega)
  replace hR1 := (hR1.over hgY (fun q hq e => by injection hq with hq; injection e with e; omega)).over hgW (fun q hq e => by injection hq with hq; injection e with e; omega)
  replace hR2 := (hR2.over hgY (fun q hq e => by injection hq with hq; injection e with e; omega)).over hgW (fun q hq e => by injection hq with hq; injection e with e; omega)
  replace hO2 := (hO2.over hgY (fun q hq e => by injection hq with hq; have := m2 _ e; omega)).over hgW (fun q hq e => by injection hq with hq; have := m2 _ e; omega)
  replace hV2 := (hV2.over hgY (fun q hq e => by injection hq with hq; have := n2 _ e; omega)).over hgW (fun q hq e => by injection hq with hq; have := n2 _ e; omega)
  have t5 : X.heap.size ≤ W4.heap.size := by omega
  clear hbX hgY hgW zX zY zW
  obtain ⟨x0, x1, x2, x3, xf⟩ := hH4.four
  obtain ⟨y0, y1, y2, y3, y4, y5, yf⟩ := hK4.six
  go_wp2_with fail
  refine (CP.out _ _ _ _ _ hR1.rd hR2.rd).mono ?_
  intro e w5 h2
  obtain ⟨A5, c5, B5, d5, rfl, hO5, hV5, dis5, hb2⟩ := h2.open_ HR.out
  clear h2 x0 x1 x2 x3 xf y0 y1 y2 y3 y4 y5 yf
  have m5 := hO5.lt
  have n5 := hV5.lt
  replace hJ := hJ.step hb2
  replace hP := hP.step hb2
  replace hO2 := hO2.step hb2
  replace hV2 := hV2.step hb2
  replace hW := hW.step hb2
  replace hH4 := hH4.step hb2
  replace hK4 := hK4.step hb2
  replace hR1 := hR1.step hb2
  replace hR2 := hR2.step hb2
  
  have s5 := hb2.size
  replace hB := nextB hB hB.size hb2
  clear hb2
  go_upto_region 5 with fail
  obtain ⟨Z5, hZ5⟩ : ∃ W : World, W = w5.alloc (.cells #[.int .i64 a1, .int .i64 a2, .bool a3, .slice A5 U.length c5] 70) := ⟨_, rfl⟩
  have hb2 : Below w5.heap.size w5 Z5 := by rw [hZ5]; exact (Below.refl _ _).alloc (Nat.le_refl _) _
  have hQ5 : Blk Z5 w5.heap.size 70 #[.int .i64 a1, .int .i64 a2, .bool a3, .slice A5 U.length c5] := by rw [hZ5]; exact Blk.new _ _ _
  have z5 : w5.heap.size + 1 ≤ Z5.heap.size := by rw [hZ5]; simp
  rw [← hZ5]
  replace hO5 := hO5.step hb2
  replace hV5 := hV5.step hb2
  replace hJ := hJ.step hb2
  replace hP := hP.step hb2
  replace hO2 := hO2.step hb2
  replace hV2 := hV2.step hb2
  replace hW := hW.step hb2
  replace hH4 := hH4.step hb2
  replace hK4 := hK4.step hb2
  replace hR1 := hR1.step hb2
  replace hR2 := hR2.step hb2
  
  replace hB := nextB hB hB.size hb2
  clear hb2 hZ5
  obtain ⟨x0, x1, x2, x3, xf⟩ := hH4.four
  obtain ⟨y0, y1, y2, y3, y4, y5, yf⟩ := hK4.six
  go_wp2_with fail
  refine (CP.out _ _ _ _ _ hR1.rd hR2.rd).mono ?_
  intro e w6 h2
  obtain ⟨A6, c6, B6, d6, rfl, hO6, hV6, dis6, hb2⟩ := h2.open_ HR.out
  clear h2 x0 x1 x2 x3 xf y0 y1 y2 y3 y4 y5 yf
  have m6 := hO6.lt
  have n6 := hV6.lt
  replace hJ := hJ.step hb2
  replace hP := hP.step hb2
  replace hO2 := hO2.step hb2
  replace hV2 := hV2.step hb2
  replace hW := hW.step hb2
  replace hH4 := hH4.step hb2
  replace hK4 := hK4.step hb2
  replace hR1 := hR1.step hb2
  replace hR2 := hR2.step hb2
  replace hO5 := hO5.step hb2
  replace hV5 := hV5.step hb2
  replace hQ5 := hQ5.step hb2
  have s6 := hb2.size
  replace hB := nextB hB hB.size hb2
  clear hb2
  go_upto_region 6 with fail
  obtain ⟨Z6, hZ6⟩ : ∃ W : World, W = w6.alloc (.cells #[.int .i64 a1, .int .i64 a2, .bool a3, .slice A6 U.length c6] 70) := ⟨_, rfl⟩
  have hb2 : Below w6.heap.size w6 Z6 := by rw [hZ6]; exact (Below.refl _ _).alloc (Nat.le_refl _) _
  have hQ6 : Blk Z6 w6.heap.size 70 #[.int .i64 a1, .int .i64 a2, .bool a3, .slice A6 U.length c6] := by rw [hZ6]; exact Blk.new _ _ _
  have z6 : w6.heap.size + 1 ≤ Z6.heap.size := by rw [hZ6]; simp
  rw [← hZ6]
  replace hO6 := hO6.step hb2
  replace hV6 := hV6.step hb2
  replace hJ := hJ.step hb2
  replace hP := hP.step hb2
  replace hO2 := hO2.step hb2
  replace hV2 := hV2.step hb2
  replace hW := hW.step hb2
  replace hH4 := hH4.step hb2
  replace hK4 := hK4.step hb2
  replace hR1 := hR1.step hb2
  replace hR2 := hR2.step hb2
  replace hO5 := hO5.step hb2
  replace hV5 := hV5.step hb2
  replace hQ5 := hQ5.step hb2
  replace hB := nextB hB hB.size hb2
  clear hb2 hZ6
  have gz := hQ6.lt
  obtain ⟨x0, x1, x2, x3, xf⟩ := hQ5.four
  obtain ⟨y0, y1, y2, y3, yf⟩ := hW.four
  go_wp2_with fail
  refine (sameJ _ hO5.rd hO2.rd).mono ?_
  rintro e w7 ⟨rfl, hb2⟩
  clear x0 x1 x2 x3 xf y0 y1 y2 y3 yf
  replace hJ := hJ.step hb2
  replace hP := hP.step hb2
  replace hO2 := hO2.step hb2
  replace hV2 := hV2.step hb2
  replace hW := hW.step hb2
  replace hH4 := hH4.step hb2
  replace hK4 := hK4.step hb2
  replace hR1 := hR1.step hb2
  replace hR2 := hR2.step hb2
  replace hO5 := hO5.step hb2
  replace hV5 := hV5.step hb2
  replace hQ5 := hQ5.step hb2
  replace hO6 := hO6.step hb2
  replace hV6 := hV6.step hb2
  replace hQ6 := hQ6.step hb2
  replace hB := nextB hB hB.size hb2
  have zz := hb2.size
  clear hb2
  have zzw7 := zz
  clear zz
  obtain ⟨x0, x1, x2, x3, xf⟩ := hQ6.four
  obtain ⟨y0, y1, y2, y3, yf⟩ := hW.four
  go_wp2_with fail
  refine (sameJ _ hO6.rd hO2.rd).mono ?_
  rintro e w8 ⟨rfl, hb2⟩
  clear x0 x1 x2 x3 xf y0 y1 y2 y3 yf
  replace hJ := hJ.step hb2
  replace hP := hP.step hb2
  replace hO2 := hO2.step hb2
  replace hV2 := hV2.step hb2
  replace hW := hW.step hb2
  replace hH4 := hH4.step hb2
  replace hK4 := hK4.step hb2
  replace hR1 := hR1.step hb2
  replace hR2 := hR2.step hb2
  replace hO5 := hO5.step hb2
  replace hV5 := hV5.step hb2
  replace hQ5 := hQ5.step hb2
  replace hO6 := hO6.step hb2
  replace hV6 := hV6.step hb2
  replace hQ6 := hQ6.step hb2
  replace hB := nextB hB hB.size hb2
  have zz := hb2.size
  clear hb2
  have zzw8 := zz
  clear zz
  go_wp2_with fail
  refine (sameBytes_yes B5 B2 V d5 d2 _ hV5.rd hV2.rd).mono ?_
  rintro e _ ⟨rfl, rfl⟩
  go_wp2_with fail
  refine (sameBytes_yes B6 B2 V d6 d2 _ hV6.rd hV2.rd).mono ?_
  rintro e _ ⟨rfl, rfl⟩
  obtain ⟨x0, x1, x2, x3, xf⟩ := hH4.four
  obtain ⟨y0, y1, y2, y3, yf⟩ := hJ.four
  go_wp2_with fail
  refine (left_yes r1 A l c _ hR1 (ha0.below hB) hn).mono ?_
  rintro e w9 ⟨rfl, m', rfl⟩
  clear x0 x1 x2 x3 xf y0 y1 y2 y3 yf
  have hb2 : Below w8.heap.size w8 (w8.drewN m') := below_drewN (Below.refl _ _) m'
  replace hJ := hJ.step hb2
  replace hP := hP.step hb2
  replace hO2 := hO2.step hb2
  replace hV2 := hV2.step hb2
  replace hW := hW.step hb2
  replace hH4 := hH4.step hb2
  replace hK4 := hK4.step hb2
  replace hR1 := hR1.step hb2
  replace hR2 := hR2.step hb2
  replace hO5 := hO5.step hb2
  replace hV5 := hV5.step hb2
  replace hQ5 := hQ5.step hb2
  replace hO6 := hO6.step hb2
  replace hV6 := hV6.step hb2
  replace hQ6 := hQ6.step hb2
  replace hB := nextB hB hB.size hb2
  have zz := hb2.size
  clear hb2
  generalize w8.drewN m' = w9 at *
  have zzw9 := zz
  clear zz
  obtain ⟨x0, x1, x2, x3, x4, x5, xf⟩ := hK4.six
  obtain ⟨y0, y1, y2, y3, y4, y5, yf⟩ := hP.six
  go_wp2_with fail
  refine (left_yes r2 B D d _ hR2 (hb0.below hB) hm).mono ?_
  rintro e w10 ⟨rfl, m', rfl⟩
  clear x0 x1 x2 x3 x4 x5 xf y0 y1 y2 y3 y4 y5 yf
  have hb2 : Below w9.heap.size w9 (w9.drewN m') := below_drewN (Below.refl _ _) m'
  replace hJ := hJ.step hb2
  replace hP := hP.step hb2
  replace hO2 := hO2.step hb2
  replace hV2 := hV2.step hb2
  replace hW := hW.step hb2
  replace hH4 := hH4.step hb2
  replace hK4 := hK4.step hb2
  replace hR1 := hR1.step hb2
  replace hR2 := hR2.step hb2
  replace hO5 := hO5.step hb2
  replace hV5 := hV5.step hb2
  replace hQ5 := hQ5.step hb2
  replace hO6 := hO6.step hb2
  replace hV6 := hV6.step hb2
  replace hQ6 := hQ6.step hb2
  replace hB := nextB hB hB.size hb2
  have zz := hb2.size
  clear hb2
  generalize w9.drewN m' = w10 at *
  have zzw10 := zz
  clear zz
  obtain ⟨x0, x1, x2, x3, xf⟩ := hQ5.four
  go_wp2_with fail
  refine (spoil_any W4.heap.size A5 _ c5 U _ hO5 (by omega) (by omega)).mono ?_
  rintro e w11 ⟨rfl, hg9⟩
  clear x0 x1 x2 x3 xf
  replace hP := hP.over hg9 (fun q hq e => by have := m5 q hq; injection e with e; omega)
  replace hW := hW.over hg9 (fun q hq e => by have := m5 q hq; injection e with e; omega)
  replace hH4 := hH4.over hg9 (fun q hq e => by have := m5 q hq; injection e with e; omega)
  replace hK4 := hK4.over hg9 (fun q hq e => by have := m5 q hq; injection e with e; omega)
  replace hQ6 := hQ6.over hg9 (fun q hq e => by have := m5 q hq; injection e with e; omega)
  replace hR1 := hR1.over hg9 (fun q hq e => by have := m5 q hq; injection e with e; omega)
  replace hR2 := hR2.over hg9 (fun q hq e => by have := m5 q hq; injection e with e; omega)
  replace hO2 := hO2.over hg9 (fun q hq e => by have := m5 q hq; have := m2 _ e; omega)
  replace hV2 := hV2.over hg9 (fun q hq e => by have := m5 q hq; have := n2 _ e; omega)
  replace hO6 := hO6.over hg9 (fun q hq e => by have := m5 q hq; have := m6 _ e; omega)
  replace hV6 := hV6.over hg9 (fun q hq e => by have := m5 q hq; have := n6 _ e; omega)
  replace hV5 := hV5.over hg9 dis5
  replace hB := hB.grown hg9 hB.size (fun q hq => by have := m5 q hq; omega)
  have zzw11 := hg9.size
  clear hg9
  go_wp2_with fail
  refine (spoil_any W4.heap.size B5 _ d5 V _ hV5 (by omega) (by omega)).mono ?_
  rintro e w12 ⟨rfl, hg9⟩
  replace hP := hP.over hg9 (fun q hq e => by have := n5 q hq; injection e with e; omega)
  replace hW := hW.over hg9 (fun q hq e => by have := n5 q hq; injection e with e; omega)
  replace hH4 := hH4.over hg9 (fun q hq e => by have := n5 q hq; injection e with e; omega)
  replace hK4 := hK4.over hg9 (fun q hq e => by have := n5 q hq; injection e with e; omega)
  replace hQ6 := hQ6.over hg9 (fun q hq e => by have := n5 q hq; injection e with e; omega)
  replace hR1 := hR1.over hg9 (fun q hq e => by have := n5 q hq; injection e with e; omega)
  replace hR2 := hR2.over hg9 (fun q hq e => by have := n5 q hq; injection e with e; omega)
  replace hO2 := hO2.over hg9 (fun q hq e => by have := n5 q hq; have := m2 _ e; omega)
  replace hV2 := hV2.over hg9 (fun q hq e => by have := n5 q hq; have := n2 _ e; omega)
  replace hO6 := hO6.over hg9 (fun q hq e => by have := n5 q hq; have := m6 _ e; omega)
  replace hV6 := hV6.over hg9 (fun q hq e => by have := n5 q hq; have := n6 _ e; omega)
  replace hB := hB.grown hg9 hB.size (fun q hq => by have := n5 q hq; omega)
  have zzw12 := hg9.size
  clear hg9
  obtain ⟨x0, x1, x2, x3, xf⟩ := hH4.four
  go_wp2_with fail
  refine (spoil_any r1 (some ⟨r1, 0, none⟩) _ _ l _ (hR1.own (by unfold maxLen; omega) (Nat.le_refl _)) (by omega) (by omega)).mono ?_
  rintro e w13 ⟨rfl, hg9⟩
  clear x0 x1 x2 x3 xf
  replace hP := hP.over hg9 (fun q hq e => by have : q = r1 := blk_lit hq; injection e with e; omega)
  replace hW := hW.over hg9 (fun q hq e => by have : q = r1 := blk_lit hq; injection e with e; omega)
  replace hK4 := hK4.over hg9 (fun q hq e => by have : q = r1 := blk_lit hq; injection e with e; omega)
  replace hQ6 := hQ6.over hg9 (fun q hq e => by have : q = r1 := blk_lit hq; injection e with e; omega)
  replace hR2 := hR2.over hg9 (fun q hq e => by have : q = r1 := blk_lit hq; injection e with e; omega)
  replace hO2 := hO2.over hg9 (fun q hq e => by have : q = r1 := blk_lit hq; have := m2 _ e; omega)
  replace hV2 := hV2.over hg9 (fun q hq e => by have : q = r1 := blk_lit hq; have := n2 _ e; omega)
  replace hO6 := hO6.over hg9 (fun q hq e => by have : q = r1 := blk_lit hq; have := m6 _ e; omega)
  replace hV6 := hV6.over hg9 (fun q hq e => by have : q = r1 := blk_lit hq; have := n6 _ e; omega)
  replace hB := hB.grown hg9 hB.size (fun q hq => by have : q = r1 := blk_lit hq; omega)
  have zzw13 := hg9.size
  clear hg9
  obtain ⟨x0, x1, x2, x3, x4, x5, xf⟩ := hK4.six
  go_wp2_with fail
  refine (spoil_any r2 (some ⟨r2, 0, none⟩) _ _ D _ (hR2.own (by unfold maxLen; omega) (Nat.le_refl _)) (by omega) (by omega)).mono ?_
  rintro e w14 ⟨rfl, hg9⟩
  clear x0 x1 x2 x3 x4 x5 xf
  replace hP := hP.over hg9 (fun q hq e => by have : q = r2 := blk_lit hq; injection e with e; omega)
  replace hW := hW.over hg9 (fun q hq e => by have : q = r2 := blk_lit hq; injection e with e; omega)
  replace hQ6 := hQ6.over hg9 (fun q hq e => by have : q = r2 := blk_lit hq; injection e with e; omega)
  replace hO2 := hO2.over hg9 (fun q hq e => by have : q = r2 := blk_lit hq; have := m2 _ e; omega)
  replace hV2 := hV2.over hg9 (fun q hq e => by have : q = r2 := blk_lit hq; have := n2 _ e; omega)
  replace hO6 := hO6.over hg9 (fun q hq e => by have : q = r2 := blk_lit hq; have := m6 _ e; omega)
  replace hV6 := hV6.over hg9 (fun q hq e => by have : q = r2 := blk_lit hq; have := n6 _ e; omega)
  replace hB := hB.grown hg9 hB.size (fun q hq => by have : q = r2 := blk_lit hq; omega)
  have zzw14 := hg9.size
  clear hg9
  obtain ⟨x0, x1, x2, x3, xf⟩ := hQ6.four
  obtain ⟨y0, y1, y2, y3, yf⟩ := hW.four
  go_wp2_with fail
  refine (sameJ _ hO6.rd hO2.rd).mono ?_
  rintro e w15 ⟨rfl, hb2⟩
  clear x0 x1 x2 x3 xf y0 y1 y2 y3 yf
  replace hP := hP.step hb2
  replace hV6 := hV6.step hb2
  replace hV2 := hV2.step hb2
  replace hB := nextB hB hB.size hb2
  clear hb2
  go_wp2_with fail
  refine (sameBytes_yes B6 B2 V d6 d2 _ hV6.rd hV2.rd).mono ?_
  rintro e _ ⟨rfl, rfl⟩
  have CB := fun w => begin_any pa w
  by_cases hA : 0 ≤ pa ∧ pa ≤ 2046
  · have eB : beginJ pa = (⟨pa, -1, false, []⟩, 0) := by unfold beginJ; rw [if_pos hA]
    rw [eB] at CB
    unfold jnv at CB
    simp only [List.length_nil] at CB
    have HB := Lib.hid CB
    clear CB eB
    have q1 : decide (pa < 0) = false := by simp; omega
    have q2 : decide (2047 ≤ pa) = false := by simp; omega
    obtain ⟨y0, y1, y2, y3, y4, y5, yf⟩ := hP.six
    go_wp2_with fail
    refine (HB.out _).mono ?_
    rintro e w16 ⟨rfl, hb2⟩
    clear y0 y1 y2 y3 y4 y5 yf
    replace hP := hP.step hb2
    replace hB := nextB hB hB.size hb2
    clear hb2
    go_upto_region 15 with fail
    obtain ⟨W7, hW7⟩ : ∃ W : World, W = w16.alloc (.cells #[.int .i64 pa, .int .i64 (-1), .bool false, .slice none 0 0] 70) := ⟨_, rfl⟩
    have hb2 : Below w16.heap.size w16 W7 := by rw [hW7]; exact (Below.refl _ _).alloc (Nat.le_refl _) _
    have hC : Blk W7 w16.heap.size 70 #[.int .i64 pa, .int .i64 (-1), .bool false, .slice none 0 0] := by rw [hW7]; exact Blk.new _ _ _
    rw [← hW7]
    replace hP := hP.step hb2
    replace hB := nextB hB hB.size hb2
    clear hb2 hW7
    obtain ⟨y0, y1, y2, y3, y4, y5, yf⟩ := hP.six
    obtain ⟨x0, x1, x2, x3, xf⟩ := hC.four
    go_wp2_with fail
    refine (sameJ0 pa (-1) _).mono ?_
    rintro e w17 ⟨rfl, hb2⟩
    replace hB := nextB hB hB.size hb2
    go_wp2
    go_ret
    exact ⟨rfl, hB⟩
  · have eB : beginJ pa = (.zero, 2) := by unfold beginJ; rw [if_neg hA]
    rw [eB] at CB
    unfold jnv Jn.zero at CB
    simp only [List.length_nil] at CB
    have HB := Lib.hid CB
    clear CB eB
    by_cases hA1 : pa < 0
    · have q1 : decide (pa < 0) = true := by simp; omega
      obtain ⟨y0, y1, y2, y3, y4, y5, yf⟩ := hP.six
      go_wp2_with fail
      refine (HB.out _).mono ?_
      rintro e w16 ⟨rfl, hb2⟩
      clear y0 y1 y2 y3 y4 y5 yf
      replace hP := hP.step hb2
      replace hB := nextB hB hB.size hb2
      clear hb2
      go_upto_region 15 with fail
      obtain ⟨W7, hW7⟩ : ∃ W : World, W = w16.alloc (.cells #[.int .i64 0, .int .i64 0, .bool false, .slice none 0 0] 70) := ⟨_, rfl⟩
      have hb2 : Below w16.heap.size w16 W7 := by rw [hW7]; exact (Below.refl _ _).alloc (Nat.le_refl _) _
      have hC : Blk W7 w16.heap.size 70 #[.int .i64 0, .int .i64 0, .bool false, .slice none 0 0] := by rw [hW7]; exact Blk.new _ _ _
      rw [← hW7]
      replace hP := hP.step hb2
      replace hB := nextB hB hB.size hb2
      clear hb2 hW7
      obtain ⟨y0, y1, y2, y3, y4, y5, yf⟩ := hP.six
      obtain ⟨x0, x1, x2, x3, xf⟩ := hC.four
      go_wp2_with fail
      refine (sameJ0 0 0 _).mono ?_
      rintro e w17 ⟨rfl, hb2⟩
      replace hB := nextB hB hB.size hb2
      go_wp2
      go_ret
      exact ⟨rfl, hB⟩
    · have q1 : decide (pa < 0) = false := by simp; omega
      have q2 : decide (2047 ≤ pa) = true := by simp; omega
      obtain ⟨y0, y1, y2, y3, y4, y5, yf⟩ := hP.six
      go_wp2_with fail
      refine (HB.out _).mono ?_
      rintro e w16 ⟨rfl, hb2⟩
      clear y0 y1 y2 y3 y4 y5 yf
      replace hP := hP.step hb2
      replace hB := nextB hB hB.size hb2
      clear hb2
      go_upto_region 15 with fail
      obtain ⟨W7, hW7⟩ : ∃ W : World, W = w16.alloc (.cells #[.int .i64 0, .int .i64 0, .bool false, .slice none 0 0] 70) := ⟨_, rfl⟩
      have hb2 : Below w16.heap.size w16 W7 := by rw [hW7]; exact (Below.refl _ _).alloc (Nat.le_refl _) _
      have hC : Blk W7 w16.heap.size 70 #[.int .i64 0, .int .i64 0, .bool false, .slice none 0 0] := by rw [hW7]; exact Blk.new _ _ _
      rw [← hW7]
      replace hP := hP.step hb2
      replace hB := nextB hB hB.size hb2
      clear hb2 hW7
      obtain ⟨y0, y1, y2, y3, y4, y5, yf⟩ := hP.six
      obtain ⟨x0, x1, x2, x3, xf⟩ := hC.four
      go_wp2_with fail
      refine (sameJ0 0 0 _).mono ?_
      rintro e w17 ⟨rfl, hb2⟩
      replace hB := nextB hB hB.size hb2
      go_wp2
      go_ret
      exact ⟨rfl, hB⟩
end Go.Proofs.Ytolcaolmdfbfhaa
