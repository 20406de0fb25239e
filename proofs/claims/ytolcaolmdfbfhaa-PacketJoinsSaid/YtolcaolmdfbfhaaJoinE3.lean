/-
  packet.Join: its good ways (one is missing).
-/
import Derived.Test.YtolcaolmdfbfhaaJoinD
import Derived.Test.YtolcaolmdfbfhaaJoinQ
import Derived.Test.YtolcaolmdfbfhaaClone
namespace Go.Proofs.Ytolcaolmdfbfhaa
set_option linter.unusedSimpArgs false
set_option linter.unusedVariables false
open Go.RowKit

theorem mask14_3 (pc : Int) (c0 : 0 ≤ pc) (c1 : pc ≤ 16383) : bits .and .i64 (pc + 1) 16383 = (pc + 1) % 16384 := by
  obtain ⟨a, rfl⟩ := Int.eq_ofNat_of_zero_le c0
  have h := i64_and_nat (a + 1) 16383 (by omega) (by omega)
  rw [show (16383 : Nat) = 2 ^ 14 - 1 from rfl, Nat.and_two_pow_sub_one_eq_mod] at h
  simpa using h

set_option maxHeartbeats 6400000 in
set_option maxRecDepth 100000 in
theorem pj_gap_n_3 (ap nx : Int) (l : List UInt8) (A : Option Addr) (n c : Nat) (u s : Bool) (pc : Int) (D : List UInt8) (B : Option Addr) (m d : Nat) (w : World) (hD : D.length = m) (hb : Rd w B (bvs D))
    (hl : l.length = n) (ha : Rd w A (bvs l)) (g5 : 0 < n) (g6 : n ≤ 1048576) (g3 : 0 ≤ nx) (g4 : nx ≤ 16383) (c0 : 0 ≤ pc) (c1 : pc ≤ 16383) (m1 : 1 ≤ m) (m2 : m ≤ 65536) (hgap : nx ≠ pc) (hok : jnOk ⟨ap, nx, true, l⟩) (hmay : pktMay ⟨u, s, ap, 3, pc, D⟩ = 0) :
    Calls Try.prog 43 #[.agg #[.int .i64 ap, .int .i64 nx, .bool true, .slice A n c], .agg #[.bool u, .bool s, .int .i64 ap, .int .i64 3, .int .i64 pc, .slice B m d]] w fun e w' => JRes w w' (⟨ap, (pc + 1) % 16384, false, []⟩, D, true, 0) e := by
  have HL := Lib.hid hl
  have HD := Lib.hid hD
  have hm := Lib.hid (fun w => hmay ▸ pmay_any ⟨u, s, ap, 3, pc, D⟩ B m d w hD)
  have hS := Lib.hid (fun w => decide_eq_true hok ▸ stands_any ap nx true l A n c w hl)
  have HX := Lib.hid (mask14_3 pc c0 c1)
  have m1i : (0 : Int) < (m : Int) := by omega
  have z8 : decide (0 ≤ nx) = true := by simp; omega
  have z10 : (nx != pc) = true := by simpa using hgap
  clear hl hD hmay hok
  go_enter Try.func43, Try.ntmps43
  go_wp2_with fail
  refine (hS.out _).mono ?_
  rintro e w1 ⟨rfl, hb1⟩
  obtain ⟨hJ, hP, hZ, hBw, hW0⟩ := boxes3 w #[.int .i64 ap, .int .i64 nx, .bool true, .slice A n c] #[.bool u, .bool s, .int .i64 ap, .int .i64 3, .int .i64 pc, .slice B m d] #[.int .i64 0, .int .i64 0, .bool false, .slice none 0 0] 70 34 70
  replace hJ := hJ.below' hb1
  replace hP := hP.below' hb1
  replace hZ := hZ.below' hb1
  have hB1 : Below w.heap.size w w1 := hBw.trans (hb1.mono (by omega))
  have zw1 : w.heap.size + 3 ≤ w1.heap.size := by have := hb1.size; omega
  clear hb1 hBw hW0
  obtain ⟨y0, y1, y2, y3, y4, y5, yf⟩ := hP.six
  go_wp2_with fail
  refine (hm.out _).mono ?_
  rintro e w2 ⟨rfl, hb2⟩
  clear y0 y1 y2 y3 y4 y5 yf
  replace hJ := hJ.below' hb2
  replace hP := hP.below' hb2
  replace hZ := hZ.below' hb2
  have zw2 := hb2.size
  have hB2 := nextB hB1 hB1.size hb2
  clear hb2 hB1
  obtain ⟨x0, x1, x2, x3, xf⟩ := hJ.four
  obtain ⟨y0, y1, y2, y3, y4, y5, yf⟩ := hP.six
  go_upto_region 9 with fail
  obtain ⟨W3, hW3⟩ : ∃ W : World, W = w2.alloc (.cells #[.int .i64 ap, .int .i64 nx, .bool true, .slice A n c, .bool false] 142) := ⟨_, rfl⟩
  rw [← hW3]
  have hK : Blk W3 w2.heap.size 142 #[.int .i64 ap, .int .i64 nx, .bool true, .slice A n c, .bool false] := by rw [hW3]; exact Blk.new _ _ _
  have hb3 : Below w2.heap.size w2 W3 := by rw [hW3]; exact (Below.refl _ _).alloc (Nat.le_refl _) _
  have zw3 : w2.heap.size + 1 ≤ W3.heap.size := by rw [hW3]; simp
  clear hW3 x0 x1 x2 x3 xf y0 y1 y2 y3 y4 y5 yf
  replace hP := hP.below' hb3
  replace hZ := hZ.below' hb3
  have hB3 := nextB hB2 hB2.size hb3
  generalize w2.heap.size = g at *
  clear hB2 hb3 hJ
  obtain ⟨y0, y1, y2, y3, y4, y5, yf⟩ := hP.six
  obtain ⟨k0, k1, k2, k3, k4, kf⟩ := hK.five
  go_quiet (fail)
  clear y0 y1 y2 y3 y4 y5 yf k0 k1 k2 k3 k4 kf
  replace hP := hP.drewN nq
  replace hZ := hZ.drewN nq
  replace hK := hK.drewN nq
  have hB := below_drewN hB3 nq
  have zw4 : g + 1 ≤ (W3.drewN nq).heap.size := zw3
  clear hB3 zw3
  generalize W3.drewN nq = W4 at *
  have rb := hb.below hB
  have ra := ha.below hB
  have nP : w.heap.size + 1 ≠ g := by omega
  have nZ : w.heap.size + 1 + 1 ≠ g := by omega
  have gw : w.heap.size ≤ g := by omega
  obtain ⟨y0, y1, y2, y3, y4, y5, yf⟩ := hP.six
  obtain ⟨k0, k1, k2, k3, k4, kf⟩ := hK.five
  go_wp2_with fail
  refine (drop_any ap nx true (.slice A n c) false g _ hK).mono ?_
  rintro e w5 ⟨rfl, hK2, hg2⟩
  try simp only [Bool.or_true, Bool.or_false, Bool.true_or, Bool.false_or] at hK2
  have hh : W4.grownBy w5 (some g) := grown_trans (World.grownBy.refl _ _) hg2 (.inl rfl)
  clear y0 y1 y2 y3 y4 y5 yf k0 k1 k2 k3 k4 kf hg2
  replace hP := hP.over hh (fun q hq e => by injection hq with hq; injection e with e; omega)
  replace hZ := hZ.over hh (fun q hq e => by injection hq with hq; injection e with e; omega)
  replace hB := hB.grown hh hB.size (fun q hq => by injection hq with hq; omega)
  replace rb := hb.below hB
  have zz : g + 1 ≤ w5.heap.size := by have := hh.size; omega
  clear zw4 hh
  have zw4 := zz
  clear zz hK
  have hK := hK2
  clear hK2
  obtain ⟨y0, y1, y2, y3, y4, y5, yf⟩ := hP.six
  obtain ⟨k0, k1, k2, k3, k4, kf⟩ := hK.five
  go_wp2_with fail
  refine (drop_any ap (bits .and .i64 (pc + 1) 16383) false (.slice none 0 0) true g _ ((hK.set_ 4 _).set_ 1 _)).mono ?_
  rintro e w6 ⟨rfl, hK2, hg2⟩
  try simp only [Bool.or_true, Bool.or_false, Bool.true_or, Bool.false_or] at hK2
  have hh : w5.grownBy w6 (some g) := grown_trans (grown_set (grown_set (World.grownBy.refl _ _) _) _) hg2 (.inl rfl)
  clear y0 y1 y2 y3 y4 y5 yf k0 k1 k2 k3 k4 kf hg2
  replace hP := hP.over hh (fun q hq e => by injection hq with hq; injection e with e; omega)
  replace hZ := hZ.over hh (fun q hq e => by injection hq with hq; injection e with e; omega)
  replace hB := hB.grown hh hB.size (fun q hq => by injection hq with hq; omega)
  replace rb := hb.below hB
  have zz : g + 1 ≤ w6.heap.size := by have := hh.size; omega
  clear zw4 hh
  have zw4 := zz
  clear zz hK
  have hK := hK2
  clear hK2
  obtain ⟨y0, y1, y2, y3, y4, y5, yf⟩ := hP.six
  obtain ⟨k0, k1, k2, k3, k4, kf⟩ := hK.five
  go_wp2_with fail
  refine (add_fit ap (bits .and .i64 (pc + 1) 16383) false [] none 0 0 true D B m d g _ rfl HD.out (by omega) m2 (Rd.nil _ _) rb hK (by omega)).mono ?_
  rintro e w7 ⟨rfl, hg2, A9, c9, hK2, hO9⟩
  have hO9 := hO9.mono (base' := g + 1) (by first | omega | (simp; omega))
  rw [List.nil_append, Nat.zero_add] at hO9
  rw [Nat.zero_add] at hK2
  have hh : w6.grownBy w7 (some g) := grown_trans (World.grownBy.refl _ _) hg2 (.inl rfl)
  clear y0 y1 y2 y3 y4 y5 yf k0 k1 k2 k3 k4 kf hg2
  replace hP := hP.over hh (fun q hq e => by injection hq with hq; injection e with e; omega)
  replace hZ := hZ.over hh (fun q hq e => by injection hq with hq; injection e with e; omega)
  replace hB := hB.grown hh hB.size (fun q hq => by injection hq with hq; omega)
  replace rb := hb.below hB
  have zz : g + 1 ≤ w7.heap.size := by have := hh.size; omega
  clear zw4 hh
  have zw4 := zz
  clear zz hK
  have hK := hK2
  clear hK2
  obtain ⟨y0, y1, y2, y3, y4, y5, yf⟩ := hP.six
  obtain ⟨k0, k1, k2, k3, k4, kf⟩ := hK.five
  have hO8 := hO9
  have hlt9 := hO9.lt
  go_wp2_with fail
  refine (take_any ap (bits .and .i64 (pc + 1) 16383) true A9 m c9 true g _ hK).mono ?_
  rintro e w8 ⟨rfl, hK2, hg2⟩
  replace hO9 := hO9.over hg2 (fun q hq e => by injection hq with hq; have := (hlt9 _ e).1; omega)
  clear hO8 hlt9
  have hh : w7.grownBy w8 (some g) := grown_trans (World.grownBy.refl _ _) hg2 (.inl rfl)
  clear y0 y1 y2 y3 y4 y5 yf k0 k1 k2 k3 k4 kf hg2
  replace hP := hP.over hh (fun q hq e => by injection hq with hq; injection e with e; omega)
  replace hZ := hZ.over hh (fun q hq e => by injection hq with hq; injection e with e; omega)
  replace hB := hB.grown hh hB.size (fun q hq => by injection hq with hq; omega)
  replace rb := hb.below hB
  have zz : g + 1 ≤ w8.heap.size := by have := hh.size; omega
  clear zw4 hh
  have zw4 := zz
  clear zz hK
  have hK := hK2
  clear hK2
  obtain ⟨y0, y1, y2, y3, y4, y5, yf⟩ := hP.six
  obtain ⟨k0, k1, k2, k3, k4, kf⟩ := hK.five
  go_wp2_with fail
  refine (clone_n none [] 0 0 _ rfl (Rd.nil _ _) (by omega)).mono ?_
  rintro e w90 ⟨A10, c10, rfl, hO10, hb10⟩
  have dis : ∀ q, blk A10 = some q → blk A9 ≠ some q := fun q h1 h2 => by have := (hO10.lt q h1).1; have := (hO9.lt q h2).2; omega
  have hO10 := hO10.mono (base' := g + 1) (by first | omega | (simp; omega))
  have hK2 := hK.below' hb10
  have hO9 := hO9.step hb10
  have hg10 := grownBy_sub (g := g) hb10
  have hh : w8.grownBy w90 (some g) := grown_trans (World.grownBy.refl _ _) hg10 (.inl rfl)
  clear y0 y1 y2 y3 y4 y5 yf k0 k1 k2 k3 k4 kf hg10
  replace hP := hP.over hh (fun q hq e => by injection hq with hq; injection e with e; omega)
  replace hZ := hZ.over hh (fun q hq e => by injection hq with hq; injection e with e; omega)
  replace hB := hB.grown hh hB.size (fun q hq => by injection hq with hq; omega)
  replace rb := hb.below hB
  have zz : g + 1 ≤ w90.heap.size := by have := hh.size; omega
  clear zw4 hh
  have zw4 := zz
  clear zz hK
  have hK := hK2
  clear hK2
  obtain ⟨y0, y1, y2, y3, y4, y5, yf⟩ := hP.six
  obtain ⟨k0, k1, k2, k3, k4, kf⟩ := hK.five
  have lt10 := hO10.lt
  have lt9 := hO9.lt
  clear hb10
  go_upto_region 23 with fail
  obtain ⟨W6, hW6⟩ : ∃ W : World, W = w90.setCell ⟨g, 3, none⟩ (.slice A10 0 c10) := ⟨_, rfl⟩
  rw [← hW6]
  have hK6 := hW6 ▸ hK.set_ 3 (.slice A10 0 c10)
  have hZ6 := hW6 ▸ hZ.far (p := ⟨g, 3, none⟩) (nZ) (.slice A10 0 c10)
  have hB6 := hW6 ▸ hB.setCell (p := ⟨g, 3, none⟩) gw (.slice A10 0 c10)
  clear k0 k1 k2 k3 k4 kf y0 y1 y2 y3 y4 y5 yf
  obtain ⟨k0, k1, k2, k3, k4, kf⟩ := hK6.five
  obtain ⟨t0, t1, t2, t3, tf⟩ := hZ6.four
  have n10 : ∀ p : Addr, p.block < g + 1 → blk A10 ≠ some p.block := fun p hp e => by have := (lt10 _ e).1; omega
  have hO6 : Own W6 (g + 1) 5 1 A10 0 c10 (bvs []) := by rw [hW6]; exact hO10.setFar (n10 _ (by simp)) _
  have n9 : ∀ p : Addr, p.block < g + 1 → blk A9 ≠ some p.block := fun p hp e => by have := (lt9 _ e).1; omega
  have hV6 : Own W6 (g + 1) 5 1 A9 m c9 (bvs D) := by rw [hW6]; exact hO9.setFar (n9 _ (by simp)) _
  clear hW6
  go_region
  all_goals
    obtain ⟨W7, hW7⟩ : ∃ W : World, W = ((((W6.setCell ⟨w.heap.size + 1 + 1, 0, none⟩ (.int .i64 ap)).setCell ⟨w.heap.size + 1 + 1, 1, none⟩ (.int .i64 (bits .and .i64 (pc + 1) 16383))).setCell ⟨w.heap.size + 1 + 1, 2, none⟩ (.bool false)).setCell ⟨w.heap.size + 1 + 1, 3, none⟩ (.slice A10 0 c10)).drew := ⟨_, rfl⟩
    rw [← hW7]
    have hZ7 : Blk W7 (w.heap.size + 1 + 1) 70 #[.int .i64 ap, .int .i64 (bits .and .i64 (pc + 1) 16383), .bool false, (.slice A10 0 c10)] := by rw [hW7]; exact ((((hZ6.set_ 0 _).set_ 1 _).set_ 2 _).set_ 3 _).drew
    have hB7 : Below w.heap.size w W7 := by rw [hW7]; exact ((((hB6.setCell (by simp; omega) _).setCell (by simp; omega) _).setCell (by simp; omega) _).setCell (by simp; omega) _).drew
    have hO7 : Own W7 w.heap.size 5 1 A10 0 c10 (bvs []) := by rw [hW7]; exact (((((hO6.setFar (n10 _ (by simp; omega)) _).setFar (n10 _ (by simp; omega)) _).setFar (n10 _ (by simp; omega)) _).setFar (n10 _ (by simp; omega)) _).drew).mono (by omega)
    have hV7 : Own W7 w.heap.size 5 1 A9 m c9 (bvs D) := by rw [hW7]; exact (((((hV6.setFar (n9 _ (by simp; omega)) _).setFar (n9 _ (by simp; omega)) _).setFar (n9 _ (by simp; omega)) _).setFar (n9 _ (by simp; omega)) _).drew).mono (by omega)
    clear hW7 k0 k1 k2 k3 k4 kf t0 t1 t2 t3 tf
    obtain ⟨r0, r1, r2, r3, rf⟩ := hZ7.four
    go_wp2
    refine bodyPost_ret (v := .tuple #[.agg #[.int .i64 ap, .int .i64 (bits .and .i64 (pc + 1) 16383), .bool false, (.slice A10 0 c10)], (.slice A9 m c9), .bool true, .int .i64 0]) (by simp [results, Try.results43, go_sem, r0, r1, r2, r3]) rfl ?_
    rw [HX.out]
    refine ⟨A10, c10, A9, c9, ?_, ?_, ?_, dis, hB7⟩
    · unfold jnv
      simp only [HD.out, List.length_nil]
    · exact hO7
    · show Own _ _ _ _ _ (List.length _) _ _
      rw [HD.out]
      exact hV7

set_option maxHeartbeats 6400000 in
set_option maxRecDepth 100000 in
theorem pj_gap_n_1 (ap nx : Int) (l : List UInt8) (A : Option Addr) (n c : Nat) (u s : Bool) (pc : Int) (D : List UInt8) (B : Option Addr) (m d : Nat) (w : World) (hD : D.length = m) (hb : Rd w B (bvs D))
    (hl : l.length = n) (ha : Rd w A (bvs l)) (g5 : 0 < n) (g6 : n ≤ 1048576) (g3 : 0 ≤ nx) (g4 : nx ≤ 16383) (c0 : 0 ≤ pc) (c1 : pc ≤ 16383) (m1 : 1 ≤ m) (m2 : m ≤ 65536) (hgap : nx ≠ pc) (hok : jnOk ⟨ap, nx, true, l⟩) (hmay : pktMay ⟨u, s, ap, 1, pc, D⟩ = 0) :
    Calls Try.prog 43 #[.agg #[.int .i64 ap, .int .i64 nx, .bool true, .slice A n c], .agg #[.bool u, .bool s, .int .i64 ap, .int .i64 1, .int .i64 pc, .slice B m d]] w fun e w' => JRes w w' (⟨ap, (pc + 1) % 16384, true, D⟩, [], true, 0) e := by
  have HL := Lib.hid hl
  have HD := Lib.hid hD
  have hm := Lib.hid (fun w => hmay ▸ pmay_any ⟨u, s, ap, 1, pc, D⟩ B m d w hD)
  have hS := Lib.hid (fun w => decide_eq_true hok ▸ stands_any ap nx true l A n c w hl)
  have HX := Lib.hid (mask14_3 pc c0 c1)
  have m1i : (0 : Int) < (m : Int) := by omega
  have z8 : decide (0 ≤ nx) = true := by simp; omega
  have z10 : (nx != pc) = true := by simpa using hgap
  clear hl hD hmay hok
  go_enter Try.func43, Try.ntmps43
  go_wp2_with fail
  refine (hS.out _).mono ?_
  rintro e w1 ⟨rfl, hb1⟩
  obtain ⟨hJ, hP, hZ, hBw, hW0⟩ := boxes3 w #[.int .i64 ap, .int .i64 nx, .bool true, .slice A n c] #[.bool u, .bool s, .int .i64 ap, .int .i64 1, .int .i64 pc, .slice B m d] #[.int .i64 0, .int .i64 0, .bool false, .slice none 0 0] 70 34 70
  replace hJ := hJ.below' hb1
  replace hP := hP.below' hb1
  replace hZ := hZ.below' hb1
  have hB1 : Below w.heap.size w w1 := hBw.trans (hb1.mono (by omega))
  have zw1 : w.heap.size + 3 ≤ w1.heap.size := by have := hb1.size; omega
  clear hb1 hBw hW0
  obtain ⟨y0, y1, y2, y3, y4, y5, yf⟩ := hP.six
  go_wp2_with fail
  refine (hm.out _).mono ?_
  rintro e w2 ⟨rfl, hb2⟩
  clear y0 y1 y2 y3 y4 y5 yf
  replace hJ := hJ.below' hb2
  replace hP := hP.below' hb2
  replace hZ := hZ.below' hb2
  have zw2 := hb2.size
  have hB2 := nextB hB1 hB1.size hb2
  clear hb2 hB1
  obtain ⟨x0, x1, x2, x3, xf⟩ := hJ.four
  obtain ⟨y0, y1, y2, y3, y4, y5, yf⟩ := hP.six
  go_upto_region 9 with fail
  obtain ⟨W3, hW3⟩ : ∃ W : World, W = w2.alloc (.cells #[.int .i64 ap, .int .i64 nx, .bool true, .slice A n c, .bool false] 142) := ⟨_, rfl⟩
  rw [← hW3]
  have hK : Blk W3 w2.heap.size 142 #[.int .i64 ap, .int .i64 nx, .bool true, .slice A n c, .bool false] := by rw [hW3]; exact Blk.new _ _ _
  have hb3 : Below w2.heap.size w2 W3 := by rw [hW3]; exact (Below.refl _ _).alloc (Nat.le_refl _) _
  have zw3 : w2.heap.size + 1 ≤ W3.heap.size := by rw [hW3]; simp
  clear hW3 x0 x1 x2 x3 xf y0 y1 y2 y3 y4 y5 yf
  replace hP := hP.below' hb3
  replace hZ := hZ.below' hb3
  have hB3 := nextB hB2 hB2.size hb3
  generalize w2.heap.size = g at *
  clear hB2 hb3 hJ
  obtain ⟨y0, y1, y2, y3, y4, y5, yf⟩ := hP.six
  obtain ⟨k0, k1, k2, k3, k4, kf⟩ := hK.five
  go_quiet (fail)
  clear y0 y1 y2 y3 y4 y5 yf k0 k1 k2 k3 k4 kf
  replace hP := hP.drewN nq
  replace hZ := hZ.drewN nq
  replace hK := hK.drewN nq
  have hB := below_drewN hB3 nq
  have zw4 : g + 1 ≤ (W3.drewN nq).heap.size := zw3
  clear hB3 zw3
  generalize W3.drewN nq = W4 at *
  have rb := hb.below hB
  have ra := ha.below hB
  have nP : w.heap.size + 1 ≠ g := by omega
  have nZ : w.heap.size + 1 + 1 ≠ g := by omega
  have gw : w.heap.size ≤ g := by omega
  obtain ⟨y0, y1, y2, y3, y4, y5, yf⟩ := hP.six
  obtain ⟨k0, k1, k2, k3, k4, kf⟩ := hK.five
  go_wp2_with fail
  refine (drop_any ap nx true (.slice A n c) false g _ hK).mono ?_
  rintro e w5 ⟨rfl, hK2, hg2⟩
  try simp only [Bool.or_true, Bool.or_false, Bool.true_or, Bool.false_or] at hK2
  have hh : W4.grownBy w5 (some g) := grown_trans (World.grownBy.refl _ _) hg2 (.inl rfl)
  clear y0 y1 y2 y3 y4 y5 yf k0 k1 k2 k3 k4 kf hg2
  replace hP := hP.over hh (fun q hq e => by injection hq with hq; injection e with e; omega)
  replace hZ := hZ.over hh (fun q hq e => by injection hq with hq; injection e with e; omega)
  replace hB := hB.grown hh hB.size (fun q hq => by injection hq with hq; omega)
  replace rb := hb.below hB
  have zz : g + 1 ≤ w5.heap.size := by have := hh.size; omega
  clear zw4 hh
  have zw4 := zz
  clear zz hK
  have hK := hK2
  clear hK2
  obtain ⟨y0, y1, y2, y3, y4, y5, yf⟩ := hP.six
  obtain ⟨k0, k1, k2, k3, k4, kf⟩ := hK.five
  go_wp2_with fail
  refine (drop_any ap (bits .and .i64 (pc + 1) 16383) false (.slice none 0 0) true g _ ((hK.set_ 4 _).set_ 1 _)).mono ?_
  rintro e w6 ⟨rfl, hK2, hg2⟩
  try simp only [Bool.or_true, Bool.or_false, Bool.true_or, Bool.false_or] at hK2
  have hh : w5.grownBy w6 (some g) := grown_trans (grown_set (grown_set (World.grownBy.refl _ _) _) _) hg2 (.inl rfl)
  clear y0 y1 y2 y3 y4 y5 yf k0 k1 k2 k3 k4 kf hg2
  replace hP := hP.over hh (fun q hq e => by injection hq with hq; injection e with e; omega)
  replace hZ := hZ.over hh (fun q hq e => by injection hq with hq; injection e with e; omega)
  replace hB := hB.grown hh hB.size (fun q hq => by injection hq with hq; omega)
  replace rb := hb.below hB
  have zz : g + 1 ≤ w6.heap.size := by have := hh.size; omega
  clear zw4 hh
  have zw4 := zz
  clear zz hK
  have hK := hK2
  clear hK2
  obtain ⟨y0, y1, y2, y3, y4, y5, yf⟩ := hP.six
  obtain ⟨k0, k1, k2, k3, k4, kf⟩ := hK.five
  go_wp2_with fail
  refine (add_fit ap (bits .and .i64 (pc + 1) 16383) false [] none 0 0 true D B m d g _ rfl HD.out (by omega) m2 (Rd.nil _ _) rb hK (by omega)).mono ?_
  rintro e w7 ⟨rfl, hg2, A9, c9, hK2, hO9⟩
  have hO9 := hO9.mono (base' := g + 1) (by first | omega | (simp; omega))
  rw [List.nil_append, Nat.zero_add] at hO9
  rw [Nat.zero_add] at hK2
  have hh : w6.grownBy w7 (some g) := grown_trans (World.grownBy.refl _ _) hg2 (.inl rfl)
  clear y0 y1 y2 y3 y4 y5 yf k0 k1 k2 k3 k4 kf hg2
  replace hP := hP.over hh (fun q hq e => by injection hq with hq; injection e with e; omega)
  replace hZ := hZ.over hh (fun q hq e => by injection hq with hq; injection e with e; omega)
  replace hB := hB.grown hh hB.size (fun q hq => by injection hq with hq; omega)
  replace rb := hb.below hB
  have zz : g + 1 ≤ w7.heap.size := by have := hh.size; omega
  clear zw4 hh
  have zw4 := zz
  clear zz hK
  have hK := hK2
  clear hK2
  obtain ⟨y0, y1, y2, y3, y4, y5, yf⟩ := hP.six
  obtain ⟨k0, k1, k2, k3, k4, kf⟩ := hK.five
  go_wp2_with fail
  refine (clone_n A9 D m c9 _ HD.out hO9.rd (by omega)).mono ?_
  rintro e w90 ⟨A10, c10, rfl, hO10, hb10⟩
  have hO10 := hO10.mono (base' := g + 1) (by first | omega | (simp; omega))
  have hK2 := hK.below' hb10
  have hO9 := hO9.step hb10
  have hg10 := grownBy_sub (g := g) hb10
  have hh : w7.grownBy w90 (some g) := grown_trans (World.grownBy.refl _ _) hg10 (.inl rfl)
  clear y0 y1 y2 y3 y4 y5 yf k0 k1 k2 k3 k4 kf hg10
  replace hP := hP.over hh (fun q hq e => by injection hq with hq; injection e with e; omega)
  replace hZ := hZ.over hh (fun q hq e => by injection hq with hq; injection e with e; omega)
  replace hB := hB.grown hh hB.size (fun q hq => by injection hq with hq; omega)
  replace rb := hb.below hB
  have zz : g + 1 ≤ w90.heap.size := by have := hh.size; omega
  clear zw4 hh
  have zw4 := zz
  clear zz hK
  have hK := hK2
  clear hK2
  obtain ⟨y0, y1, y2, y3, y4, y5, yf⟩ := hP.six
  obtain ⟨k0, k1, k2, k3, k4, kf⟩ := hK.five
  have lt10 := hO10.lt
  have lt9 := hO9.lt
  clear hb10
  go_upto_region 23 with fail
  obtain ⟨W6, hW6⟩ : ∃ W : World, W = w90.setCell ⟨g, 3, none⟩ (.slice A10 m c10) := ⟨_, rfl⟩
  rw [← hW6]
  have hK6 := hW6 ▸ hK.set_ 3 (.slice A10 m c10)
  have hZ6 := hW6 ▸ hZ.far (p := ⟨g, 3, none⟩) (nZ) (.slice A10 m c10)
  have hB6 := hW6 ▸ hB.setCell (p := ⟨g, 3, none⟩) gw (.slice A10 m c10)
  clear k0 k1 k2 k3 k4 kf y0 y1 y2 y3 y4 y5 yf
  obtain ⟨k0, k1, k2, k3, k4, kf⟩ := hK6.five
  obtain ⟨t0, t1, t2, t3, tf⟩ := hZ6.four
  have n10 : ∀ p : Addr, p.block < g + 1 → blk A10 ≠ some p.block := fun p hp e => by have := (lt10 _ e).1; omega
  have hO6 : Own W6 (g + 1) 5 1 A10 m c10 (bvs D) := by rw [hW6]; exact hO10.setFar (n10 _ (by simp)) _
  clear hW6
  go_region
  all_goals
    obtain ⟨W7, hW7⟩ : ∃ W : World, W = ((((W6.setCell ⟨w.heap.size + 1 + 1, 0, none⟩ (.int .i64 ap)).setCell ⟨w.heap.size + 1 + 1, 1, none⟩ (.int .i64 (bits .and .i64 (pc + 1) 16383))).setCell ⟨w.heap.size + 1 + 1, 2, none⟩ (.bool true)).setCell ⟨w.heap.size + 1 + 1, 3, none⟩ (.slice A10 m c10)).drew := ⟨_, rfl⟩
    rw [← hW7]
    have hZ7 : Blk W7 (w.heap.size + 1 + 1) 70 #[.int .i64 ap, .int .i64 (bits .and .i64 (pc + 1) 16383), .bool true, (.slice A10 m c10)] := by rw [hW7]; exact ((((hZ6.set_ 0 _).set_ 1 _).set_ 2 _).set_ 3 _).drew
    have hB7 : Below w.heap.size w W7 := by rw [hW7]; exact ((((hB6.setCell (by simp; omega) _).setCell (by simp; omega) _).setCell (by simp; omega) _).setCell (by simp; omega) _).drew
    have hO7 : Own W7 w.heap.size 5 1 A10 m c10 (bvs D) := by rw [hW7]; exact (((((hO6.setFar (n10 _ (by simp; omega)) _).setFar (n10 _ (by simp; omega)) _).setFar (n10 _ (by simp; omega)) _).setFar (n10 _ (by simp; omega)) _).drew).mono (by omega)
    clear hW7 k0 k1 k2 k3 k4 kf t0 t1 t2 t3 tf
    obtain ⟨r0, r1, r2, r3, rf⟩ := hZ7.four
    go_wp2
    refine bodyPost_ret (v := .tuple #[.agg #[.int .i64 ap, .int .i64 (bits .and .i64 (pc + 1) 16383), .bool true, (.slice A10 m c10)], (.slice none 0 0), .bool true, .int .i64 0]) (by simp [results, Try.results43, go_sem, r0, r1, r2, r3]) rfl ?_
    rw [HX.out]
    refine ⟨A10, c10, none, 0, ?_, ?_, ?_, (fun q _ e => by simp [blk] at e), hB7⟩
    · unfold jnv
      simp only [HD.out, List.length_nil]
    · show Own _ _ _ _ _ (List.length _) _ _
      rw [HD.out]
      exact hO7
    · exact Own.none_ _ _ _ _

set_option maxHeartbeats 6400000 in
set_option maxRecDepth 100000 in
theorem pj_gap_n_0 (ap nx : Int) (l : List UInt8) (A : Option Addr) (n c : Nat) (u s : Bool) (pc : Int) (D : List UInt8) (B : Option Addr) (m d : Nat) (w : World) (hD : D.length = m) (hb : Rd w B (bvs D))
    (hl : l.length = n) (ha : Rd w A (bvs l)) (g5 : 0 < n) (g6 : n ≤ 1048576) (g3 : 0 ≤ nx) (g4 : nx ≤ 16383) (c0 : 0 ≤ pc) (c1 : pc ≤ 16383) (m1 : 1 ≤ m) (m2 : m ≤ 65536) (hgap : nx ≠ pc) (hok : jnOk ⟨ap, nx, true, l⟩) (hmay : pktMay ⟨u, s, ap, 0, pc, D⟩ = 0) :
    Calls Try.prog 43 #[.agg #[.int .i64 ap, .int .i64 nx, .bool true, .slice A n c], .agg #[.bool u, .bool s, .int .i64 ap, .int .i64 0, .int .i64 pc, .slice B m d]] w fun e w' => JRes w w' (⟨ap, (pc + 1) % 16384, false, []⟩, [], true, 0) e := by
  have HL := Lib.hid hl
  have HD := Lib.hid hD
  have hm := Lib.hid (fun w => hmay ▸ pmay_any ⟨u, s, ap, 0, pc, D⟩ B m d w hD)
  have hS := Lib.hid (fun w => decide_eq_true hok ▸ stands_any ap nx true l A n c w hl)
  have HX := Lib.hid (mask14_3 pc c0 c1)
  have m1i : (0 : Int) < (m : Int) := by omega
  have z8 : decide (0 ≤ nx) = true := by simp; omega
  have z10 : (nx != pc) = true := by simpa using hgap
  clear hl hD hmay hok
  go_enter Try.func43, Try.ntmps43
  go_wp2_with fail
  refine (hS.out _).mono ?_
  rintro e w1 ⟨rfl, hb1⟩
  obtain ⟨hJ, hP, hZ, hBw, hW0⟩ := boxes3 w #[.int .i64 ap, .int .i64 nx, .bool true, .slice A n c] #[.bool u, .bool s, .int .i64 ap, .int .i64 0, .int .i64 pc, .slice B m d] #[.int .i64 0, .int .i64 0, .bool false, .slice none 0 0] 70 34 70
  replace hJ := hJ.below' hb1
  replace hP := hP.below' hb1
  replace hZ := hZ.below' hb1
  have hB1 : Below w.heap.size w w1 := hBw.trans (hb1.mono (by omega))
  have zw1 : w.heap.size + 3 ≤ w1.heap.size := by have := hb1.size; omega
  clear hb1 hBw hW0
  obtain ⟨y0, y1, y2, y3, y4, y5, yf⟩ := hP.six
  go_wp2_with fail
  refine (hm.out _).mono ?_
  rintro e w2 ⟨rfl, hb2⟩
  clear y0 y1 y2 y3 y4 y5 yf
  replace hJ := hJ.below' hb2
  replace hP := hP.below' hb2
  replace hZ := hZ.below' hb2
  have zw2 := hb2.size
  have hB2 := nextB hB1 hB1.size hb2
  clear hb2 hB1
  obtain ⟨x0, x1, x2, x3, xf⟩ := hJ.four
  obtain ⟨y0, y1, y2, y3, y4, y5, yf⟩ := hP.six
  go_upto_region 9 with fail
  obtain ⟨W3, hW3⟩ : ∃ W : World, W = w2.alloc (.cells #[.int .i64 ap, .int .i64 nx, .bool true, .slice A n c, .bool false] 142) := ⟨_, rfl⟩
  rw [← hW3]
  have hK : Blk W3 w2.heap.size 142 #[.int .i64 ap, .int .i64 nx, .bool true, .slice A n c, .bool false] := by rw [hW3]; exact Blk.new _ _ _
  have hb3 : Below w2.heap.size w2 W3 := by rw [hW3]; exact (Below.refl _ _).alloc (Nat.le_refl _) _
  have zw3 : w2.heap.size + 1 ≤ W3.heap.size := by rw [hW3]; simp
  clear hW3 x0 x1 x2 x3 xf y0 y1 y2 y3 y4 y5 yf
  replace hP := hP.below' hb3
  replace hZ := hZ.below' hb3
  have hB3 := nextB hB2 hB2.size hb3
  generalize w2.heap.size = g at *
  clear hB2 hb3 hJ
  obtain ⟨y0, y1, y2, y3, y4, y5, yf⟩ := hP.six
  obtain ⟨k0, k1, k2, k3, k4, kf⟩ := hK.five
  go_quiet (fail)
  clear y0 y1 y2 y3 y4 y5 yf k0 k1 k2 k3 k4 kf
  replace hP := hP.drewN nq
  replace hZ := hZ.drewN nq
  replace hK := hK.drewN nq
  have hB := below_drewN hB3 nq
  have zw4 : g + 1 ≤ (W3.drewN nq).heap.size := zw3
  clear hB3 zw3
  generalize W3.drewN nq = W4 at *
  have rb := hb.below hB
  have ra := ha.below hB
  have nP : w.heap.size + 1 ≠ g := by omega
  have nZ : w.heap.size + 1 + 1 ≠ g := by omega
  have gw : w.heap.size ≤ g := by omega
  obtain ⟨y0, y1, y2, y3, y4, y5, yf⟩ := hP.six
  obtain ⟨k0, k1, k2, k3, k4, kf⟩ := hK.five
  go_wp2_with fail
  refine (drop_any ap nx true (.slice A n c) false g _ hK).mono ?_
  rintro e w5 ⟨rfl, hK2, hg2⟩
  try simp only [Bool.or_true, Bool.or_false, Bool.true_or, Bool.false_or] at hK2
  have hh : W4.grownBy w5 (some g) := grown_trans (World.grownBy.refl _ _) hg2 (.inl rfl)
  clear y0 y1 y2 y3 y4 y5 yf k0 k1 k2 k3 k4 kf hg2
  replace hP := hP.over hh (fun q hq e => by injection hq with hq; injection e with e; omega)
  replace hZ := hZ.over hh (fun q hq e => by injection hq with hq; injection e with e; omega)
  replace hB := hB.grown hh hB.size (fun q hq => by injection hq with hq; omega)
  replace rb := hb.below hB
  have zz : g + 1 ≤ w5.heap.size := by have := hh.size; omega
  clear zw4 hh
  have zw4 := zz
  clear zz hK
  have hK := hK2
  clear hK2
  obtain ⟨y0, y1, y2, y3, y4, y5, yf⟩ := hP.six
  obtain ⟨k0, k1, k2, k3, k4, kf⟩ := hK.five
  go_wp2_with fail
  refine (clone_n none [] 0 0 _ rfl (Rd.nil _ _) (by omega)).mono ?_
  rintro e w90 ⟨A10, c10, rfl, hO10, hb10⟩
  have hO10 := hO10.mono (base' := g + 1) (by first | omega | (simp; omega))
  have hK2 := (((hK.set_ 4 _).set_ 1 _).set_ 4 _).below' hb10
  have hg10 := grownBy_sub (g := g) hb10
  have hh : w5.grownBy w90 (some g) := grown_trans (grown_set (grown_set (grown_set (World.grownBy.refl _ _) _) _) _) hg10 (.inl rfl)
  clear y0 y1 y2 y3 y4 y5 yf k0 k1 k2 k3 k4 kf hg10
  replace hP := hP.over hh (fun q hq e => by injection hq with hq; injection e with e; omega)
  replace hZ := hZ.over hh (fun q hq e => by injection hq with hq; injection e with e; omega)
  replace hB := hB.grown hh hB.size (fun q hq => by injection hq with hq; omega)
  replace rb := hb.below hB
  have zz : g + 1 ≤ w90.heap.size := by have := hh.size; omega
  clear zw4 hh
  have zw4 := zz
  clear zz hK
  have hK := hK2
  clear hK2
  obtain ⟨y0, y1, y2, y3, y4, y5, yf⟩ := hP.six
  obtain ⟨k0, k1, k2, k3, k4, kf⟩ := hK.five
  have lt10 := hO10.lt
  clear hb10
  go_upto_region 23 with fail
  obtain ⟨W6, hW6⟩ : ∃ W : World, W = w90.setCell ⟨g, 3, none⟩ (.slice A10 0 c10) := ⟨_, rfl⟩
  rw [← hW6]
  have hK6 := hW6 ▸ hK.set_ 3 (.slice A10 0 c10)
  have hZ6 := hW6 ▸ hZ.far (p := ⟨g, 3, none⟩) (nZ) (.slice A10 0 c10)
  have hB6 := hW6 ▸ hB.setCell (p := ⟨g, 3, none⟩) gw (.slice A10 0 c10)
  clear k0 k1 k2 k3 k4 kf y0 y1 y2 y3 y4 y5 yf
  obtain ⟨k0, k1, k2, k3, k4, kf⟩ := hK6.five
  obtain ⟨t0, t1, t2, t3, tf⟩ := hZ6.four
  have n10 : ∀ p : Addr, p.block < g + 1 → blk A10 ≠ some p.block := fun p hp e => by have := (lt10 _ e).1; omega
  have hO6 : Own W6 (g + 1) 5 1 A10 0 c10 (bvs []) := by rw [hW6]; exact hO10.setFar (n10 _ (by simp)) _
  clear hW6
  go_region
  all_goals
    obtain ⟨W7, hW7⟩ : ∃ W : World, W = ((((W6.setCell ⟨w.heap.size + 1 + 1, 0, none⟩ (.int .i64 ap)).setCell ⟨w.heap.size + 1 + 1, 1, none⟩ (.int .i64 (bits .and .i64 (pc + 1) 16383))).setCell ⟨w.heap.size + 1 + 1, 2, none⟩ (.bool false)).setCell ⟨w.heap.size + 1 + 1, 3, none⟩ (.slice A10 0 c10)).drew := ⟨_, rfl⟩
    rw [← hW7]
    have hZ7 : Blk W7 (w.heap.size + 1 + 1) 70 #[.int .i64 ap, .int .i64 (bits .and .i64 (pc + 1) 16383), .bool false, (.slice A10 0 c10)] := by rw [hW7]; exact ((((hZ6.set_ 0 _).set_ 1 _).set_ 2 _).set_ 3 _).drew
    have hB7 : Below w.heap.size w W7 := by rw [hW7]; exact ((((hB6.setCell (by simp; omega) _).setCell (by simp; omega) _).setCell (by simp; omega) _).setCell (by simp; omega) _).drew
    have hO7 : Own W7 w.heap.size 5 1 A10 0 c10 (bvs []) := by rw [hW7]; exact (((((hO6.setFar (n10 _ (by simp; omega)) _).setFar (n10 _ (by simp; omega)) _).setFar (n10 _ (by simp; omega)) _).setFar (n10 _ (by simp; omega)) _).drew).mono (by omega)
    clear hW7 k0 k1 k2 k3 k4 kf t0 t1 t2 t3 tf
    obtain ⟨r0, r1, r2, r3, rf⟩ := hZ7.four
    go_wp2
    refine bodyPost_ret (v := .tuple #[.agg #[.int .i64 ap, .int .i64 (bits .and .i64 (pc + 1) 16383), .bool false, (.slice A10 0 c10)], (.slice none 0 0), .bool true, .int .i64 0]) (by simp [results, Try.results43, go_sem, r0, r1, r2, r3]) rfl ?_
    rw [HX.out]
    refine ⟨A10, c10, none, 0, ?_, ?_, ?_, (fun q _ e => by simp [blk] at e), hB7⟩
    · rfl
    · exact hO7
    · exact Own.none_ _ _ _ _

set_option maxHeartbeats 6400000 in
set_option maxRecDepth 100000 in
theorem pj_gap_n_2 (ap nx : Int) (l : List UInt8) (A : Option Addr) (n c : Nat) (u s : Bool) (pc : Int) (D : List UInt8) (B : Option Addr) (m d : Nat) (w : World) (hD : D.length = m) (hb : Rd w B (bvs D))
    (hl : l.length = n) (ha : Rd w A (bvs l)) (g5 : 0 < n) (g6 : n ≤ 1048576) (g3 : 0 ≤ nx) (g4 : nx ≤ 16383) (c0 : 0 ≤ pc) (c1 : pc ≤ 16383) (m1 : 1 ≤ m) (m2 : m ≤ 65536) (hgap : nx ≠ pc) (hok : jnOk ⟨ap, nx, true, l⟩) (hmay : pktMay ⟨u, s, ap, 2, pc, D⟩ = 0) :
    Calls Try.prog 43 #[.agg #[.int .i64 ap, .int .i64 nx, .bool true, .slice A n c], .agg #[.bool u, .bool s, .int .i64 ap, .int .i64 2, .int .i64 pc, .slice B m d]] w fun e w' => JRes w w' (⟨ap, (pc + 1) % 16384, false, []⟩, [], true, 0) e := by
  have HL := Lib.hid hl
  have HD := Lib.hid hD
  have hm := Lib.hid (fun w => hmay ▸ pmay_any ⟨u, s, ap, 2, pc, D⟩ B m d w hD)
  have hS := Lib.hid (fun w => decide_eq_true hok ▸ stands_any ap nx true l A n c w hl)
  have HX := Lib.hid (mask14_3 pc c0 c1)
  have m1i : (0 : Int) < (m : Int) := by omega
  have z8 : decide (0 ≤ nx) = true := by simp; omega
  have z10 : (nx != pc) = true := by simpa using hgap
  clear hl hD hmay hok
  go_enter Try.func43, Try.ntmps43
  go_wp2_with fail
  refine (hS.out _).mono ?_
  rintro e w1 ⟨rfl, hb1⟩
  obtain ⟨hJ, hP, hZ, hBw, hW0⟩ := boxes3 w #[.int .i64 ap, .int .i64 nx, .bool true, .slice A n c] #[.bool u, .bool s, .int .i64 ap, .int .i64 2, .int .i64 pc, .slice B m d] #[.int .i64 0, .int .i64 0, .bool false, .slice none 0 0] 70 34 70
  replace hJ := hJ.below' hb1
  replace hP := hP.below' hb1
  replace hZ := hZ.below' hb1
  have hB1 : Below w.heap.size w w1 := hBw.trans (hb1.mono (by omega))
  have zw1 : w.heap.size + 3 ≤ w1.heap.size := by have := hb1.size; omega
  clear hb1 hBw hW0
  obtain ⟨y0, y1, y2, y3, y4, y5, yf⟩ := hP.six
  go_wp2_with fail
  refine (hm.out _).mono ?_
  rintro e w2 ⟨rfl, hb2⟩
  clear y0 y1 y2 y3 y4 y5 yf
  replace hJ := hJ.below' hb2
  replace hP := hP.below' hb2
  replace hZ := hZ.below' hb2
  have zw2 := hb2.size
  have hB2 := nextB hB1 hB1.size hb2
  clear hb2 hB1
  obtain ⟨x0, x1, x2, x3, xf⟩ := hJ.four
  obtain ⟨y0, y1, y2, y3, y4, y5, yf⟩ := hP.six
  go_upto_region 9 with fail
  obtain ⟨W3, hW3⟩ : ∃ W : World, W = w2.alloc (.cells #[.int .i64 ap, .int .i64 nx, .bool true, .slice A n c, .bool false] 142) := ⟨_, rfl⟩
  rw [← hW3]
  have hK : Blk W3 w2.heap.size 142 #[.int .i64 ap, .int .i64 nx, .bool true, .slice A n c, .bool false] := by rw [hW3]; exact Blk.new _ _ _
  have hb3 : Below w2.heap.size w2 W3 := by rw [hW3]; exact (Below.refl _ _).alloc (Nat.le_refl _) _
  have zw3 : w2.heap.size + 1 ≤ W3.heap.size := by rw [hW3]; simp
  clear hW3 x0 x1 x2 x3 xf y0 y1 y2 y3 y4 y5 yf
  replace hP := hP.below' hb3
  replace hZ := hZ.below' hb3
  have hB3 := nextB hB2 hB2.size hb3
  generalize w2.heap.size = g at *
  clear hB2 hb3 hJ
  obtain ⟨y0, y1, y2, y3, y4, y5, yf⟩ := hP.six
  obtain ⟨k0, k1, k2, k3, k4, kf⟩ := hK.five
  go_quiet (fail)
  clear y0 y1 y2 y3 y4 y5 yf k0 k1 k2 k3 k4 kf
  replace hP := hP.drewN nq
  replace hZ := hZ.drewN nq
  replace hK := hK.drewN nq
  have hB := below_drewN hB3 nq
  have zw4 : g + 1 ≤ (W3.drewN nq).heap.size := zw3
  clear hB3 zw3
  generalize W3.drewN nq = W4 at *
  have rb := hb.below hB
  have ra := ha.below hB
  have nP : w.heap.size + 1 ≠ g := by omega
  have nZ : w.heap.size + 1 + 1 ≠ g := by omega
  have gw : w.heap.size ≤ g := by omega
  obtain ⟨y0, y1, y2, y3, y4, y5, yf⟩ := hP.six
  obtain ⟨k0, k1, k2, k3, k4, kf⟩ := hK.five
  go_wp2_with fail
  refine (drop_any ap nx true (.slice A n c) false g _ hK).mono ?_
  rintro e w5 ⟨rfl, hK2, hg2⟩
  try simp only [Bool.or_true, Bool.or_false, Bool.true_or, Bool.false_or] at hK2
  have hh : W4.grownBy w5 (some g) := grown_trans (World.grownBy.refl _ _) hg2 (.inl rfl)
  clear y0 y1 y2 y3 y4 y5 yf k0 k1 k2 k3 k4 kf hg2
  replace hP := hP.over hh (fun q hq e => by injection hq with hq; injection e with e; omega)
  replace hZ := hZ.over hh (fun q hq e => by injection hq with hq; injection e with e; omega)
  replace hB := hB.grown hh hB.size (fun q hq => by injection hq with hq; omega)
  replace rb := hb.below hB
  have zz : g + 1 ≤ w5.heap.size := by have := hh.size; omega
  clear zw4 hh
  have zw4 := zz
  clear zz hK
  have hK := hK2
  clear hK2
  obtain ⟨y0, y1, y2, y3, y4, y5, yf⟩ := hP.six
  obtain ⟨k0, k1, k2, k3, k4, kf⟩ := hK.five
  go_wp2_with fail
  refine (clone_n none [] 0 0 _ rfl (Rd.nil _ _) (by omega)).mono ?_
  rintro e w90 ⟨A10, c10, rfl, hO10, hb10⟩
  have hO10 := hO10.mono (base' := g + 1) (by first | omega | (simp; omega))
  have hK2 := (((hK.set_ 4 _).set_ 1 _).set_ 4 _).below' hb10
  have hg10 := grownBy_sub (g := g) hb10
  have hh : w5.grownBy w90 (some g) := grown_trans (grown_set (grown_set (grown_set (World.grownBy.refl _ _) _) _) _) hg10 (.inl rfl)
  clear y0 y1 y2 y3 y4 y5 yf k0 k1 k2 k3 k4 kf hg10
  replace hP := hP.over hh (fun q hq e => by injection hq with hq; injection e with e; omega)
  replace hZ := hZ.over hh (fun q hq e => by injection hq with hq; injection e with e; omega)
  replace hB := hB.grown hh hB.size (fun q hq => by injection hq with hq; omega)
  replace rb := hb.below hB
  have zz : g + 1 ≤ w90.heap.size := by have := hh.size; omega
  clear zw4 hh
  have zw4 := zz
  clear zz hK
  have hK := hK2
  clear hK2
  obtain ⟨y0, y1, y2, y3, y4, y5, yf⟩ := hP.six
  obtain ⟨k0, k1, k2, k3, k4, kf⟩ := hK.five
  have lt10 := hO10.lt
  clear hb10
  go_upto_region 23 with fail
  obtain ⟨W6, hW6⟩ : ∃ W : World, W = w90.setCell ⟨g, 3, none⟩ (.slice A10 0 c10) := ⟨_, rfl⟩
  rw [← hW6]
  have hK6 := hW6 ▸ hK.set_ 3 (.slice A10 0 c10)
  have hZ6 := hW6 ▸ hZ.far (p := ⟨g, 3, none⟩) (nZ) (.slice A10 0 c10)
  have hB6 := hW6 ▸ hB.setCell (p := ⟨g, 3, none⟩) gw (.slice A10 0 c10)
  clear k0 k1 k2 k3 k4 kf y0 y1 y2 y3 y4 y5 yf
  obtain ⟨k0, k1, k2, k3, k4, kf⟩ := hK6.five
  obtain ⟨t0, t1, t2, t3, tf⟩ := hZ6.four
  have n10 : ∀ p : Addr, p.block < g + 1 → blk A10 ≠ some p.block := fun p hp e => by have := (lt10 _ e).1; omega
  have hO6 : Own W6 (g + 1) 5 1 A10 0 c10 (bvs []) := by rw [hW6]; exact hO10.setFar (n10 _ (by simp)) _
  clear hW6
  go_region
  all_goals
    obtain ⟨W7, hW7⟩ : ∃ W : World, W = ((((W6.setCell ⟨w.heap.size + 1 + 1, 0, none⟩ (.int .i64 ap)).setCell ⟨w.heap.size + 1 + 1, 1, none⟩ (.int .i64 (bits .and .i64 (pc + 1) 16383))).setCell ⟨w.heap.size + 1 + 1, 2, none⟩ (.bool false)).setCell ⟨w.heap.size + 1 + 1, 3, none⟩ (.slice A10 0 c10)).drew := ⟨_, rfl⟩
    rw [← hW7]
    have hZ7 : Blk W7 (w.heap.size + 1 + 1) 70 #[.int .i64 ap, .int .i64 (bits .and .i64 (pc + 1) 16383), .bool false, (.slice A10 0 c10)] := by rw [hW7]; exact ((((hZ6.set_ 0 _).set_ 1 _).set_ 2 _).set_ 3 _).drew
    have hB7 : Below w.heap.size w W7 := by rw [hW7]; exact ((((hB6.setCell (by simp; omega) _).setCell (by simp; omega) _).setCell (by simp; omega) _).setCell (by simp; omega) _).drew
    have hO7 : Own W7 w.heap.size 5 1 A10 0 c10 (bvs []) := by rw [hW7]; exact (((((hO6.setFar (n10 _ (by simp; omega)) _).setFar (n10 _ (by simp; omega)) _).setFar (n10 _ (by simp; omega)) _).setFar (n10 _ (by simp; omega)) _).drew).mono (by omega)
    clear hW7 k0 k1 k2 k3 k4 kf t0 t1 t2 t3 tf
    obtain ⟨r0, r1, r2, r3, rf⟩ := hZ7.four
    go_wp2
    refine bodyPost_ret (v := .tuple #[.agg #[.int .i64 ap, .int .i64 (bits .and .i64 (pc + 1) 16383), .bool false, (.slice A10 0 c10)], (.slice none 0 0), .bool true, .int .i64 0]) (by simp [results, Try.results43, go_sem, r0, r1, r2, r3]) rfl ?_
    rw [HX.out]
    refine ⟨A10, c10, none, 0, ?_, ?_, ?_, (fun q _ e => by simp [blk] at e), hB7⟩
    · rfl
    · exact hO7
    · exact Own.none_ _ _ _ _

set_option maxHeartbeats 6400000 in
set_option maxRecDepth 100000 in
theorem pj_gap_0_3 (ap nx : Int) (A : Option Addr) (c : Nat) (u s : Bool) (pc : Int) (D : List UInt8) (B : Option Addr) (m d : Nat) (w : World) (hD : D.length = m) (hb : Rd w B (bvs D))
    (g3 : 0 ≤ nx) (g4 : nx ≤ 16383) (c0 : 0 ≤ pc) (c1 : pc ≤ 16383) (m1 : 1 ≤ m) (m2 : m ≤ 65536) (hgap : nx ≠ pc) (hok : jnOk ⟨ap, nx, false, []⟩) (hmay : pktMay ⟨u, s, ap, 3, pc, D⟩ = 0) :
    Calls Try.prog 43 #[.agg #[.int .i64 ap, .int .i64 nx, .bool false, .slice A 0 c], .agg #[.bool u, .bool s, .int .i64 ap, .int .i64 3, .int .i64 pc, .slice B m d]] w fun e w' => JRes w w' (⟨ap, (pc + 1) % 16384, false, []⟩, D, true, 0) e := by
  have HD := Lib.hid hD
  have hm := Lib.hid (fun w => hmay ▸ pmay_any ⟨u, s, ap, 3, pc, D⟩ B m d w hD)
  have hS := Lib.hid (fun w => decide_eq_true hok ▸ stands_any ap nx false [] A 0 c w rfl)
  have HX := Lib.hid (mask14_3 pc c0 c1)
  have m1i : (0 : Int) < (m : Int) := by omega
  have z8 : decide (0 ≤ nx) = true := by simp; omega
  have z10 : (nx != pc) = true := by simpa using hgap
  clear hD hmay hok
  go_enter Try.func43, Try.ntmps43
  go_wp2_with fail
  refine (hS.out _).mono ?_
  rintro e w1 ⟨rfl, hb1⟩
  obtain ⟨hJ, hP, hZ, hBw, hW0⟩ := boxes3 w #[.int .i64 ap, .int .i64 nx, .bool false, .slice A 0 c] #[.bool u, .bool s, .int .i64 ap, .int .i64 3, .int .i64 pc, .slice B m d] #[.int .i64 0, .int .i64 0, .bool false, .slice none 0 0] 70 34 70
  replace hJ := hJ.below' hb1
  replace hP := hP.below' hb1
  replace hZ := hZ.below' hb1
  have hB1 : Below w.heap.size w w1 := hBw.trans (hb1.mono (by omega))
  have zw1 : w.heap.size + 3 ≤ w1.heap.size := by have := hb1.size; omega
  clear hb1 hBw hW0
  obtain ⟨y0, y1, y2, y3, y4, y5, yf⟩ := hP.six
  go_wp2_with fail
  refine (hm.out _).mono ?_
  rintro e w2 ⟨rfl, hb2⟩
  clear y0 y1 y2 y3 y4 y5 yf
  replace hJ := hJ.below' hb2
  replace hP := hP.below' hb2
  replace hZ := hZ.below' hb2
  have zw2 := hb2.size
  have hB2 := nextB hB1 hB1.size hb2
  clear hb2 hB1
  obtain ⟨x0, x1, x2, x3, xf⟩ := hJ.four
  obtain ⟨y0, y1, y2, y3, y4, y5, yf⟩ := hP.six
  go_upto_region 9 with fail
  obtain ⟨W3, hW3⟩ : ∃ W : World, W = w2.alloc (.cells #[.int .i64 ap, .int .i64 nx, .bool false, .slice A 0 c, .bool false] 142) := ⟨_, rfl⟩
  rw [← hW3]
  have hK : Blk W3 w2.heap.size 142 #[.int .i64 ap, .int .i64 nx, .bool false, .slice A 0 c, .bool false] := by rw [hW3]; exact Blk.new _ _ _
  have hb3 : Below w2.heap.size w2 W3 := by rw [hW3]; exact (Below.refl _ _).alloc (Nat.le_refl _) _
  have zw3 : w2.heap.size + 1 ≤ W3.heap.size := by rw [hW3]; simp
  clear hW3 x0 x1 x2 x3 xf y0 y1 y2 y3 y4 y5 yf
  replace hP := hP.below' hb3
  replace hZ := hZ.below' hb3
  have hB3 := nextB hB2 hB2.size hb3
  generalize w2.heap.size = g at *
  clear hB2 hb3 hJ
  obtain ⟨y0, y1, y2, y3, y4, y5, yf⟩ := hP.six
  obtain ⟨k0, k1, k2, k3, k4, kf⟩ := hK.five
  go_quiet (fail)
  clear y0 y1 y2 y3 y4 y5 yf k0 k1 k2 k3 k4 kf
  replace hP := hP.drewN nq
  replace hZ := hZ.drewN nq
  replace hK := hK.drewN nq
  have hB := below_drewN hB3 nq
  have zw4 : g + 1 ≤ (W3.drewN nq).heap.size := zw3
  clear hB3 zw3
  generalize W3.drewN nq = W4 at *
  have rb := hb.below hB
  have nP : w.heap.size + 1 ≠ g := by omega
  have nZ : w.heap.size + 1 + 1 ≠ g := by omega
  have gw : w.heap.size ≤ g := by omega
  obtain ⟨y0, y1, y2, y3, y4, y5, yf⟩ := hP.six
  obtain ⟨k0, k1, k2, k3, k4, kf⟩ := hK.five
  go_wp2_with fail
  refine (drop_any ap nx false (.slice A 0 c) false g _ hK).mono ?_
  rintro e w5 ⟨rfl, hK2, hg2⟩
  try simp only [Bool.or_true, Bool.or_false, Bool.true_or, Bool.false_or] at hK2
  have hh : W4.grownBy w5 (some g) := grown_trans (World.grownBy.refl _ _) hg2 (.inl rfl)
  clear y0 y1 y2 y3 y4 y5 yf k0 k1 k2 k3 k4 kf hg2
  replace hP := hP.over hh (fun q hq e => by injection hq with hq; injection e with e; omega)
  replace hZ := hZ.over hh (fun q hq e => by injection hq with hq; injection e with e; omega)
  replace hB := hB.grown hh hB.size (fun q hq => by injection hq with hq; omega)
  replace rb := hb.below hB
  have zz : g + 1 ≤ w5.heap.size := by have := hh.size; omega
  clear zw4 hh
  have zw4 := zz
  clear zz hK
  have hK := hK2
  clear hK2
  obtain ⟨y0, y1, y2, y3, y4, y5, yf⟩ := hP.six
  obtain ⟨k0, k1, k2, k3, k4, kf⟩ := hK.five
  go_wp2_with fail
  refine (drop_any ap (bits .and .i64 (pc + 1) 16383) false (.slice none 0 0) true g _ ((hK.set_ 4 _).set_ 1 _)).mono ?_
  rintro e w6 ⟨rfl, hK2, hg2⟩
  try simp only [Bool.or_true, Bool.or_false, Bool.true_or, Bool.false_or] at hK2
  have hh : w5.grownBy w6 (some g) := grown_trans (grown_set (grown_set (World.grownBy.refl _ _) _) _) hg2 (.inl rfl)
  clear y0 y1 y2 y3 y4 y5 yf k0 k1 k2 k3 k4 kf hg2
  replace hP := hP.over hh (fun q hq e => by injection hq with hq; injection e with e; omega)
  replace hZ := hZ.over hh (fun q hq e => by injection hq with hq; injection e with e; omega)
  replace hB := hB.grown hh hB.size (fun q hq => by injection hq with hq; omega)
  replace rb := hb.below hB
  have zz : g + 1 ≤ w6.heap.size := by have := hh.size; omega
  clear zw4 hh
  have zw4 := zz
  clear zz hK
  have hK := hK2
  clear hK2
  obtain ⟨y0, y1, y2, y3, y4, y5, yf⟩ := hP.six
  obtain ⟨k0, k1, k2, k3, k4, kf⟩ := hK.five
  go_wp2_with fail
  refine (add_fit ap (bits .and .i64 (pc + 1) 16383) false [] none 0 0 true D B m d g _ rfl HD.out (by omega) m2 (Rd.nil _ _) rb hK (by omega)).mono ?_
  rintro e w7 ⟨rfl, hg2, A9, c9, hK2, hO9⟩
  have hO9 := hO9.mono (base' := g + 1) (by first | omega | (simp; omega))
  rw [List.nil_append, Nat.zero_add] at hO9
  rw [Nat.zero_add] at hK2
  have hh : w6.grownBy w7 (some g) := grown_trans (World.grownBy.refl _ _) hg2 (.inl rfl)
  clear y0 y1 y2 y3 y4 y5 yf k0 k1 k2 k3 k4 kf hg2
  replace hP := hP.over hh (fun q hq e => by injection hq with hq; injection e with e; omega)
  replace hZ := hZ.over hh (fun q hq e => by injection hq with hq; injection e with e; omega)
  replace hB := hB.grown hh hB.size (fun q hq => by injection hq with hq; omega)
  replace rb := hb.below hB
  have zz : g + 1 ≤ w7.heap.size := by have := hh.size; omega
  clear zw4 hh
  have zw4 := zz
  clear zz hK
  have hK := hK2
  clear hK2
  obtain ⟨y0, y1, y2, y3, y4, y5, yf⟩ := hP.six
  obtain ⟨k0, k1, k2, k3, k4, kf⟩ := hK.five
  have hO8 := hO9
  have hlt9 := hO9.lt
  go_wp2_with fail
  refine (take_any ap (bits .and .i64 (pc + 1) 16383) true A9 m c9 true g _ hK).mono ?_
  rintro e w8 ⟨rfl, hK2, hg2⟩
  replace hO9 := hO9.over hg2 (fun q hq e => by injection hq with hq; have := (hlt9 _ e).1; omega)
  clear hO8 hlt9
  have hh : w7.grownBy w8 (some g) := grown_trans (World.grownBy.refl _ _) hg2 (.inl rfl)
  clear y0 y1 y2 y3 y4 y5 yf k0 k1 k2 k3 k4 kf hg2
  replace hP := hP.over hh (fun q hq e => by injection hq with hq; injection e with e; omega)
  replace hZ := hZ.over hh (fun q hq e => by injection hq with hq; injection e with e; omega)
  replace hB := hB.grown hh hB.size (fun q hq => by injection hq with hq; omega)
  replace rb := hb.below hB
  have zz : g + 1 ≤ w8.heap.size := by have := hh.size; omega
  clear zw4 hh
  have zw4 := zz
  clear zz hK
  have hK := hK2
  clear hK2
  obtain ⟨y0, y1, y2, y3, y4, y5, yf⟩ := hP.six
  obtain ⟨k0, k1, k2, k3, k4, kf⟩ := hK.five
  go_wp2_with fail
  refine (clone_n none [] 0 0 _ rfl (Rd.nil _ _) (by omega)).mono ?_
  rintro e w90 ⟨A10, c10, rfl, hO10, hb10⟩
  have dis : ∀ q, blk A10 = some q → blk A9 ≠ some q := fun q h1 h2 => by have := (hO10.lt q h1).1; have := (hO9.lt q h2).2; omega
  have hO10 := hO10.mono (base' := g + 1) (by first | omega | (simp; omega))
  have hK2 := hK.below' hb10
  have hO9 := hO9.step hb10
  have hg10 := grownBy_sub (g := g) hb10
  have hh : w8.grownBy w90 (some g) := grown_trans (World.grownBy.refl _ _) hg10 (.inl rfl)
  clear y0 y1 y2 y3 y4 y5 yf k0 k1 k2 k3 k4 kf hg10
  replace hP := hP.over hh (fun q hq e => by injection hq with hq; injection e with e; omega)
  replace hZ := hZ.over hh (fun q hq e => by injection hq with hq; injection e with e; omega)
  replace hB := hB.grown hh hB.size (fun q hq => by injection hq with hq; omega)
  replace rb := hb.below hB
  have zz : g + 1 ≤ w90.heap.size := by have := hh.size; omega
  clear zw4 hh
  have zw4 := zz
  clear zz hK
  have hK := hK2
  clear hK2
  obtain ⟨y0, y1, y2, y3, y4, y5, yf⟩ := hP.six
  obtain ⟨k0, k1, k2, k3, k4, kf⟩ := hK.five
  have lt10 := hO10.lt
  have lt9 := hO9.lt
  clear hb10
  go_upto_region 23 with fail
  obtain ⟨W6, hW6⟩ : ∃ W : World, W = w90.setCell ⟨g, 3, none⟩ (.slice A10 0 c10) := ⟨_, rfl⟩
  rw [← hW6]
  have hK6 := hW6 ▸ hK.set_ 3 (.slice A10 0 c10)
  have hZ6 := hW6 ▸ hZ.far (p := ⟨g, 3, none⟩) (nZ) (.slice A10 0 c10)
  have hB6 := hW6 ▸ hB.setCell (p := ⟨g, 3, none⟩) gw (.slice A10 0 c10)
  clear k0 k1 k2 k3 k4 kf y0 y1 y2 y3 y4 y5 yf
  obtain ⟨k0, k1, k2, k3, k4, kf⟩ := hK6.five
  obtain ⟨t0, t1, t2, t3, tf⟩ := hZ6.four
  have n10 : ∀ p : Addr, p.block < g + 1 → blk A10 ≠ some p.block := fun p hp e => by have := (lt10 _ e).1; omega
  have hO6 : Own W6 (g + 1) 5 1 A10 0 c10 (bvs []) := by rw [hW6]; exact hO10.setFar (n10 _ (by simp)) _
  have n9 : ∀ p : Addr, p.block < g + 1 → blk A9 ≠ some p.block := fun p hp e => by have := (lt9 _ e).1; omega
  have hV6 : Own W6 (g + 1) 5 1 A9 m c9 (bvs D) := by rw [hW6]; exact hO9.setFar (n9 _ (by simp)) _
  clear hW6
  go_region
  all_goals
    obtain ⟨W7, hW7⟩ : ∃ W : World, W = ((((W6.setCell ⟨w.heap.size + 1 + 1, 0, none⟩ (.int .i64 ap)).setCell ⟨w.heap.size + 1 + 1, 1, none⟩ (.int .i64 (bits .and .i64 (pc + 1) 16383))).setCell ⟨w.heap.size + 1 + 1, 2, none⟩ (.bool false)).setCell ⟨w.heap.size + 1 + 1, 3, none⟩ (.slice A10 0 c10)).drew := ⟨_, rfl⟩
    rw [← hW7]
    have hZ7 : Blk W7 (w.heap.size + 1 + 1) 70 #[.int .i64 ap, .int .i64 (bits .and .i64 (pc + 1) 16383), .bool false, (.slice A10 0 c10)] := by rw [hW7]; exact ((((hZ6.set_ 0 _).set_ 1 _).set_ 2 _).set_ 3 _).drew
    have hB7 : Below w.heap.size w W7 := by rw [hW7]; exact ((((hB6.setCell (by simp; omega) _).setCell (by simp; omega) _).setCell (by simp; omega) _).setCell (by simp; omega) _).drew
    have hO7 : Own W7 w.heap.size 5 1 A10 0 c10 (bvs []) := by rw [hW7]; exact (((((hO6.setFar (n10 _ (by simp; omega)) _).setFar (n10 _ (by simp; omega)) _).setFar (n10 _ (by simp; omega)) _).setFar (n10 _ (by simp; omega)) _).drew).mono (by omega)
    have hV7 : Own W7 w.heap.size 5 1 A9 m c9 (bvs D) := by rw [hW7]; exact (((((hV6.setFar (n9 _ (by simp; omega)) _).setFar (n9 _ (by simp; omega)) _).setFar (n9 _ (by simp; omega)) _).setFar (n9 _ (by simp; omega)) _).drew).mono (by omega)
    clear hW7 k0 k1 k2 k3 k4 kf t0 t1 t2 t3 tf
    obtain ⟨r0, r1, r2, r3, rf⟩ := hZ7.four
    go_wp2
    refine bodyPost_ret (v := .tuple #[.agg #[.int .i64 ap, .int .i64 (bits .and .i64 (pc + 1) 16383), .bool false, (.slice A10 0 c10)], (.slice A9 m c9), .bool true, .int .i64 0]) (by simp [results, Try.results43, go_sem, r0, r1, r2, r3]) rfl ?_
    rw [HX.out]
    refine ⟨A10, c10, A9, c9, ?_, ?_, ?_, dis, hB7⟩
    · unfold jnv
      simp only [HD.out, List.length_nil]
    · exact hO7
    · show Own _ _ _ _ _ (List.length _) _ _
      rw [HD.out]
      exact hV7

set_option maxHeartbeats 6400000 in
set_option maxRecDepth 100000 in
theorem pj_gap_0_1 (ap nx : Int) (A : Option Addr) (c : Nat) (u s : Bool) (pc : Int) (D : List UInt8) (B : Option Addr) (m d : Nat) (w : World) (hD : D.length = m) (hb : Rd w B (bvs D))
    (g3 : 0 ≤ nx) (g4 : nx ≤ 16383) (c0 : 0 ≤ pc) (c1 : pc ≤ 16383) (m1 : 1 ≤ m) (m2 : m ≤ 65536) (hgap : nx ≠ pc) (hok : jnOk ⟨ap, nx, false, []⟩) (hmay : pktMay ⟨u, s, ap, 1, pc, D⟩ = 0) :
    Calls Try.prog 43 #[.agg #[.int .i64 ap, .int .i64 nx, .bool false, .slice A 0 c], .agg #[.bool u, .bool s, .int .i64 ap, .int .i64 1, .int .i64 pc, .slice B m d]] w fun e w' => JRes w w' (⟨ap, (pc + 1) % 16384, true, D⟩, [], true, 0) e := by
  have HD := Lib.hid hD
  have hm := Lib.hid (fun w => hmay ▸ pmay_any ⟨u, s, ap, 1, pc, D⟩ B m d w hD)
  have hS := Lib.hid (fun w => decide_eq_true hok ▸ stands_any ap nx false [] A 0 c w rfl)
  have HX := Lib.hid (mask14_3 pc c0 c1)
  have m1i : (0 : Int) < (m : Int) := by omega
  have z8 : decide (0 ≤ nx) = true := by simp; omega
  have z10 : (nx != pc) = true := by simpa using hgap
  clear hD hmay hok
  go_enter Try.func43, Try.ntmps43
  go_wp2_with fail
  refine (hS.out _).mono ?_
  rintro e w1 ⟨rfl, hb1⟩
  obtain ⟨hJ, hP, hZ, hBw, hW0⟩ := boxes3 w #[.int .i64 ap, .int .i64 nx, .bool false, .slice A 0 c] #[.bool u, .bool s, .int .i64 ap, .int .i64 1, .int .i64 pc, .slice B m d] #[.int .i64 0, .int .i64 0, .bool false, .slice none 0 0] 70 34 70
  replace hJ := hJ.below' hb1
  replace hP := hP.below' hb1
  replace hZ := hZ.below' hb1
  have hB1 : Below w.heap.size w w1 := hBw.trans (hb1.mono (by omega))
  have zw1 : w.heap.size + 3 ≤ w1.heap.size := by have := hb1.size; omega
  clear hb1 hBw hW0
  obtain ⟨y0, y1, y2, y3, y4, y5, yf⟩ := hP.six
  go_wp2_with fail
  refine (hm.out _).mono ?_
  rintro e w2 ⟨rfl, hb2⟩
  clear y0 y1 y2 y3 y4 y5 yf
  replace hJ := hJ.below' hb2
  replace hP := hP.below' hb2
  replace hZ := hZ.below' hb2
  have zw2 := hb2.size
  have hB2 := nextB hB1 hB1.size hb2
  clear hb2 hB1
  obtain ⟨x0, x1, x2, x3, xf⟩ := hJ.four
  obtain ⟨y0, y1, y2, y3, y4, y5, yf⟩ := hP.six
  go_upto_region 9 with fail
  obtain ⟨W3, hW3⟩ : ∃ W : World, W = w2.alloc (.cells #[.int .i64 ap, .int .i64 nx, .bool false, .slice A 0 c, .bool false] 142) := ⟨_, rfl⟩
  rw [← hW3]
  have hK : Blk W3 w2.heap.size 142 #[.int .i64 ap, .int .i64 nx, .bool false, .slice A 0 c, .bool false] := by rw [hW3]; exact Blk.new _ _ _
  have hb3 : Below w2.heap.size w2 W3 := by rw [hW3]; exact (Below.refl _ _).alloc (Nat.le_refl _) _
  have zw3 : w2.heap.size + 1 ≤ W3.heap.size := by rw [hW3]; simp
  clear hW3 x0 x1 x2 x3 xf y0 y1 y2 y3 y4 y5 yf
  replace hP := hP.below' hb3
  replace hZ := hZ.below' hb3
  have hB3 := nextB hB2 hB2.size hb3
  generalize w2.heap.size = g at *
  clear hB2 hb3 hJ
  obtain ⟨y0, y1, y2, y3, y4, y5, yf⟩ := hP.six
  obtain ⟨k0, k1, k2, k3, k4, kf⟩ := hK.five
  go_quiet (fail)
  clear y0 y1 y2 y3 y4 y5 yf k0 k1 k2 k3 k4 kf
  replace hP := hP.drewN nq
  replace hZ := hZ.drewN nq
  replace hK := hK.drewN nq
  have hB := below_drewN hB3 nq
  have zw4 : g + 1 ≤ (W3.drewN nq).heap.size := zw3
  clear hB3 zw3
  generalize W3.drewN nq = W4 at *
  have rb := hb.below hB
  have nP : w.heap.size + 1 ≠ g := by omega
  have nZ : w.heap.size + 1 + 1 ≠ g := by omega
  have gw : w.heap.size ≤ g := by omega
  obtain ⟨y0, y1, y2, y3, y4, y5, yf⟩ := hP.six
  obtain ⟨k0, k1, k2, k3, k4, kf⟩ := hK.five
  go_wp2_with fail
  refine (drop_any ap nx false (.slice A 0 c) false g _ hK).mono ?_
  rintro e w5 ⟨rfl, hK2, hg2⟩
  try simp only [Bool.or_true, Bool.or_false, Bool.true_or, Bool.false_or] at hK2
  have hh : W4.grownBy w5 (some g) := grown_trans (World.grownBy.refl _ _) hg2 (.inl rfl)
  clear y0 y1 y2 y3 y4 y5 yf k0 k1 k2 k3 k4 kf hg2
  replace hP := hP.over hh (fun q hq e => by injection hq with hq; injection e with e; omega)
  replace hZ := hZ.over hh (fun q hq e => by injection hq with hq; injection e with e; omega)
  replace hB := hB.grown hh hB.size (fun q hq => by injection hq with hq; omega)
  replace rb := hb.below hB
  have zz : g + 1 ≤ w5.heap.size := by have := hh.size; omega
  clear zw4 hh
  have zw4 := zz
  clear zz hK
  have hK := hK2
  clear hK2
  obtain ⟨y0, y1, y2, y3, y4, y5, yf⟩ := hP.six
  obtain ⟨k0, k1, k2, k3, k4, kf⟩ := hK.five
  go_wp2_with fail
  refine (drop_any ap (bits .and .i64 (pc + 1) 16383) false (.slice none 0 0) true g _ ((hK.set_ 4 _).set_ 1 _)).mono ?_
  rintro e w6 ⟨rfl, hK2, hg2⟩
  try simp only [Bool.or_true, Bool.or_false, Bool.true_or, Bool.false_or] at hK2
  have hh : w5.grownBy w6 (some g) := grown_trans (grown_set (grown_set (World.grownBy.refl _ _) _) _) hg2 (.inl rfl)
  clear y0 y1 y2 y3 y4 y5 yf k0 k1 k2 k3 k4 kf hg2
  replace hP := hP.over hh (fun q hq e => by injection hq with hq; injection e with e; omega)
  replace hZ := hZ.over hh (fun q hq e => by injection hq with hq; injection e with e; omega)
  replace hB := hB.grown hh hB.size (fun q hq => by injection hq with hq; omega)
  replace rb := hb.below hB
  have zz : g + 1 ≤ w6.heap.size := by have := hh.size; omega
  clear zw4 hh
  have zw4 := zz
  clear zz hK
  have hK := hK2
  clear hK2
  obtain ⟨y0, y1, y2, y3, y4, y5, yf⟩ := hP.six
  obtain ⟨k0, k1, k2, k3, k4, kf⟩ := hK.five
  go_wp2_with fail
  refine (add_fit ap (bits .and .i64 (pc + 1) 16383) false [] none 0 0 true D B m d g _ rfl HD.out (by omega) m2 (Rd.nil _ _) rb hK (by omega)).mono ?_
  rintro e w7 ⟨rfl, hg2, A9, c9, hK2, hO9⟩
  have hO9 := hO9.mono (base' := g + 1) (by first | omega | (simp; omega))
  rw [List.nil_append, Nat.zero_add] at hO9
  rw [Nat.zero_add] at hK2
  have hh : w6.grownBy w7 (some g) := grown_trans (World.grownBy.refl _ _) hg2 (.inl rfl)
  clear y0 y1 y2 y3 y4 y5 yf k0 k1 k2 k3 k4 kf hg2
  replace hP := hP.over hh (fun q hq e => by injection hq with hq; injection e with e; omega)
  replace hZ := hZ.over hh (fun q hq e => by injection hq with hq; injection e with e; omega)
  replace hB := hB.grown hh hB.size (fun q hq => by injection hq with hq; omega)
  replace rb := hb.below hB
  have zz : g + 1 ≤ w7.heap.size := by have := hh.size; omega
  clear zw4 hh
  have zw4 := zz
  clear zz hK
  have hK := hK2
  clear hK2
  obtain ⟨y0, y1, y2, y3, y4, y5, yf⟩ := hP.six
  obtain ⟨k0, k1, k2, k3, k4, kf⟩ := hK.five
  go_wp2_with fail
  refine (clone_n A9 D m c9 _ HD.out hO9.rd (by omega)).mono ?_
  rintro e w90 ⟨A10, c10, rfl, hO10, hb10⟩
  have hO10 := hO10.mono (base' := g + 1) (by first | omega | (simp; omega))
  have hK2 := hK.below' hb10
  have hO9 := hO9.step hb10
  have hg10 := grownBy_sub (g := g) hb10
  have hh : w7.grownBy w90 (some g) := grown_trans (World.grownBy.refl _ _) hg10 (.inl rfl)
  clear y0 y1 y2 y3 y4 y5 yf k0 k1 k2 k3 k4 kf hg10
  replace hP := hP.over hh (fun q hq e => by injection hq with hq; injection e with e; omega)
  replace hZ := hZ.over hh (fun q hq e => by injection hq with hq; injection e with e; omega)
  replace hB := hB.grown hh hB.size (fun q hq => by injection hq with hq; omega)
  replace rb := hb.below hB
  have zz : g + 1 ≤ w90.heap.size := by have := hh.size; omega
  clear zw4 hh
  have zw4 := zz
  clear zz hK
  have hK := hK2
  clear hK2
  obtain ⟨y0, y1, y2, y3, y4, y5, yf⟩ := hP.six
  obtain ⟨k0, k1, k2, k3, k4, kf⟩ := hK.five
  have lt10 := hO10.lt
  have lt9 := hO9.lt
  clear hb10
  go_upto_region 23 with fail
  obtain ⟨W6, hW6⟩ : ∃ W : World, W = w90.setCell ⟨g, 3, none⟩ (.slice A10 m c10) := ⟨_, rfl⟩
  rw [← hW6]
  have hK6 := hW6 ▸ hK.set_ 3 (.slice A10 m c10)
  have hZ6 := hW6 ▸ hZ.far (p := ⟨g, 3, none⟩) (nZ) (.slice A10 m c10)
  have hB6 := hW6 ▸ hB.setCell (p := ⟨g, 3, none⟩) gw (.slice A10 m c10)
  clear k0 k1 k2 k3 k4 kf y0 y1 y2 y3 y4 y5 yf
  obtain ⟨k0, k1, k2, k3, k4, kf⟩ := hK6.five
  obtain ⟨t0, t1, t2, t3, tf⟩ := hZ6.four
  have n10 : ∀ p : Addr, p.block < g + 1 → blk A10 ≠ some p.block := fun p hp e => by have := (lt10 _ e).1; omega
  have hO6 : Own W6 (g + 1) 5 1 A10 m c10 (bvs D) := by rw [hW6]; exact hO10.setFar (n10 _ (by simp)) _
  clear hW6
  go_region
  all_goals
    obtain ⟨W7, hW7⟩ : ∃ W : World, W = ((((W6.setCell ⟨w.heap.size + 1 + 1, 0, none⟩ (.int .i64 ap)).setCell ⟨w.heap.size + 1 + 1, 1, none⟩ (.int .i64 (bits .and .i64 (pc + 1) 16383))).setCell ⟨w.heap.size + 1 + 1, 2, none⟩ (.bool true)).setCell ⟨w.heap.size + 1 + 1, 3, none⟩ (.slice A10 m c10)).drew := ⟨_, rfl⟩
    rw [← hW7]
    have hZ7 : Blk W7 (w.heap.size + 1 + 1) 70 #[.int .i64 ap, .int .i64 (bits .and .i64 (pc + 1) 16383), .bool true, (.slice A10 m c10)] := by rw [hW7]; exact ((((hZ6.set_ 0 _).set_ 1 _).set_ 2 _).set_ 3 _).drew
    have hB7 : Below w.heap.size w W7 := by rw [hW7]; exact ((((hB6.setCell (by simp; omega) _).setCell (by simp; omega) _).setCell (by simp; omega) _).setCell (by simp; omega) _).drew
    have hO7 : Own W7 w.heap.size 5 1 A10 m c10 (bvs D) := by rw [hW7]; exact (((((hO6.setFar (n10 _ (by simp; omega)) _).setFar (n10 _ (by simp; omega)) _).setFar (n10 _ (by simp; omega)) _).setFar (n10 _ (by simp; omega)) _).drew).mono (by omega)
    clear hW7 k0 k1 k2 k3 k4 kf t0 t1 t2 t3 tf
    obtain ⟨r0, r1, r2, r3, rf⟩ := hZ7.four
    go_wp2
    refine bodyPost_ret (v := .tuple #[.agg #[.int .i64 ap, .int .i64 (bits .and .i64 (pc + 1) 16383), .bool true, (.slice A10 m c10)], (.slice none 0 0), .bool true, .int .i64 0]) (by simp [results, Try.results43, go_sem, r0, r1, r2, r3]) rfl ?_
    rw [HX.out]
    refine ⟨A10, c10, none, 0, ?_, ?_, ?_, (fun q _ e => by simp [blk] at e), hB7⟩
    · unfold jnv
      simp only [HD.out, List.length_nil]
    · show Own _ _ _ _ _ (List.length _) _ _
      rw [HD.out]
      exact hO7
    · exact Own.none_ _ _ _ _

set_option maxHeartbeats 6400000 in
set_option maxRecDepth 100000 in
theorem pj_gap_0_0 (ap nx : Int) (A : Option Addr) (c : Nat) (u s : Bool) (pc : Int) (D : List UInt8) (B : Option Addr) (m d : Nat) (w : World) (hD : D.length = m) (hb : Rd w B (bvs D))
    (g3 : 0 ≤ nx) (g4 : nx ≤ 16383) (c0 : 0 ≤ pc) (c1 : pc ≤ 16383) (m1 : 1 ≤ m) (m2 : m ≤ 65536) (hgap : nx ≠ pc) (hok : jnOk ⟨ap, nx, false, []⟩) (hmay : pktMay ⟨u, s, ap, 0, pc, D⟩ = 0) :
    Calls Try.prog 43 #[.agg #[.int .i64 ap, .int .i64 nx, .bool false, .slice A 0 c], .agg #[.bool u, .bool s, .int .i64 ap, .int .i64 0, .int .i64 pc, .slice B m d]] w fun e w' => JRes w w' (⟨ap, (pc + 1) % 16384, false, []⟩, [], true, 0) e := by
  have HD := Lib.hid hD
  have hm := Lib.hid (fun w => hmay ▸ pmay_any ⟨u, s, ap, 0, pc, D⟩ B m d w hD)
  have hS := Lib.hid (fun w => decide_eq_true hok ▸ stands_any ap nx false [] A 0 c w rfl)
  have HX := Lib.hid (mask14_3 pc c0 c1)
  have m1i : (0 : Int) < (m : Int) := by omega
  have z8 : decide (0 ≤ nx) = true := by simp; omega
  have z10 : (nx != pc) = true := by simpa using hgap
  clear hD hmay hok
  go_enter Try.func43, Try.ntmps43
  go_wp2_with fail
  refine (hS.out _).mono ?_
  rintro e w1 ⟨rfl, hb1⟩
  obtain ⟨hJ, hP, hZ, hBw, hW0⟩ := boxes3 w #[.int .i64 ap, .int .i64 nx, .bool false, .slice A 0 c] #[.bool u, .bool s, .int .i64 ap, .int .i64 0, .int .i64 pc, .slice B m d] #[.int .i64 0, .int .i64 0, .bool false, .slice none 0 0] 70 34 70
  replace hJ := hJ.below' hb1
  replace hP := hP.below' hb1
  replace hZ := hZ.below' hb1
  have hB1 : Below w.heap.size w w1 := hBw.trans (hb1.mono (by omega))
  have zw1 : w.heap.size + 3 ≤ w1.heap.size := by have := hb1.size; omega
  clear hb1 hBw hW0
  obtain ⟨y0, y1, y2, y3, y4, y5, yf⟩ := hP.six
  go_wp2_with fail
  refine (hm.out _).mono ?_
  rintro e w2 ⟨rfl, hb2⟩
  clear y0 y1 y2 y3 y4 y5 yf
  replace hJ := hJ.below' hb2
  replace hP := hP.below' hb2
  replace hZ := hZ.below' hb2
  have zw2 := hb2.size
  have hB2 := nextB hB1 hB1.size hb2
  clear hb2 hB1
  obtain ⟨x0, x1, x2, x3, xf⟩ := hJ.four
  obtain ⟨y0, y1, y2, y3, y4, y5, yf⟩ := hP.six
  go_upto_region 9 with fail
  obtain ⟨W3, hW3⟩ : ∃ W : World, W = w2.alloc (.cells #[.int .i64 ap, .int .i64 nx, .bool false, .slice A 0 c, .bool false] 142) := ⟨_, rfl⟩
  rw [← hW3]
  have hK : Blk W3 w2.heap.size 142 #[.int .i64 ap, .int .i64 nx, .bool false, .slice A 0 c, .bool false] := by rw [hW3]; exact Blk.new _ _ _
  have hb3 : Below w2.heap.size w2 W3 := by rw [hW3]; exact (Below.refl _ _).alloc (Nat.le_refl _) _
  have zw3 : w2.heap.size + 1 ≤ W3.heap.size := by rw [hW3]; simp
  clear hW3 x0 x1 x2 x3 xf y0 y1 y2 y3 y4 y5 yf
  replace hP := hP.below' hb3
  replace hZ := hZ.below' hb3
  have hB3 := nextB hB2 hB2.size hb3
  generalize w2.heap.size = g at *
  clear hB2 hb3 hJ
  obtain ⟨y0, y1, y2, y3, y4, y5, yf⟩ := hP.six
  obtain ⟨k0, k1, k2, k3, k4, kf⟩ := hK.five
  go_quiet (fail)
  clear y0 y1 y2 y3 y4 y5 yf k0 k1 k2 k3 k4 kf
  replace hP := hP.drewN nq
  replace hZ := hZ.drewN nq
  replace hK := hK.drewN nq
  have hB := below_drewN hB3 nq
  have zw4 : g + 1 ≤ (W3.drewN nq).heap.size := zw3
  clear hB3 zw3
  generalize W3.drewN nq = W4 at *
  have rb := hb.below hB
  have nP : w.heap.size + 1 ≠ g := by omega
  have nZ : w.heap.size + 1 + 1 ≠ g := by omega
  have gw : w.heap.size ≤ g := by omega
  obtain ⟨y0, y1, y2, y3, y4, y5, yf⟩ := hP.six
  obtain ⟨k0, k1, k2, k3, k4, kf⟩ := hK.five
  go_wp2_with fail
  refine (drop_any ap nx false (.slice A 0 c) false g _ hK).mono ?_
  rintro e w5 ⟨rfl, hK2, hg2⟩
  try simp only [Bool.or_true, Bool.or_false, Bool.true_or, Bool.false_or] at hK2
  have hh : W4.grownBy w5 (some g) := grown_trans (World.grownBy.refl _ _) hg2 (.inl rfl)
  clear y0 y1 y2 y3 y4 y5 yf k0 k1 k2 k3 k4 kf hg2
  replace hP := hP.over hh (fun q hq e => by injection hq with hq; injection e with e; omega)
  replace hZ := hZ.over hh (fun q hq e => by injection hq with hq; injection e with e; omega)
  replace hB := hB.grown hh hB.size (fun q hq => by injection hq with hq; omega)
  replace rb := hb.below hB
  have zz : g + 1 ≤ w5.heap.size := by have := hh.size; omega
  clear zw4 hh
  have zw4 := zz
  clear zz hK
  have hK := hK2
  clear hK2
  obtain ⟨y0, y1, y2, y3, y4, y5, yf⟩ := hP.six
  obtain ⟨k0, k1, k2, k3, k4, kf⟩ := hK.five
  go_wp2_with fail
  refine (clone_n none [] 0 0 _ rfl (Rd.nil _ _) (by omega)).mono ?_
  rintro e w90 ⟨A10, c10, rfl, hO10, hb10⟩
  have hO10 := hO10.mono (base' := g + 1) (by first | omega | (simp; omega))
  have hK2 := (((hK.set_ 4 _).set_ 1 _).set_ 4 _).below' hb10
  have hg10 := grownBy_sub (g := g) hb10
  have hh : w5.grownBy w90 (some g) := grown_trans (grown_set (grown_set (grown_set (World.grownBy.refl _ _) _) _) _) hg10 (.inl rfl)
  clear y0 y1 y2 y3 y4 y5 yf k0 k1 k2 k3 k4 kf hg10
  replace hP := hP.over hh (fun q hq e => by injection hq with hq; injection e with e; omega)
  replace hZ := hZ.over hh (fun q hq e => by injection hq with hq; injection e with e; omega)
  replace hB := hB.grown hh hB.size (fun q hq => by injection hq with hq; omega)
  replace rb := hb.below hB
  have zz : g + 1 ≤ w90.heap.size := by have := hh.size; omega
  clear zw4 hh
  have zw4 := zz
  clear zz hK
  have hK := hK2
  clear hK2
  obtain ⟨y0, y1, y2, y3, y4, y5, yf⟩ := hP.six
  obtain ⟨k0, k1, k2, k3, k4, kf⟩ := hK.five
  have lt10 := hO10.lt
  clear hb10
  go_upto_region 23 with fail
  obtain ⟨W6, hW6⟩ : ∃ W : World, W = w90.setCell ⟨g, 3, none⟩ (.slice A10 0 c10) := ⟨_, rfl⟩
  rw [← hW6]
  have hK6 := hW6 ▸ hK.set_ 3 (.slice A10 0 c10)
  have hZ6 := hW6 ▸ hZ.far (p := ⟨g, 3, none⟩) (nZ) (.slice A10 0 c10)
  have hB6 := hW6 ▸ hB.setCell (p := ⟨g, 3, none⟩) gw (.slice A10 0 c10)
  clear k0 k1 k2 k3 k4 kf y0 y1 y2 y3 y4 y5 yf
  obtain ⟨k0, k1, k2, k3, k4, kf⟩ := hK6.five
  obtain ⟨t0, t1, t2, t3, tf⟩ := hZ6.four
  have n10 : ∀ p : Addr, p.block < g + 1 → blk A10 ≠ some p.block := fun p hp e => by have := (lt10 _ e).1; omega
  have hO6 : Own W6 (g + 1) 5 1 A10 0 c10 (bvs []) := by rw [hW6]; exact hO10.setFar (n10 _ (by simp)) _
  clear hW6
  go_region
  all_goals
    obtain ⟨W7, hW7⟩ : ∃ W : World, W = ((((W6.setCell ⟨w.heap.size + 1 + 1, 0, none⟩ (.int .i64 ap)).setCell ⟨w.heap.size + 1 + 1, 1, none⟩ (.int .i64 (bits .and .i64 (pc + 1) 16383))).setCell ⟨w.heap.size + 1 + 1, 2, none⟩ (.bool false)).setCell ⟨w.heap.size + 1 + 1, 3, none⟩ (.slice A10 0 c10)).drew := ⟨_, rfl⟩
    rw [← hW7]
    have hZ7 : Blk W7 (w.heap.size + 1 + 1) 70 #[.int .i64 ap, .int .i64 (bits .and .i64 (pc + 1) 16383), .bool false, (.slice A10 0 c10)] := by rw [hW7]; exact ((((hZ6.set_ 0 _).set_ 1 _).set_ 2 _).set_ 3 _).drew
    have hB7 : Below w.heap.size w W7 := by rw [hW7]; exact ((((hB6.setCell (by simp; omega) _).setCell (by simp; omega) _).setCell (by simp; omega) _).setCell (by simp; omega) _).drew
    have hO7 : Own W7 w.heap.size 5 1 A10 0 c10 (bvs []) := by rw [hW7]; exact (((((hO6.setFar (n10 _ (by simp; omega)) _).setFar (n10 _ (by simp; omega)) _).setFar (n10 _ (by simp; omega)) _).setFar (n10 _ (by simp; omega)) _).drew).mono (by omega)
    clear hW7 k0 k1 k2 k3 k4 kf t0 t1 t2 t3 tf
    obtain ⟨r0, r1, r2, r3, rf⟩ := hZ7.four
    go_wp2
    refine bodyPost_ret (v := .tuple #[.agg #[.int .i64 ap, .int .i64 (bits .and .i64 (pc + 1) 16383), .bool false, (.slice A10 0 c10)], (.slice none 0 0), .bool true, .int .i64 0]) (by simp [results, Try.results43, go_sem, r0, r1, r2, r3]) rfl ?_
    rw [HX.out]
    refine ⟨A10, c10, none, 0, ?_, ?_, ?_, (fun q _ e => by simp [blk] at e), hB7⟩
    · rfl
    · exact hO7
    · exact Own.none_ _ _ _ _

set_option maxHeartbeats 6400000 in
set_option maxRecDepth 100000 in
theorem pj_gap_0_2 (ap nx : Int) (A : Option Addr) (c : Nat) (u s : Bool) (pc : Int) (D : List UInt8) (B : Option Addr) (m d : Nat) (w : World) (hD : D.length = m) (hb : Rd w B (bvs D))
    (g3 : 0 ≤ nx) (g4 : nx ≤ 16383) (c0 : 0 ≤ pc) (c1 : pc ≤ 16383) (m1 : 1 ≤ m) (m2 : m ≤ 65536) (hgap : nx ≠ pc) (hok : jnOk ⟨ap, nx, false, []⟩) (hmay : pktMay ⟨u, s, ap, 2, pc, D⟩ = 0) :
    Calls Try.prog 43 #[.agg #[.int .i64 ap, .int .i64 nx, .bool false, .slice A 0 c], .agg #[.bool u, .bool s, .int .i64 ap, .int .i64 2, .int .i64 pc, .slice B m d]] w fun e w' => JRes w w' (⟨ap, (pc + 1) % 16384, false, []⟩, [], true, 0) e := by
  have HD := Lib.hid hD
  have hm := Lib.hid (fun w => hmay ▸ pmay_any ⟨u, s, ap, 2, pc, D⟩ B m d w hD)
  have hS := Lib.hid (fun w => decide_eq_true hok ▸ stands_any ap nx false [] A 0 c w rfl)
  have HX := Lib.hid (mask14_3 pc c0 c1)
  have m1i : (0 : Int) < (m : Int) := by omega
  have z8 : decide (0 ≤ nx) = true := by simp; omega
  have z10 : (nx != pc) = true := by simpa using hgap
  clear hD hmay hok
  go_enter Try.func43, Try.ntmps43
  go_wp2_with fail
  refine (hS.out _).mono ?_
  rintro e w1 ⟨rfl, hb1⟩
  obtain ⟨hJ, hP, hZ, hBw, hW0⟩ := boxes3 w #[.int .i64 ap, .int .i64 nx, .bool false, .slice A 0 c] #[.bool u, .bool s, .int .i64 ap, .int .i64 2, .int .i64 pc, .slice B m d] #[.int .i64 0, .int .i64 0, .bool false, .slice none 0 0] 70 34 70
  replace hJ := hJ.below' hb1
  replace hP := hP.below' hb1
  replace hZ := hZ.below' hb1
  have hB1 : Below w.heap.size w w1 := hBw.trans (hb1.mono (by omega))
  have zw1 : w.heap.size + 3 ≤ w1.heap.size := by have := hb1.size; omega
  clear hb1 hBw hW0
  obtain ⟨y0, y1, y2, y3, y4, y5, yf⟩ := hP.six
  go_wp2_with fail
  refine (hm.out _).mono ?_
  rintro e w2 ⟨rfl, hb2⟩
  clear y0 y1 y2 y3 y4 y5 yf
  replace hJ := hJ.below' hb2
  replace hP := hP.below' hb2
  replace hZ := hZ.below' hb2
  have zw2 := hb2.size
  have hB2 := nextB hB1 hB1.size hb2
  clear hb2 hB1
  obtain ⟨x0, x1, x2, x3, xf⟩ := hJ.four
  obtain ⟨y0, y1, y2, y3, y4, y5, yf⟩ := hP.six
  go_upto_region 9 with fail
  obtain ⟨W3, hW3⟩ : ∃ W : World, W = w2.alloc (.cells #[.int .i64 ap, .int .i64 nx, .bool false, .slice A 0 c, .bool false] 142) := ⟨_, rfl⟩
  rw [← hW3]
  have hK : Blk W3 w2.heap.size 142 #[.int .i64 ap, .int .i64 nx, .bool false, .slice A 0 c, .bool false] := by rw [hW3]; exact Blk.new _ _ _
  have hb3 : Below w2.heap.size w2 W3 := by rw [hW3]; exact (Below.refl _ _).alloc (Nat.le_refl _) _
  have zw3 : w2.heap.size + 1 ≤ W3.heap.size := by rw [hW3]; simp
  clear hW3 x0 x1 x2 x3 xf y0 y1 y2 y3 y4 y5 yf
  replace hP := hP.below' hb3
  replace hZ := hZ.below' hb3
  have hB3 := nextB hB2 hB2.size hb3
  generalize w2.heap.size = g at *
  clear hB2 hb3 hJ
  obtain ⟨y0, y1, y2, y3, y4, y5, yf⟩ := hP.six
  obtain ⟨k0, k1, k2, k3, k4, kf⟩ := hK.five
  go_quiet (fail)
  clear y0 y1 y2 y3 y4 y5 yf k0 k1 k2 k3 k4 kf
  replace hP := hP.drewN nq
  replace hZ := hZ.drewN nq
  replace hK := hK.drewN nq
  have hB := below_drewN hB3 nq
  have zw4 : g + 1 ≤ (W3.drewN nq).heap.size := zw3
  clear hB3 zw3
  generalize W3.drewN nq = W4 at *
  have rb := hb.below hB
  have nP : w.heap.size + 1 ≠ g := by omega
  have nZ : w.heap.size + 1 + 1 ≠ g := by omega
  have gw : w.heap.size ≤ g := by omega
  obtain ⟨y0, y1, y2, y3, y4, y5, yf⟩ := hP.six
  obtain ⟨k0, k1, k2, k3, k4, kf⟩ := hK.five
  go_wp2_with fail
  refine (drop_any ap nx false (.slice A 0 c) false g _ hK).mono ?_
  rintro e w5 ⟨rfl, hK2, hg2⟩
  try simp only [Bool.or_true, Bool.or_false, Bool.true_or, Bool.false_or] at hK2
  have hh : W4.grownBy w5 (some g) := grown_trans (World.grownBy.refl _ _) hg2 (.inl rfl)
  clear y0 y1 y2 y3 y4 y5 yf k0 k1 k2 k3 k4 kf hg2
  replace hP := hP.over hh (fun q hq e => by injection hq with hq; injection e with e; omega)
  replace hZ := hZ.over hh (fun q hq e => by injection hq with hq; injection e with e; omega)
  replace hB := hB.grown hh hB.size (fun q hq => by injection hq with hq; omega)
  replace rb := hb.below hB
  have zz : g + 1 ≤ w5.heap.size := by have := hh.size; omega
  clear zw4 hh
  have zw4 := zz
  clear zz hK
  have hK := hK2
  clear hK2
  obtain ⟨y0, y1, y2, y3, y4, y5, yf⟩ := hP.six
  obtain ⟨k0, k1, k2, k3, k4, kf⟩ := hK.five
  go_wp2_with fail
  refine (clone_n none [] 0 0 _ rfl (Rd.nil _ _) (by omega)).mono ?_
  rintro e w90 ⟨A10, c10, rfl, hO10, hb10⟩
  have hO10 := hO10.mono (base' := g + 1) (by first | omega | (simp; omega))
  have hK2 := (((hK.set_ 4 _).set_ 1 _).set_ 4 _).below' hb10
  have hg10 := grownBy_sub (g := g) hb10
  have hh : w5.grownBy w90 (some g) := grown_trans (grown_set (grown_set (grown_set (World.grownBy.refl _ _) _) _) _) hg10 (.inl rfl)
  clear y0 y1 y2 y3 y4 y5 yf k0 k1 k2 k3 k4 kf hg10
  replace hP := hP.over hh (fun q hq e => by injection hq with hq; injection e with e; omega)
  replace hZ := hZ.over hh (fun q hq e => by injection hq with hq; injection e with e; omega)
  replace hB := hB.grown hh hB.size (fun q hq => by injection hq with hq; omega)
  replace rb := hb.below hB
  have zz : g + 1 ≤ w90.heap.size := by have := hh.size; omega
  clear zw4 hh
  have zw4 := zz
  clear zz hK
  have hK := hK2
  clear hK2
  obtain ⟨y0, y1, y2, y3, y4, y5, yf⟩ := hP.six
  obtain ⟨k0, k1, k2, k3, k4, kf⟩ := hK.five
  have lt10 := hO10.lt
  clear hb10
  go_upto_region 23 with fail
  obtain ⟨W6, hW6⟩ : ∃ W : World, W = w90.setCell ⟨g, 3, none⟩ (.slice A10 0 c10) := ⟨_, rfl⟩
  rw [← hW6]
  have hK6 := hW6 ▸ hK.set_ 3 (.slice A10 0 c10)
  have hZ6 := hW6 ▸ hZ.far (p := ⟨g, 3, none⟩) (nZ) (.slice A10 0 c10)
  have hB6 := hW6 ▸ hB.setCell (p := ⟨g, 3, none⟩) gw (.slice A10 0 c10)
  clear k0 k1 k2 k3 k4 kf y0 y1 y2 y3 y4 y5 yf
  obtain ⟨k0, k1, k2, k3, k4, kf⟩ := hK6.five
  obtain ⟨t0, t1, t2, t3, tf⟩ := hZ6.four
  have n10 : ∀ p : Addr, p.block < g + 1 → blk A10 ≠ some p.block := fun p hp e => by have := (lt10 _ e).1; omega
  have hO6 : Own W6 (g + 1) 5 1 A10 0 c10 (bvs []) := by rw [hW6]; exact hO10.setFar (n10 _ (by simp)) _
  clear hW6
  go_region
  all_goals
    obtain ⟨W7, hW7⟩ : ∃ W : World, W = ((((W6.setCell ⟨w.heap.size + 1 + 1, 0, none⟩ (.int .i64 ap)).setCell ⟨w.heap.size + 1 + 1, 1, none⟩ (.int .i64 (bits .and .i64 (pc + 1) 16383))).setCell ⟨w.heap.size + 1 + 1, 2, none⟩ (.bool false)).setCell ⟨w.heap.size + 1 + 1, 3, none⟩ (.slice A10 0 c10)).drew := ⟨_, rfl⟩
    rw [← hW7]
    have hZ7 : Blk W7 (w.heap.size + 1 + 1) 70 #[.int .i64 ap, .int .i64 (bits .and .i64 (pc + 1) 16383), .bool false, (.slice A10 0 c10)] := by rw [hW7]; exact ((((hZ6.set_ 0 _).set_ 1 _).set_ 2 _).set_ 3 _).drew
    have hB7 : Below w.heap.size w W7 := by rw [hW7]; exact ((((hB6.setCell (by simp; omega) _).setCell (by simp; omega) _).setCell (by simp; omega) _).setCell (by simp; omega) _).drew
    have hO7 : Own W7 w.heap.size 5 1 A10 0 c10 (bvs []) := by rw [hW7]; exact (((((hO6.setFar (n10 _ (by simp; omega)) _).setFar (n10 _ (by simp; omega)) _).setFar (n10 _ (by simp; omega)) _).setFar (n10 _ (by simp; omega)) _).drew).mono (by omega)
    clear hW7 k0 k1 k2 k3 k4 kf t0 t1 t2 t3 tf
    obtain ⟨r0, r1, r2, r3, rf⟩ := hZ7.four
    go_wp2
    refine bodyPost_ret (v := .tuple #[.agg #[.int .i64 ap, .int .i64 (bits .and .i64 (pc + 1) 16383), .bool false, (.slice A10 0 c10)], (.slice none 0 0), .bool true, .int .i64 0]) (by simp [results, Try.results43, go_sem, r0, r1, r2, r3]) rfl ?_
    rw [HX.out]
    refine ⟨A10, c10, none, 0, ?_, ?_, ?_, (fun q _ e => by simp [blk] at e), hB7⟩
    · rfl
    · exact hO7
    · exact Own.none_ _ _ _ _
end Go.Proofs.Ytolcaolmdfbfhaa
